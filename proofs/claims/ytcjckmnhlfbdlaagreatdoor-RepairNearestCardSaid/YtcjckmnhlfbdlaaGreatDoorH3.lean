/- Part 3 of the texts that lead to repairNearestCard_holds. No condition. -/
import Derived.IntWalk
import Derived.Laws.BytesString
import Derived.Test.YtcjckmnhlfbdlaaGreatDoorH2
set_option linter.all false
namespace Go.Abs
open Go
section
variable {P : Program} {I : Nat → Prop} {m : List Loc} {H : List AO} {w : World}
theorem SOK.makeSlice (hr : HR I m H w) {t e : TypeId} {d te : TI} (hi : ti P t = some d) (hd : d.desc = .slice e) (he : ti P e = some te) {k k' : IntKind} {n : Int} (h0 : 0 ≤ n) (hb : n * te.bytes ≤ 140737488355328) (hn : n ≤ 9223372036854775807) (hs : te.size ≠ 0) :
 SOK P I m H w (Instr.makeSlice t (.int k n) (.int k' n)) (.sl H.length 0 n.toNat) (H ++ [.cells te.size ((List.replicate n.toNat (te.zero.map AV.v)).flatten)]) := by
 obtain ⟨zv, hz, hz1, hz2⟩ := run_zeroValue' (w := w) he
 obtain ⟨j, hj1, hj2, hj3⟩ := run_typeInfo' (w := w) he
 have hnz : zv.cells.size ≠ 0 := by omega
 have hz' := zeros_ok zv.cells hnz n.toNat
 rw [hz2, hz1] at hz'
 have hw : IntKind.i64.wrap n = n := IntWalk.i64_in n ⟨by omega, hn⟩
 have hone : ∀ x ∈ (List.replicate n.toNat te.zero).flatten, x.oneCell' = true := fun x hx => by
  obtain ⟨l, hl, hx⟩ := List.mem_flatten.1 hx
  rw [(List.mem_replicate.1 hl).2] at hx
  exact ti_zero_one he x hx
 have hone' : ((List.replicate n.toNat (te.zero.map AV.v)).flatten).all (·.one) = true := List.all_eq_true.2 fun c hc => by
  obtain ⟨l, hl, hx⟩ := List.mem_flatten.1 hc
  rw [(List.mem_replicate.1 hl).2] at hx
  exact List.all_eq_true.1 (map_v_one (ti_zero_one he)) c hx
 have hlen : (List.replicate n.toNat te.zero).flatten.length = n.toNat * te.size := by simp [ti_zero_len he]
 have hc2 : ¬ (281474976710656 < (j.bytes : Int) * n) := by
  have : (j.bytes : Int) * n ≤ 140737488355328 := by rw [hj3, Int.mul_comm]; exact hb
  omega
 have key : ∀ arr : Array Value, arr.toList = (List.replicate n.toNat te.zero).flatten →
  HR I (m ++ [⟨w.heap.size, 0, te.size, arr.size⟩]) (H ++ [.cells te.size ((List.replicate n.toNat (te.zero.map AV.v)).flatten)]) { w with heap := w.heap.push (.cells arr e) } ∧ _ := fun arr harr =>
  hr.newCells (w' := { w with heap := w.heap.push (.cells arr e) }) te.size (VRs.flatten_v n.toNat te.zero) hone' (rest := []) (arr := arr) (by simpa using harr) (E := e) (fz := (0, 0)) (by intro j _ h; simp at h) rfl rfl rfl rfl
 by_cases hz0 : n.toNat * te.size = 0
 ·have hn0 : n.toNat = 0 := (Nat.mul_eq_zero.1 hz0).resolve_right hs
  obtain ⟨h5, h6⟩ := key #[] (by simp [hn0])
  refine ⟨.slice (some ⟨w.heap.size, 0, none⟩) n.toNat n.toNat, _, _, ?_, ?_, h5, h6⟩
  ·simp only [Instr.makeSlice, Sem.run_bind, run_underlying' hi, hd, Result.andThen_ok, asInt, asIntOf, Sem.run_pure, hj1, hw, Sem.run_ite]
   simp [hc2, hn0, show ¬ (n < 0) by omega, newRow, run_sizeOf' he]
   simp [Array.range]
  ·simp only [VR]
   exact ⟨_, _, n.toNat, by rw [← hr.len]; exact last_lk _ hs, by simp [hn0], by omega, .inr rfl, rfl⟩
 ·obtain ⟨h5, h6⟩ := key ((Array.range (n.toNat * te.size)).map fun i => zv.cells[i % zv.cells.size]!) (by rw [hz2]; exact hz')
  refine ⟨.slice (some ⟨w.heap.size, 0, none⟩) n.toNat n.toNat, _, _, ?_, ?_, h5, h6⟩
  ·simp only [Instr.makeSlice, Sem.run_bind, run_underlying' hi, hd, Result.andThen_ok, asInt, asIntOf, Sem.run_pure, hj1, hw, Sem.run_ite, run_sizeOf' he]
   simp only [hz0, if_false]
   simp [hc2, show ¬ (n < 0) by omega, newRow, hz]
  ·simp only [VR]
   exact ⟨_, _, n.toNat, by rw [← hr.len]; exact last_lk _ hs, by simp, by omega, .inr rfl, rfl⟩
theorem run_sliceBound {k : IntKind} {i : Int} {y : Nat} {c : BoundsCode} (h : 0 ≤ i ∧ i ≤ y) : (Instr.sliceBound (.int k i) y c).run P w = .ok i.toNat w := by
 simp only [Instr.sliceBound, asIntOf, Sem.run_bind, Sem.run_pure, Result.andThen_ok, Sem.run_ite]
 rw [if_pos h]
theorem run_sliceBounds {isSlice : Bool} {len cap : Nat} {lo hi : Option AV} {lo' hi' : Option Value} (hl : ∀ a, lo = some a → ∃ b, lo' = some b ∧ VR I m w a b) (hl0 : lo = none → lo' = none) (hh : ∀ a, hi = some a → ∃ b, hi' = some b ∧ VR I m w a b) (hh0 : hi = none → hi' = none)
 {l h : Int} (e1 : boundOf lo 0 = some l) (e2 : boundOf hi len = some h) (h0 : 0 ≤ l) (h1 : l ≤ h) (h2 : h ≤ cap) :
 (Instr.sliceBounds isSlice len cap lo' hi' none).run P w = .ok (l.toNat, h.toNat, cap) w := by
 have Hh : (hi' = none ∧ h = len) ∨ (∃ k, hi' = some (.int k h)) := by
  cases hi with
  | none => simp only [boundOf] at e2; injection e2 with e2; exact .inl ⟨hh0 rfl, e2.symm⟩
  | some a =>
   obtain ⟨b, hb1, hb⟩ := hh a rfl
   cases a <;> simp only [boundOf] at e2 <;> try contradiction
   rename_i x
   cases x <;> simp only [] at e2 <;> try contradiction
   injection e2 with e2
   subst e2
   simp only [VR] at hb
   subst hb
   exact .inr ⟨_, hb1⟩
 have Hl : (lo' = none ∧ l = 0) ∨ (∃ k, lo' = some (.int k l)) := by
  cases lo with
  | none => simp only [boundOf] at e1; injection e1 with e1; exact .inl ⟨hl0 rfl, e1.symm⟩
  | some a =>
   obtain ⟨b, hb1, hb⟩ := hl a rfl
   cases a <;> simp only [boundOf] at e1 <;> try contradiction
   rename_i x
   cases x <;> simp only [] at e1 <;> try contradiction
   injection e1 with e1
   subst e1
   simp only [VR] at hb
   subst hb
   exact .inr ⟨_, hb1⟩
 clear hl hl0 hh hh0
 have hlt : l ≤ h.toNat := by omega
 rcases Hh with ⟨rfl, rfl⟩ | ⟨k, rfl⟩ <;> rcases Hl with ⟨rfl, rfl⟩ | ⟨k', rfl⟩ <;> simp only [Instr.sliceBounds, Sem.run_bind, Sem.run_pure, Result.andThen_ok]
 ·rfl
 ·rw [run_sliceBound ⟨h0, by omega⟩]; rfl
 ·rw [run_sliceBound ⟨by omega, h2⟩]; rfl
 ·rw [run_sliceBound ⟨by omega, h2⟩]; simp only [Result.andThen_ok]; rw [run_sliceBound ⟨h0, hlt⟩]; rfl
end
end Go.Abs
namespace Go.Abs
open Go
section
variable {P : Program} {I : Nat → Prop} {m : List Loc} {H : List AO} {w : World}
theorem lenS_spec {x : AV} {n : Nat} (h : lenS x = some n) {y : Value} (hx : VR I m w x y) : ∃ A c, y = .slice A n c ∧ n ≤ c := by
 unfold lenS at h
 split at h <;> first | (cases h; done) | (injection h with h; subst h)
 ·simp only [VR] at hx; exact ⟨none, 0, hx, Nat.le_refl _⟩
 ·simp only [VR] at hx; obtain ⟨A, rfl⟩ := hx; exact ⟨A, 0, rfl, Nat.le_refl _⟩
 ·simp only [VR] at hx; obtain ⟨A, c, rfl, h1, _⟩ := hx; exact ⟨A, c, rfl, h1⟩
 ·simp only [VR] at hx; obtain ⟨L, A, c, h1, h2, h3, h4, rfl⟩ := hx; exact ⟨A, c, rfl, h3⟩
theorem acut_ok (hr : HR I m H w) {sz : Nat} {x v : AV} {l h n : Nat} (e : acut H sz x l h = some v) (hn : lenS x = some n) (hlh : l ≤ h) (hhn : h ≤ n) {A : Option Addr} {c : Nat} (hx : VR I m w x (.slice A n c)) :
 VR I m w v (.slice (if c = l then A else A.map (·.add (l * sz))) (h - l) (c - l)) := by
 unfold acut at e
 split at e
 ·rename_i k cs
  have hk : k = n := by simpa [lenS] using hn
  subst hk
  simp only [VR] at hx
  obtain ⟨A', c', e', h1, h2⟩ := hx
  injection e' with e1 e2 e3
  subst e1; subst e3
  split at e
  ·rename_i hl
   injection e with e; subst e; subst hl
   simp only [VR]
   exact ⟨_, _, by rw [Nat.sub_self], by omega, .inl trivial⟩
  ·rename_i hl
   injection e with e; subst e
   rw [if_neg (by omega)]
   simp only [VR]
   refine ⟨_, _, rfl, by omega, ?_⟩
   rcases h2 with rfl | ⟨b, o, rfl, h3, h4⟩
   ·exact .inl (by simp)
   ·exact .inr ⟨b, o + l * sz, by simp [add_none], h3, h4.drop _⟩
 ·rename_i id off k
  have hk : k = n := by simpa [lenS] using hn
  subst hk
  have key : ∀ sz', (∃ cs, H[id]? = some (.cells sz' cs) ∨ H[id]? = some (.ice sz' cs)) → sz' = sz → v = .sl id (off + l * sz) (h - l) → VR I m w v (.slice (if c = l then A else A.map (·.add (l * sz))) (h - l) (c - l)) := by
   rintro sz' ⟨cs, ho⟩ rfl rfl
   simp only [VR] at hx
   obtain ⟨L, A', c', h1, h2, h3, h4, e'⟩ := hx
   injection e' with e1 e2 e3
   subst e1; subst e3
   have hLs : L.sz = sz' := by
    rcases ho with ho | ho
    ·exact (hr.ob id _ L ho (lk_get h1).1).1
    ·exact (hr.ob id _ L ho (lk_get h1).1).1
   simp only [VR]
   by_cases hc : c = l
   ·subst hc
    rw [if_pos rfl]
    refine ⟨L, A, c - c, h1, ?_, by omega, .inl (by omega), rfl⟩
    rw [Nat.sub_self, Nat.zero_mul, Nat.add_zero, ← hLs]; omega
   ·rw [if_neg hc]
    refine ⟨L, A.map (·.add (l * sz')), c - l, h1, ?_, by omega, .inr ?_, rfl⟩
    ·rw [Nat.sub_mul, ← hLs]
     have : l * L.sz ≤ c * L.sz := Nat.mul_le_mul_right _ (by omega)
     omega
    ·rcases h4 with h4 | h4
     ·omega
     ·rw [h4]; simp only [Option.map_some, add_none]; congr 2; omega
  split at e
  ·rename_i sz' cs ho
   split at e
   ·rename_i hsz
    injection e with e
    exact key sz' ⟨cs, .inl ho⟩ hsz e.symm
   ·cases e
  ·rename_i sz' cs ho
   split at e
   ·rename_i hsz
    injection e with e
    exact key sz' ⟨cs, .inr ho⟩ hsz e.symm
   ·cases e
  ·cases e
 ·injection e with e; subst e
  simp only [VR] at hx ⊢
  injection hx with e1 e2 e3
  subst e1; subst e2; subst e3
  simp
  omega
 ·injection e with e; subst e
  simp only [VR] at hx ⊢
  obtain ⟨A', e'⟩ := hx
  injection e' with e1 e2 e3
  subst e1; subst e2; subst e3
  have h0 : l = 0 := by omega
  have h1 : h = 0 := by omega
  subst h0; subst h1
  exact ⟨A, by simp⟩
 ·cases e
theorem boundOf_some {a : Option AV} {b : Option Value} (h : ∀ x, a = some x → ∃ y, b = some y ∧ VR I m w x y) {d : Int} (hd : d ≠ 0) (e : boundOf a d = some 0) : ∃ k, b = some (.int k 0) := by
 cases a with
 | none => simp only [boundOf] at e; injection e with e; exact absurd e hd
 | some x =>
  obtain ⟨y, hy1, hy⟩ := h x rfl
  cases x <;> simp only [boundOf] at e <;> try contradiction
  rename_i x
  cases x <;> simp only [] at e <;> try contradiction
  injection e with e
  subst e
  simp only [VR] at hy
  subst hy
  exact ⟨_, hy1⟩
theorem aslice_ok (hr : HR I m H w) {t : TypeId} {x v : AV} {lo hi mx : Option AV} {lo' hi' mx' : Option Value} (e : aslice P H t x lo hi mx = some v) {y : Value} (hx : VR I m w x y)
 (hl : ∀ a, lo = some a → ∃ b, lo' = some b ∧ VR I m w a b) (hl0 : lo = none → lo' = none) (hh : ∀ a, hi = some a → ∃ b, hi' = some b ∧ VR I m w a b) (hh0 : hi = none → hi' = none) (hm : ∀ a, mx = some a → ∃ b, mx' = some b ∧ VR I m w a b) (hm0 : mx = none → mx' = none) :
 ∃ z, (Instr.sliceAt t y lo' hi' mx').run P w = .ok z w ∧ VR I m w v z := by
 unfold aslice at e
 split at e
 ·cases e
 ·rename_i d hd
  split at e
  ·rename_i hdd
   rw [hm0 rfl]
   split at e
   ·rename_i s
    simp only [VR] at hx
    subst hx
    split at e
    ·rename_i l h e1 e2
     split at e
     ·rename_i hc
      injection e with e; subst e
      refine ⟨.string (s.extract l.toNat h.toNat), ?_, by simp only [VR]⟩
      simp only [Instr.sliceAt, Sem.run_bind, run_underlying' hd, hdd, Result.andThen_ok, Instr.slice, Sem.run_ite]
      rw [if_neg (by simp)]
      simp [run_sliceBounds (isSlice := false) hl hl0 hh hh0 e1 e2 hc.1 hc.2.1 hc.2.2]
     ·cases e
    ·cases e
   ·cases e
  ·rename_i ed hdd
   rw [hm0 rfl]
   split at e
   ·rename_i te n hte hn
    split at e
    ·rename_i l h e1 e2
     split at e
     ·rename_i hc
      obtain ⟨A, c, rfl, hnc⟩ := lenS_spec hn hx
      refine ⟨_, ?_, acut_ok hr e hn (by omega) (by omega) hx⟩
      simp only [Instr.sliceAt, Sem.run_bind, run_underlying' hd, hdd, Result.andThen_ok, Instr.slice, run_sizeOf' hte]
      simp [run_sliceBounds (isSlice := true) hl hl0 hh hh0 e1 e2 hc.1 hc.2.1 (by omega : h ≤ c), run_sizeOf' hte]
     ·cases e
    ·cases e
   ·cases e
  ·rename_i ed mm hdd
   split at e
   ·rename_i te n hte hn
    split at e
    ·rename_i hc
     injection e with e; subst e
     obtain ⟨A, c, rfl, hnc⟩ := lenS_spec hn hx
     obtain ⟨k1, rfl⟩ := boundOf_some hh (by decide) hc.2.1
     obtain ⟨k2, rfl⟩ := boundOf_some hm (by decide) hc.2.2
     have b0 : ∀ k y cd, (Instr.sliceBound (.int k 0) y cd).run P w = .ok 0 w := fun k y cd => run_sliceBound ⟨by omega, by omega⟩
     have hlo : lo' = none ∨ ∃ k, lo' = some (.int k 0) := by
      cases lo with
      | none => exact .inl (hl0 rfl)
      | some a => exact .inr (boundOf_some (d := -1) hl (by decide) (by
       have h2 := hc.1
       cases a <;> simp only [boundOf] at h2 ⊢ <;> try contradiction
       rename_i x; cases x <;> simp only [] at h2 ⊢ <;> first | exact h2 | contradiction))
     refine ⟨.slice A 0 0, ?_, by simp only [VR]; exact ⟨A, rfl⟩⟩
     rcases hlo with rfl | ⟨k3, rfl⟩ <;>
     simp [Instr.sliceAt, run_underlying' hd, hdd, Instr.slice, run_sizeOf' hte, Instr.sliceBounds, b0]
    ·cases e
   ·cases e
  ·cases e
theorem aindexAddr_ok {t : TypeId} {x v : AV} {k : IntKind} {i : Int} (e : aindexAddr P t x i = some v) {y : Value} (hx : VR I m w x y) : ∃ z, (Instr.indexAt t y (.int k i)).run P w = .ok z w ∧ VR I m w v z := by
 unfold aindexAddr at e
 split at e
 ·rename_i ed _ _ _ hd
  split at e
  ·rename_i te hte
   split at e
   ·rename_i id off len
    split at e
    ·rename_i hc
     injection e with e; subst e
     simp only [VR] at hx
     obtain ⟨L, A, c, h1, h2, h3, h4, rfl⟩ := hx
     have ha : A = some ⟨L.b, L.o + off, none⟩ := h4.resolve_left (by omega)
     subst ha
     refine ⟨.pointer (some ((⟨L.b, L.o + off, none⟩ : Addr).add (i.toNat * te.size))), ?_, ?_⟩
     ·simp only [Instr.indexAt, asIntOf, Sem.run_bind, Sem.run_pure, Result.andThen_ok, run_underlying' hd, Sem.run_ite]
      rw [if_pos hc]
      simp [run_sizeOf' hte]
     ·simp only [VR]; exact ⟨L, h1, by rw [add_none]; congr 3; omega⟩
    ·cases e
   ·rename_i n cs
    split at e
    ·rename_i hc
     injection e with e; subst e
     simp only [VR] at hx
     obtain ⟨A, c, rfl, h1, h2⟩ := hx
     rcases h2 with rfl | ⟨b, o, rfl, h3, h4⟩
     ·simp at hc
     ·refine ⟨.pointer (some ((⟨b, o, none⟩ : Addr).add (i.toNat * te.size))), ?_, ?_⟩
      ·simp only [Instr.indexAt, asIntOf, Sem.run_bind, Sem.run_pure, Result.andThen_ok, run_underlying' hd, Sem.run_ite]
       rw [if_pos ⟨hc.1, hc.2.1⟩]
       simp [run_sizeOf' hte]
      ·simp only [VR]; exact ⟨b, o + i.toNat * te.size, by rw [add_none], h3, h4.drop _⟩
    ·cases e
   ·cases e
  ·cases e
 ·rename_i n ed _ _ _ hd
  split at e
  ·rename_i te hte
   split at e
   ·rename_i id off
    split at e
    ·rename_i hc
     injection e with e; subst e
     simp only [VR] at hx
     obtain ⟨L, h1, rfl⟩ := hx
     refine ⟨.pointer (some ((⟨L.b, L.o + off, none⟩ : Addr).add (i.toNat * te.size))), ?_, ?_⟩
     ·simp only [Instr.indexAt, asIntOf, Sem.run_bind, Sem.run_pure, Result.andThen_ok, run_underlying' hd, Instr.sureAddr, Sem.run_ite]
      rw [if_pos hc]
      simp [run_sizeOf' hte]
     ·simp only [VR]; exact ⟨L, h1, by rw [add_none]; congr 3; omega⟩
    ·cases e
   ·cases e
  ·cases e
 ·cases e
theorem aint_ok {op : BinOp} {k : IntKind} {a b : Int} {r : Value} (h : aint op k a b = some r) : ∀ t, (binOp op t (.int k a) (.int k b)).run P w = .ok r w := by
  intro t
  cases op <;> simp only [aint] at h <;> first
    | (cases h; done)
    | (injection h with h; subst h; simp [binOp, Op.intArith, Op.intBits, Op.intCmp]; done)
    | (injection h with h; subst h; simp [binOp, Op.intArith, Op.intBits, Op.intCmp]; rfl)
    | (split at h
       · cases h
       · rename_i hb; injection h with h; subst h; simp [binOp, Op.intDiv, hb])
theorem ashift_ok {op : BinOp} {k k' : IntKind} {a b : Int} {r : Value} (h : ashift op k a b = some r) : ∀ t, (binOp op t (.int k a) (.int k' b)).run P w = .ok r w := by
  intro t
  cases op <;> simp only [ashift] at h <;> first
    | (cases h; done)
    | (split at h
       · cases h
       · rename_i hb; injection h with h; subst h; simp [binOp, Op.shift, hb])
theorem astr_ok {op : BinOp} {a b : ByteArray} {r : Value} (h : astr op a b = some r) : ∀ t, (binOp op t (.string a) (.string b)).run P w = .ok r w := by
  intro t
  cases op <;> simp only [astr] at h <;> first
    | (cases h; done)
    | (injection h with h; subst h; simp [binOp, Op.stringOp]; done)
    | (injection h with h; subst h; simp [binOp, Op.stringOp]; rfl)
    | (split at h
       · rename_i hb; injection h with h; subst h; simp [binOp, Op.stringOp, IntKind.max, IntKind.signed, IntKind.bits]; omega
       · cases h)
theorem abin_ok {op : BinOp} {a b r : Value} (h : abin op a b = some r) : ∀ t, (binOp op t a b).run P w = .ok r w := by
 intro t
 unfold abin at h
 split at h
 ·rename_i k x k' y
  split at h
  ·exact ashift_ok h t
  ·exact ashift_ok h t
  ·rename_i hs1 hs2
   split at h
   ·rename_i hk; subst hk; exact aint_ok h t
   ·cases h
 ·exact astr_ok h t
 ·cases h
theorem eqGuard_ok {op : BinOp} {t : TypeId} {x y : Operand} {a b : Value} (h1 : a ≠ .nilIface) (h2 : a.oneCell' = true) : (eqGuard op t x y a b).run P w = .ok () w := by
 unfold eqGuard
 cases a <;> first | (exact absurd rfl h1) | (simp [Value.oneCell'] at h2; done) | (split <;> simp)
theorem aun_ok {op : UnOp} {x r : Value} (h : aun op x = some r) : (Op.unary op x).run P w = .ok r w := by
 unfold aun at h
 split at h
 ·rename_i k n
  simp only [aint] at h; injection h with h; subst h; simp [Op.unary, Op.intArith]
 ·rename_i k n
  simp only [aint] at h; injection h with h; subst h; simp [Op.unary, Op.intBits]
 ·injection h with h; subst h; simp [Op.unary]
 ·cases h
end
end Go.Abs
namespace Go.Abs
open Go
section
variable {P : Program} {I : Nat → Prop} {m : List Loc} {H : List AO} {w : World}
theorem run_loadCells' {b o n : Nat} {cs : List AV} (hl : cs.length = n) (h : ∀ (i : Nat) c, cs[i]? = some c → ∃ y, w.cell? ⟨b, o + i, none⟩ = some y ∧ VR I m w c y) :
 ∃ ys, (loadCells ⟨b, o, none⟩ n).run P w = .ok ys w ∧ VRs I m w cs ys.toList := by
 obtain ⟨ys, h1, h2⟩ := run_loadCellsFrom' (P := P) (I := I) (m := m) (w := w) b o n 0 cs #[] (by simpa using h) hl
 exact ⟨ys, by simpa [loadCells] using h1, h2⟩
theorem HR.cellOf (hr : HR I m H w) {id sz : Nat} {cs : List AV} (ho : H[id]? = some (.cells sz cs) ∨ H[id]? = some (.ice sz cs)) {L : Loc} (hm : m[id]? = some L) {i : Nat} {c : AV} (hc : cs[i]? = some c) :
 ∃ y, w.cell? ⟨L.b, L.o + i, none⟩ = some y ∧ VR I m w c y := by
 have hlt : i < cs.length := (List.getElem?_eq_some_iff.1 hc).1
 rcases ho with ho | ho
 ·obtain ⟨_, hle, hob⟩ := hr.ob id _ L ho hm
  obtain ⟨ce, E, fz, h2, h3, h4, h6⟩ := hob (by omega)
  obtain ⟨y, h7, h8, _⟩ := h6 _ c hc
  exact ⟨y, by simp only [World.cell?, h2]; simpa using h7, h8⟩
 ·obtain ⟨_, hle, hob⟩ := hr.ob id _ L ho hm
  exact (hob (by omega)).2.get _ c hc
theorem HR.szOf (hr : HR I m H w) {id sz : Nat} {cs : List AV} (ho : H[id]? = some (.cells sz cs) ∨ H[id]? = some (.ice sz cs)) {L : Loc} (hm : m[id]? = some L) : L.sz = sz ∧ cs.length ≤ L.cap := by
 rcases ho with ho | ho
 ·obtain ⟨h1, hle, hob⟩ := hr.ob id _ L ho hm; exact ⟨h1, hle⟩
 ·obtain ⟨h1, hle, hob⟩ := hr.ob id _ L ho hm; exact ⟨h1, hle⟩
theorem firstA_ok (hr : HR I m H w) {size n : Nat} {x : AV} {cs : List AV} (e : firstA H size n x = some cs) {y : Value} (hx : VR I m w x y) :
 ∃ ys, (Builtin.firstCells size n y).run P w = .ok ys w ∧ VRs I m w cs ys.toList := by
 unfold firstA at e
 split at e
 ·split at e
  ·rename_i hn
   injection e with e; subst e; subst hn
   simp only [VR] at hx; subst hx
   exact ⟨#[], by simp [Builtin.firstCells], by simp [VRs]⟩
  ·cases e
 ·split at e
  ·rename_i hn
   injection e with e; subst e; subst hn
   simp only [VR] at hx; obtain ⟨A, rfl⟩ := hx
   refine ⟨#[], ?_, by simp [VRs]⟩
   cases A <;> simp [Builtin.firstCells, loadCells, loadCellsFrom]
  ·cases e
 ·rename_i k cs'
  split at e
  ·rename_i hn
   injection e with e; subst e
   simp only [VR] at hx; obtain ⟨A, c, rfl, h1, h2⟩ := hx
   rcases h2 with rfl | ⟨b, o, rfl, h3, h4⟩
   ·have h0 : n * size = 0 := by simpa using hn.2
    refine ⟨#[], ?_, by simp [VRs]⟩
    cases A <;> simp [Builtin.firstCells, loadCells, loadCellsFrom, h0]
   ·obtain ⟨ys, h5, h6⟩ := run_loadCells' (P := P) (I := I) (m := m) (w := w) (b := b) (o := o) (n := n * size) (cs := cs'.take (n * size)) (by simp; omega) (fun i c hc => by
     rw [List.getElem?_take] at hc
     split at hc
     ·exact h4.get i c hc
     ·cases hc)
    exact ⟨ys, by simpa [Builtin.firstCells] using h5, h6⟩
  ·cases e
 ·rename_i id off k
  have key : ∀ sz cs', (H[id]? = some (.cells sz cs') ∨ H[id]? = some (.ice sz cs')) → sz = size ∧ n ≤ k ∧ off + n * size ≤ cs'.length → cs = (cs'.drop off).take (n * size) → ∃ ys, (Builtin.firstCells size n y).run P w = .ok ys w ∧ VRs I m w cs ys.toList := by
   rintro sz cs' ho hc rfl
   simp only [VR] at hx; obtain ⟨L, A, c, h1, h2, h3, h4, rfl⟩ := hx
   replace h1 := (lk_get h1).1
   by_cases hc0 : c = 0
   ·have hn0 : n = 0 := by omega
    subst hn0
    refine ⟨#[], ?_, by simp [VRs]⟩
    cases A <;> simp [Builtin.firstCells, loadCells, loadCellsFrom]
   ·have ha := h4.resolve_left hc0
    subst ha
    obtain ⟨ys, h5, h6⟩ := run_loadCells' (P := P) (I := I) (m := m) (w := w) (b := L.b) (o := L.o + off) (n := n * size) (cs := (cs'.drop off).take (n * size)) (by simp; omega) (fun i c hc => by
     rw [List.getElem?_take] at hc
     split at hc
     ·rw [List.getElem?_drop] at hc
      obtain ⟨y, h7, h8⟩ := hr.cellOf ho h1 hc
      exact ⟨y, by rw [← h7]; congr 2; omega, h8⟩
     ·cases hc)
    exact ⟨ys, by simpa [Builtin.firstCells] using h5, h6⟩
  split at e
  ·rename_i sz cs' ho
   split at e
   ·rename_i hc
    injection e with e
    exact key sz cs' (.inl ho) hc e.symm
   ·cases e
  ·rename_i sz cs' ho
   split at e
   ·rename_i hc
    injection e with e
    exact key sz cs' (.inr ho) hc e.symm
   ·cases e
  ·cases e
 ·rename_i s
  split at e
  ·rename_i hn
   injection e with e; subst e
   simp only [VR] at hx; subst hx
   refine ⟨(s.extract 0 n).data.map fun b => .int .u8 b.toNat, by simp [Builtin.firstCells], ?_⟩
   have e1 : ((s.extract 0 n).data.map fun b => Value.int .u8 b.toNat).toList = (s.data.toList.take n).map fun b => Value.int .u8 b.toNat := by
    simp [ByteArray.data_extract]
   rw [e1]
   generalize s.data.toList.take n = l
   induction l with
   | nil => simp [VRs]
   | cons b l ih => simp only [List.map_cons, VRs]; exact ⟨_, _, rfl, by simp only [VR], ih⟩
  ·cases e
 ·cases e
theorem append_new {t u e ty : TypeId} {d du te : TI} (hi : ti P t = some d) (hd : d.desc = .slice e) (hu : ti P u = some du) (hz : isIntD du.desc = false) (he : ti P e = some te)
    {x : Value} {A : Option Addr} {sLen sCap n : Nat} (hn : ∀ w : World, (Builtin.lenOf x).run P w = .ok n w) (hn0 : sCap < sLen + n) (hb : (sLen + n) * te.bytes ≤ 140737488355328) (h63 : sLen + n ≤ 9223372036854775807)
    {olds news : List AV} (hold : ∀ w' : World, w'.heap = w.heap → ∃ ys, (Builtin.firstCells te.size sLen (.slice A sLen sCap)).run P w' = .ok ys w' ∧ VRs I m w olds ys.toList) (hnew : ∀ w' : World, w'.heap = w.heap → ∃ ys, (Builtin.firstCells te.size n x).run P w' = .ok ys w' ∧ VRs I m w news ys.toList)
    (hol : olds.length = sLen * te.size) (hnl : news.length = n * te.size) :
    ∃ k w' arr rest xs, (Builtin.append_ #[t, u] ty #[.slice A sLen sCap, x]).run P w = .ok (.slice (some ⟨w.heap.size, 0, none⟩) (sLen + n) k) w' ∧ sLen + n ≤ k ∧ w'.heap = w.heap.push (.cells arr e) ∧ w'.os = w.os ∧ w'.tape = w.tape ∧ w'.output = w.output ∧
      arr.toList = xs ++ rest ∧ arr.size = k * te.size ∧ VRs I m w (olds ++ news) xs := by
  obtain ⟨zv, hz0, hz1, hz2⟩ := run_zeroValue' (w := { w with drawn := w.drawn + 1 }) he
  obtain ⟨j, hj1, hj2, hj3⟩ := run_typeInfo' (w := w) he
  obtain ⟨j', hj1', hj2', hj3'⟩ := run_typeInfo' (w := { w with drawn := w.drawn + 1 }) he
  obtain ⟨xs, hx1, hx2⟩ := hold { w with drawn := w.drawn + 1 } rfl
  obtain ⟨ys, hy1, hy2⟩ := hnew { w with drawn := w.drawn + 1 } rfl
  have hgs := growslice_fits hn0 hb
  refine ⟨sLen + n + w.tape w.drawn (.appendCap (sLen + n) sCap e) % (2 ^ 63 - (sLen + n)), { w with drawn := w.drawn + 1, heap := w.heap.push (.cells (xs ++ ys ++ Builtin.zeroCells zv.cells (sLen + n + w.tape w.drawn (.appendCap (sLen + n) sCap e) % (2 ^ 63 - (sLen + n)) - (sLen + n))) e) }, _, (Builtin.zeroCells zv.cells (sLen + n + w.tape w.drawn (.appendCap (sLen + n) sCap e) % (2 ^ 63 - (sLen + n)) - (sLen + n))).toList, xs.toList ++ ys.toList, ?_, Nat.le_add_right _ _, rfl, rfl, rfl, rfl, by simp, ?_, hx2.append hy2⟩
  · have hu1 := run_underlying' (w := w) hu
    have hg : decide (Builtin.nextslicecap (sLen + n) sCap * j.bytes > 2 ^ 48) = false := by rw [hj3]; exact decide_eq_false (by omega)
    have hg' : ¬ (Builtin.nextslicecap (sLen + n) sCap * j.bytes > 2 ^ 48) := by rw [hj3]; omega
    have hn1 : ¬ (sLen + n ≤ sCap) := by omega
    have hn2 : ¬ (((sLen + n : Nat) : Int) > IntKind.i64.max ∧ ((false = true) ∨ j.bytes = 0)) := by
      intro h; have := h.1; simp [IntKind.max, IntKind.signed, IntKind.bits] at this; omega
    have hnf : (Question.appendCap (sLen + n) sCap e).forced = false := rfl
    generalize hdd : du.desc = D at *
    cases D <;> first
      | (simp [isIntD] at hz; done)
      | (simp only [Builtin.append_, List.getElem?_toArray, List.getElem?_cons_zero, List.getElem?_cons_succ, Sem.run_bind, run_underlying' hi, hd, Result.andThen_ok, run_sizeOf' he, hu1, hdd, Sem.run_pure, hn, Sem.run_ite, Bool.false_eq_true, if_false, hn1, hj1]
         rw [if_neg (by intro h; have := h.1; simp [IntKind.max, IntKind.signed, IntKind.bits] at this; omega), if_neg hg']
         simp only [run_choose, hnf, Bool.false_eq_true, if_false, Result.andThen_ok, Sem.run_bind, hj1', run_askRoom, hx1, Bool.not_false, if_true, hy1, hz0, Question.cut, newRow, run_newObj, Sem.run_pure])
  · have h1 := hx2.len
    have h2 := hy2.len
    rw [Array.length_toList] at h1 h2
    simp only [Array.size_append, size_zeroCells, hz2, h1, h2, hol, hnl]
    rw [← Nat.add_mul, ← Nat.add_mul]
    congr 1
    omega
theorem lenA_any {x : AV} {n : Nat} (e : lenA x = some n) {y : Value} (hx : VR I m w x y) : ∀ w' : World, (Builtin.lenOf y).run P w' = .ok n w' := by
 intro w'
 unfold lenA at e
 split at e <;> first | (cases e; done) | (injection e with e; subst e)
 ·simp only [VR] at hx; subst hx; simp [Builtin.lenOf]
 ·simp only [VR] at hx; obtain ⟨A, rfl⟩ := hx; simp [Builtin.lenOf]
 ·simp only [VR] at hx; obtain ⟨A, c, rfl, _⟩ := hx; simp [Builtin.lenOf]
 ·simp only [VR] at hx; obtain ⟨L, a, c, _, _, _, _, rfl⟩ := hx; simp [Builtin.lenOf]
 ·simp only [VR] at hx; subst hx; simp [Builtin.lenOf]
theorem VRs.of_heap {w' : World} (h : w'.heap = w.heap) {cs : List AV} {xs : List Value} (k : VRs I m w cs xs) : VRs I m w' cs xs := by
 have := VRs.mono (nu := []) (w' := w') (fun _ h => h) (fun b _ => by rw [h]) cs xs k
 simpa using this
theorem VR.of_heap {w' : World} (h : w'.heap = w.heap) {c : AV} {x : Value} (k : VR I m w c x) : VR I m w' c x := by
 have := VR.mono (nu := []) (w' := w') (fun _ h => h) (fun b _ => by rw [h]) c x k
 simpa using this
theorem HR.of_heap {w' : World} (h : w'.heap = w.heap) (k : HR I m H w) : HR I m H w' where
 len := k.len
 ob := fun id o L h1 h2 => by
  have := OR.mono (nu := []) (w' := w') (fun _ h => h) (fun b _ => by rw [h]) (fun _ _ => by rw [h]) (k.ob id o L h1 h2)
  simpa using this
 inj := k.inj
 imm := k.imm
 ilt := fun b hb => by rw [h]; exact k.ilt b hb
 gl := k.gl.on (fun _ h => h) fun b _ => by rw [h]
theorem firstA_any (hr : HR I m H w) {size n : Nat} {x : AV} {cs : List AV} (e : firstA H size n x = some cs) {y : Value} (hx : VR I m w x y) (w' : World) (hw : w'.heap = w.heap) :
 ∃ ys, (Builtin.firstCells size n y).run P w' = .ok ys w' ∧ VRs I m w cs ys.toList := by
 obtain ⟨ys, h1, h2⟩ := firstA_ok (P := P) (hr.of_heap hw) e (hx.of_heap hw)
 exact ⟨ys, h1, VRs.of_heap hw.symm h2⟩
set_option maxHeartbeats 4000000 in
theorem aappend_ok (hr : HR I m H w) {t u ty : TypeId} {s x v : AV} {H' : List AO} (e : aappend P H t u s x = some (v, H')) {ys yx : Value} (hs : VR I m w s ys) (hx : VR I m w x yx) :
 SOK P I m H w (Builtin.append_ #[t, u] ty #[ys, yx]) v H' := by
 unfold aappend at e
 split at e
 case h_2 => cases e
 rename_i ed _ _ _ dd _ _ _ hd hu
 split at e
 case h_2 => cases e
 rename_i te hte
 split at e
 ·cases e
 rename_i hz0
 have hz : isIntD dd = false := by simpa using hz0
 clear hz0
 split at e
 case h_2 => cases e
 rename_i n hn
 split at e
 case h_2 => cases e
 rename_i new hnew
 split at e
 case isFalse => cases e
 rename_i hc
 obtain ⟨hone, hsz, hnl⟩ := hc
 have hlen := lenA_any (P := P) hn hx
 have hfirst := firstA_any (P := P) hr hnew hx
 have hu1 := run_underlying' (w := w) hu
 have same : ∀ (A : Option Addr) (H0 : List AO) (w0 : World), ys = .slice A 0 0 → n = 0 → (∃ m0, HR I (m0 ++ [⟨0, 0, te.size, 0⟩]) (H0 ++ [.cells te.size new]) w ∧ m0.length = H0.length ∧ Ext I m (Own H m) w I (m0 ++ [⟨0, 0, te.size, 0⟩]) (Own (H0 ++ [.cells te.size new]) (m0 ++ [⟨0, 0, te.size, 0⟩])) w) → SOK P I m H w (Builtin.append_ #[t, u] ty #[ys, yx]) (.sl H0.length 0 0) (H0 ++ [.cells te.size new]) := fun A H0 w0 hy h0 ⟨m0, hv1, hv2, hv3⟩ => by
  subst hy; subst h0
  obtain ⟨zs, hz1, hz2⟩ := hfirst w rfl
  have hnew0 : new = [] := List.eq_nil_of_length_eq_zero (by rw [hnl]; simp)
  subst hnew0
  simp only [VRs] at hz2
  have hzs : zs = #[] := by cases zs; simp_all
  subst hzs
  refine ⟨.slice A 0 0, w, _, ?_, ?_, hv1, hv3⟩
  ·cases dd <;> first
    | (simp [isIntD] at hz; done)
    | (cases A <;> simp [Builtin.append_, run_underlying' hd, run_sizeOf' hte, hu1, hlen, hz1, storeCells])
  ·simp only [VR]
   refine ⟨⟨0, 0, te.size, 0⟩, A, 0, ?_, by simp, Nat.le_refl _, .inl rfl, rfl⟩
   rw [← hv2]
   exact last_lk _ hsz
 have void : n = 0 → ∃ m0, HR I (m0 ++ [⟨0, 0, te.size, 0⟩]) (H ++ [.cells te.size new]) w ∧ m0.length = H.length ∧ Ext I m (Own H m) w I (m0 ++ [⟨0, 0, te.size, 0⟩]) (Own (H ++ [.cells te.size new]) (m0 ++ [⟨0, 0, te.size, 0⟩])) w := fun h0 => by
  have hnew0 : new = [] := List.eq_nil_of_length_eq_zero (by rw [hnl, h0]; simp)
  subst hnew0
  exact ⟨m, (hr.pushVoid 0 te.size).1, hr.len, (hr.pushVoid 0 te.size).2⟩
 split at e
 ·
  simp only [VR] at hs
  subst hs
  by_cases h0 : n = 0
  ·split at e
   ·injection e with e
    obtain ⟨rfl, rfl⟩ := Prod.mk.inj e
    rw [h0]
    exact same none H w rfl h0 (void h0)
   ·cases e
  ·split at e
   ·rename_i hb
    injection e with e
    obtain ⟨rfl, rfl⟩ := Prod.mk.inj e
    obtain ⟨k, w', arr, rest, xs, h1, h2, h3, h4, h5, h6, h7, h8, h9⟩ := append_new (P := P) (I := I) (m := m) (w := w) (ty := ty) (A := none) (sLen := 0) (sCap := 0) (olds := []) (news := new) hd rfl hu hz hte hlen (by omega) (by simpa using hb.1) (by simpa using hb.2) (fun w' hw' => ⟨#[], by simp [Builtin.firstCells], by simp [VRs]⟩) hfirst (by simp) hnl
    simp only [Nat.zero_add, List.nil_append] at h1 h2 h9
    obtain ⟨h10, h11⟩ := hr.newCells te.size h9 hone h7 (fz := (0, 0)) (by intro j _ h; simp at h) h3 h4 h5 h6
    refine ⟨_, w', _, h1, ?_, h10, h11⟩
    simp only [VR]
    exact ⟨_, _, k, by rw [← hr.len]; exact last_lk _ hsz, by simp [h8], h2, .inr rfl, rfl⟩
   ·cases e
 ·
  have hs' := hs
  simp only [VR] at hs
  obtain ⟨A, rfl⟩ := hs
  by_cases h0 : n = 0
  ·split at e
   ·injection e with e
    obtain ⟨rfl, rfl⟩ := Prod.mk.inj e
    rw [h0]
    exact same A H w rfl h0 (void h0)
   ·cases e
  ·split at e
   ·rename_i hb
    injection e with e
    obtain ⟨rfl, rfl⟩ := Prod.mk.inj e
    obtain ⟨k, w', arr, rest, xs, h1, h2, h3, h4, h5, h6, h7, h8, h9⟩ := append_new (P := P) (I := I) (m := m) (w := w) (ty := ty) (A := A) (sLen := 0) (sCap := 0) (olds := []) (news := new) hd rfl hu hz hte hlen (by omega) (by simpa using hb.1) (by simpa using hb.2) (fun w' hw' => ⟨#[], by cases A <;> simp [Builtin.firstCells, loadCells, loadCellsFrom], by simp [VRs]⟩) hfirst (by simp) hnl
    simp only [Nat.zero_add, List.nil_append] at h1 h2 h9
    obtain ⟨h10, h11⟩ := hr.newCells te.size h9 hone h7 (fz := (0, 0)) (by intro j _ h; simp at h) h3 h4 h5 h6
    refine ⟨_, w', _, h1, ?_, h10, h11⟩
    simp only [VR]
    exact ⟨_, _, k, by rw [← hr.len]; exact last_lk _ hsz, by simp [h8], h2, .inr rfl, rfl⟩
   ·cases e
 ·
  rename_i id off len
  split at e
  case h_2 => cases e
  rename_i sz cs ho
  split at e
  case isFalse => cases e
  rename_i hcc
  obtain ⟨rfl, hfull, hb, h63⟩ := hcc
  have hs' := hs
  simp only [VR] at hs
  obtain ⟨L, a, c, hm, hcap, hlc, ha, rfl⟩ := hs
  replace hm := (lk_get hm).1
  injection e with e
  obtain ⟨rfl, rfl⟩ := Prod.mk.inj e
  by_cases hcv : c = 0 ∧ n = 0
  ·obtain ⟨rfl, h0⟩ := hcv
   have hl0 : len = 0 := by omega
   subst hl0
   obtain ⟨q1, q2, q3⟩ := hr.kill ho rfl hm
   obtain ⟨hLsz, hcl, hob⟩ := hr.ob id _ L ho hm
   have hnew0 : new = [] := List.eq_nil_of_length_eq_zero (by rw [hnl, h0]; simp)
   have hd0 : cs.drop off = [] := List.drop_eq_nil_of_le (by omega)
   have hv := q1.pushVoid 0 te.size
   have := same a (H.set id .dead) w rfl h0 ⟨m, by rw [hnew0]; exact hv.1, by simp [hr.len], by
    rw [hnew0]
    have e1 : Ext I m (Own H m) w I m (Own (H.set id .dead) m) w := ⟨rfl, rfl, rfl, Nat.le_refl _, fun _ _ _ => rfl, fun _ h => h, fun b h => .inl (q3 b h), ⟨[], by simp⟩, fun _ h => .inl h⟩
    exact e1.trans hv.2⟩
   rw [List.length_set] at this
   rw [hd0, h0]
   exact this
  ·obtain ⟨hLsz, hcl, hob⟩ := hr.ob id _ L ho hm
   have hcell1 : ∀ (i : Nat) v, cs[i]? = some v → v.one = true := fun i v hv => by
    have hlt : i < cs.length := (List.getElem?_eq_some_iff.1 hv).1
    obtain ⟨ce, E, fz, hbk, hfz, hLcap, hcs⟩ := hob (by omega)
    obtain ⟨y, hy, hy2, hy3⟩ := hcs _ v hv
    exact hy3
   by_cases hroom : len + n ≤ c
   ·
    have hc0 : c ≠ 0 := fun e => hcv ⟨e, by omega⟩
    have hszne : te.size ≠ 0 := hsz
    have hL0 : L.cap ≠ 0 := by
     rw [← hcap, hLsz]
     have := Nat.mul_ne_zero hc0 hszne
     omega
    obtain ⟨ce, E, fz, hbk, hfz, hLcap, hcs⟩ := hob hL0
    have ha' := ha.resolve_left hc0
    subst ha'
    obtain ⟨zs, hz1, hz2⟩ := hfirst w rfl
    have hzl := hz2.len
    have hroom' : (len + n) * te.size ≤ c * te.size := Nat.mul_le_mul_right _ hroom
    rw [Nat.add_mul] at hroom'
    rw [hLsz] at hcap
    obtain ⟨cur', w', h4, h5, h6, h7, h8, h9, h10, h11, h12⟩ := run_storeCells' P L.b (L.o + off + len * te.size) zs.toList 0 ce w hbk hfz (by rw [hzl, hnl]; omega) (hz2.one hone)
    have hgo := hr.goOn (w' := w') (o' := .cells te.size (cs.drop off ++ new)) (L' := ⟨L.b, L.o + off, te.size, c * te.size⟩) ho rfl hm (by omega) (.inl ⟨rfl, hL0⟩) (fun b _ hb => h8 b hb) h9 h10 h11 (by
     simp only [OR]
     refine ⟨trivial, by rw [List.length_append, List.length_drop, hnl]; omega, fun _ => ⟨cur', E, fz, h6, by rw [h7]; exact hfz, by omega, fun k v hv => ?_⟩⟩
     have mono : ∀ v y, VR I m w v y → VR I (m ++ [⟨L.b, L.o + off, te.size, c * te.size⟩]) w' v y := fun v y h => VR.mono (fun _ h => h) (fun b hb => h8 b fun e => hr.imm b hb ⟨id, _, L, ho, rfl, hm, hL0, e.symm⟩) v y h
     have hget : cur'[L.o + off + k]? = cur'.toList[L.o + off + k]? := by simp
     have hcel : ce.toList.length = ce.size := Array.length_toList
     rw [hget, h12, hzl]
     simp only [List.append_assoc, List.getElem?_append, List.length_take, hcel, List.getElem?_take, List.getElem?_drop, Nat.add_zero, List.length_drop] at hv ⊢
     by_cases hk : k < cs.length - off
     ·rw [if_pos hk] at hv
      rw [if_pos (by omega), if_pos (by omega)]
      obtain ⟨y, hy, hy2, hy3⟩ := hcs _ v hv
      exact ⟨y, by rw [show L.o + off + k = L.o + (off + k) by omega]; simpa using hy, mono v y hy2, hy3⟩
     ·rw [if_neg hk] at hv
      rw [if_neg (by omega)]
      have hk2 : k - (cs.length - off) < new.length := (List.getElem?_eq_some_iff.1 hv).1
      rw [show L.o + off + k - min (L.o + off + len * te.size) ce.size = k - (cs.length - off) by omega, if_pos (by rw [hzl]; exact hk2)]
      obtain ⟨y, hy, hy2⟩ := hz2.get _ v hv
      exact ⟨y, hy, mono v y hy2, List.all_eq_true.1 hone v (List.mem_of_getElem? hv)⟩)
    refine ⟨.slice (some ⟨L.b, L.o + off, none⟩) (len + n) c, w', _, ?_, ?_, hgo.1, hgo.2⟩
    ·cases dd <;> first
      | (simp [isIntD] at hz; done)
      | (simp only [Builtin.append_, List.getElem?_toArray, List.getElem?_cons_zero, List.getElem?_cons_succ, Sem.run_bind, run_underlying' hd, Result.andThen_ok, run_sizeOf' hte, hu1, Sem.run_pure, hlen, Sem.run_ite, Bool.false_eq_true, if_false, hroom, if_true, Bool.not_false, hz1, add_none, h4])
    ·simp only [VR]
     exact ⟨⟨L.b, L.o + off, te.size, c * te.size⟩, _, c, by rw [← hr.len]; exact last_lk _ hsz, by simp, hroom, .inr rfl, rfl⟩
   ·
    have holds : firstA H te.size len (.sl id off len) = some (cs.drop off) := by
     simp only [firstA, ho]
     rw [if_pos ⟨trivial, Nat.le_refl _, by omega⟩, List.take_of_length_le (by rw [List.length_drop]; omega)]
    obtain ⟨k, w', arr, rest, xs, h1, h2, h3, h4, h5, h6, h7, h8, h9⟩ := append_new (P := P) (I := I) (m := m) (w := w) (ty := ty) (A := a) (sLen := len) (sCap := c) (olds := cs.drop off) (news := new) hd rfl hu hz hte hlen (by omega) hb h63 (fun w' hw' => firstA_any hr holds hs' w' hw') hfirst (by rw [List.length_drop]; omega) hnl
    have hone2 : (cs.drop off ++ new).all (·.one) = true := by
     rw [List.all_append, hone, Bool.and_true, List.all_eq_true]
     intro c hc
     obtain ⟨i, hi⟩ := List.getElem?_of_mem hc
     rw [List.getElem?_drop] at hi
     exact hcell1 _ c hi
    have hgo := hr.goOn (w' := w') (o' := .cells te.size (cs.drop off ++ new)) (L' := ⟨w.heap.size, 0, te.size, arr.size⟩) ho rfl hm (by rw [h3]; simp) (.inr ⟨Nat.le_refl _, by rw [h3]; simp⟩) (fun b hb hb2 => by rw [h3, Array.getElem?_push, if_neg (by omega)]) h4 h5 h6 (by
     simp only [OR]
     have hl : arr.size = xs.length + rest.length := by rw [← Array.length_toList, h7, List.length_append]
     refine ⟨trivial, by rw [← h9.len]; omega, fun _ => ⟨arr, ed, (0, 0), by rw [h3]; simp, by intro j _ h; simp at h, by omega, fun i x hx => ?_⟩⟩
     obtain ⟨y, h12, h13⟩ := h9.get i x hx
     have hlt : i < xs.length := (List.getElem?_eq_some_iff.1 h12).1
     refine ⟨y, ?_, VR.mono (fun _ h => h) (fun b hb => by rw [h3, Array.getElem?_push, if_neg (by have := hr.ilt b hb; omega)]) x y h13, List.all_eq_true.1 hone2 x (List.mem_of_getElem? hx)⟩
     rw [Nat.zero_add, ← Array.getElem?_toList, h7, List.getElem?_append_left hlt]
     exact h12)
    refine ⟨_, w', _, h1, ?_, hgo.1, hgo.2⟩
    simp only [VR]
    exact ⟨⟨w.heap.size, 0, te.size, arr.size⟩, _, k, by rw [← hr.len]; exact last_lk _ hsz, by simp [h8], h2, .inr rfl, rfl⟩
 ·cases e
end
end Go.Abs
namespace Go.Abs
open Go
section
variable {P : Program} {I : Nat → Prop} {m : List Loc} {H : List AO} {w : World}
theorem toBytes_spec : ∀ {cs : List AV} {l : List UInt8} {xs : List Value}, toBytes cs = some l → VRs I m w cs xs → ∃ ns : List Int, xs = ns.map (Value.int .u8) ∧ ns.foldl (fun r n => r.push (UInt8.ofNat n.toNat)) ByteArray.empty = ⟨l.toArray⟩ := by
 have key : ∀ {cs : List AV} {l : List UInt8} {xs : List Value}, toBytes cs = some l → VRs I m w cs xs → ∃ ns : List Int, xs = ns.map (Value.int .u8) ∧ ns.map (fun n => UInt8.ofNat n.toNat) = l := by
  intro cs
  induction cs with
  | nil => intro l xs h hv; simp only [toBytes] at h; injection h with h; subst h; simp only [VRs] at hv; subst hv; exact ⟨[], rfl, rfl⟩
  | cons c cs ih =>
   intro l xs h hv
   simp only [VRs] at hv
   obtain ⟨y, zs, rfl, h2, h3⟩ := hv
   cases c <;> try (simp [toBytes] at h; done)
   rename_i x
   cases x <;> try (simp [toBytes] at h; done)
   rename_i k n
   cases k <;> try (simp [toBytes] at h; done)
   simp only [toBytes] at h
   cases hl : toBytes cs with
   | none => rw [hl] at h; simp at h
   | some l' =>
    rw [hl] at h
    simp only [Option.map_some] at h
    injection h with h; subst h
    obtain ⟨ns, rfl, rfl⟩ := ih hl h3
    simp only [VR] at h2; subst h2
    exact ⟨n :: ns, rfl, rfl⟩
 intro cs l xs h hv
 obtain ⟨ns, rfl, rfl⟩ := key h hv
 refine ⟨ns, rfl, ?_⟩
 have : ∀ (ns : List Int) (s : ByteArray), ns.foldl (fun r n => r.push (UInt8.ofNat n.toNat)) s = ⟨s.data ++ (ns.map fun n => UInt8.ofNat n.toNat).toArray⟩ := by
  intro ns
  induction ns with
  | nil => intro s; simp
  | cons n ns ih => intro s; simp only [List.foldl_cons, ih, List.map_cons]; congr 1; simp [ByteArray.push]
 rw [this]
 show (⟨(#[] : Array UInt8) ++ _⟩ : ByteArray) = _
 simp
def OpS (P : Program) (I : Nat → Prop) (m : List Loc) (H : List AO) (w : World) (o : Oper) (a : Act) (v : AV) (H' : List AO) : Prop :=
 ∃ y w' m', ((execOp a.eval o).run P w = .ok (.value y) w' ∨ ((execOp a.eval o).run P w = .ok .skip w' ∧ y = undef)) ∧ VR I m' w' v y ∧ HR I m' H' w' ∧ Ext I m (Own H m) w I m' (Own H' m') w'
theorem OpS.of_sok {o : Oper} {a : Act} {s : Sem Value} {v : AV} {H' : List AO} (h : SOK P I m H w s v H') (e : execOp a.eval o = (do pure (Next.value (← s)))) : OpS P I m H w o a v H' := by
 obtain ⟨y, w', m', h1, h2, h3, h4⟩ := h
 refine ⟨y, w', m', .inl ?_, h2, h3, h4⟩
 rw [e]
 simp [h1]
theorem OpS.of_value {o : Oper} {a : Act} {y : Value} {v : AV} (hr : HR I m H w) (h : VR I m w v y) (e : (execOp a.eval o).run P w = .ok (.value y) w) : OpS P I m H w o a v H :=
 ⟨y, w, m, .inl e, h, hr, Ext.refl _ _ _ _⟩
theorem SOK.stringToBytes (hr : HR I m H w) {e : TypeId} (s : ByteArray) : SOK P I m H w (Conv.stringToBytes e s) (.sl H.length 0 s.size) (H ++ [.cells 1 (s.data.toList.map fun b => .v (.int .u8 b.toNat))]) := by
 have hv : VRs I m w (s.data.toList.map fun b => AV.v (.int .u8 b.toNat)) (s.data.toList.map fun b => Value.int .u8 b.toNat) := by
  generalize s.data.toList = l
  induction l with
  | nil => simp [VRs]
  | cons b l ih => simp only [List.map_cons, VRs]; exact ⟨_, _, rfl, by simp only [VR], ih⟩
 have h1 : (s.data.toList.map fun b => AV.v (.int .u8 b.toNat)).all (·.one) = true := List.all_eq_true.2 fun c hc => by
  obtain ⟨b, _, rfl⟩ := List.mem_map.1 hc
  rfl
 generalize hk : (Question.appendCap s.size 0 e).cut (w.tape w.drawn (.appendCap s.size 0 e)) = k
 have hge : s.size ≤ k := by rw [← hk]; simp only [Question.cut]; omega
 generalize harr : (s.data.map fun b => Value.int .u8 b.toNat) ++ Array.replicate (k - s.size) (Value.int .u8 0) = arr
 have hsz : arr.size = k := by rw [← harr]; simp [show s.data.size = s.size from rfl]; omega
 have h2 : arr.toList = (s.data.toList.map fun b => Value.int .u8 b.toNat) ++ List.replicate (k - s.size) (Value.int .u8 0) := by rw [← harr]; simp
 let w1 : World := { w with drawn := w.drawn + 1, heap := w.heap.push (.cells arr e) }
 have hfree : (w1.freeze ⟨w.heap.size, arr.size, none⟩ 1).heap = w.heap.push (.cells arr e (arr.size, arr.size + 1)) := by
  simp only [World.freeze, w1]
  apply Array.ext_getElem?
  intro i
  simp only [Nat.succ_ne_zero, if_false]
  rw [Array.getElem?_modify]
  simp only [Array.getElem?_push]
  by_cases hi : w.heap.size = i
  ·subst hi; simp
  ·have : ¬ (i = w.heap.size) := fun h => hi h.symm
   simp [hi, this]
 obtain ⟨h5, h6⟩ := hr.newCells (w' := w1.freeze ⟨w.heap.size, arr.size, none⟩ 1) 1 hv h1 h2 (E := e) (fz := (arr.size, arr.size + 1)) (by intro j h _; exact h) hfree (by simp [World.freeze, w1]) (by simp [World.freeze, w1]) (by simp [World.freeze, w1])
 refine ⟨.slice (some ⟨w.heap.size, 0, none⟩) s.size k, _, _, ?_, ?_, h5, h6⟩
 ·simp only [Conv.stringToBytes, Sem.run_bind, run_choose, Question.forced, Bool.false_eq_true, if_false, Result.andThen_ok, hk, newRow, run_newObj, Sem.run_pure, harr, markStringish, run_shape]
  have hsh : (w1.shape? w.heap.size) = some (e, arr.size) := by simp [World.shape?, w1]
  change ((match w1.shape? w.heap.size with
   | some (_, n) => freeze { block := w.heap.size, off := n } 1
   | _ => pure () : Sem Unit).run P w1).andThen _ = _
  rw [hsh]
  simp
 ·simp only [VR]
  exact ⟨_, _, k, by rw [← hr.len]; exact last_lk _ (by simp), by simp [hsz], hge, .inr rfl, rfl⟩
theorem opt_ok {g : List AV} {a : Act} (h : VRs I m w g a.tmps.toList) (x : Option Operand) : (∀ c, x.map (ev g) = some c → ∃ b, x.map a.eval = some b ∧ VR I m w c b) ∧ (x.map (ev g) = none → x.map a.eval = none) := by
 cases x with
 | none => simp
 | some x => simp; exact VR.ev h x
theorem opS_convert (hr : HR I m H w) {g : List AV} {a : Act} (hg : VRs I m w g a.tmps.toList) {o : Oper} {s d : TypeId} {x : Operand} (ho : o.op = .convert s d x) {v : AV} {H' : List AO} (h : aop P g H o.op = some (v, H')) : OpS P I m H w o a v H' := by
 have hx := VR.ev hg x
 have e0 : execOp a.eval o = (do pure (Next.value (← convert s d (a.eval x)))) := by simp [execOp, ho]
 rw [ho] at h
 simp only [aop] at h
 split at h
 ·rename_i ts k sz1 b1 z1 kk n e1 e2 e3
  injection h with h
  obtain ⟨rfl, rfl⟩ := Prod.mk.inj h
  rw [e3] at hx
  simp only [VR] at hx
  refine OpS.of_sok (SOK.same hr (y := .int k (k.wrap n)) ?_ (by simp only [VR])) e0
  rw [hx]
  simp only [Go.convert, Sem.run_bind, run_underlying' e1, run_underlying' e2, Result.andThen_ok]
  simp [Conv.intToInt]
 ·rename_i ts sz1 b1 z1 str e1 e2 e3
  injection h with h
  obtain ⟨rfl, rfl⟩ := Prod.mk.inj h
  rw [e3] at hx
  simp only [VR] at hx
  refine OpS.of_sok (SOK.same hr (y := .string str) ?_ (by simp only [VR])) e0
  rw [hx]
  simp only [Go.convert, Sem.run_bind, run_underlying' e1, run_underlying' e2, Result.andThen_ok]
  simp
 ·rename_i sz1 b1 z1 e sz2 b2 z2 str e1 e2 e3
  split at h
  ·rename_i b3 z3 he
   injection h with h
   obtain ⟨rfl, rfl⟩ := Prod.mk.inj h
   rw [e3] at hx
   simp only [VR] at hx
   obtain ⟨y, w', m', h1, h2, h3, h4⟩ := SOK.stringToBytes (P := P) hr (e := e) str
   refine OpS.of_sok ⟨y, w', m', ?_, h2, h3, h4⟩ e0
   rw [hx]
   simp only [Go.convert, Sem.run_bind, run_underlying' e1, run_underlying' e2, Result.andThen_ok, run_underlying' he]
   exact h1
  ·cases h
 ·rename_i e q1 q2 q3 q4 q5 q6 e1 e2 hno
  split at h
  ·rename_i b3 z3 n he hn
   split at h
   ·rename_i cs hf
    cases hl : toBytes cs with
    | none => rw [hl] at h; simp at h
    | some l =>
     rw [hl] at h
     simp only [Option.map_some] at h
     injection h with h
     obtain ⟨rfl, rfl⟩ := Prod.mk.inj h
     obtain ⟨ys, h1, h2⟩ := firstA_ok (P := P) hr hf hx
     obtain ⟨ns, h3, h4⟩ := toBytes_spec hl h2
     refine OpS.of_sok (SOK.same hr (y := .string ⟨l.toArray⟩) ?_ (by simp only [VR])) e0
     have hsl : ∃ A c, a.eval x = .slice A n c ∨ (∃ st, a.eval x = .string st ∧ ev g x = .v (.string st)) := by
      generalize ev g x = X at *
      unfold lenA at hn
      split at hn <;> first | (cases hn; done) | (injection hn with hn; subst hn)
      ·simp only [VR] at hx; exact ⟨_, _, .inl hx⟩
      ·simp only [VR] at hx; obtain ⟨A, hx⟩ := hx; exact ⟨_, _, .inl hx⟩
      ·simp only [VR] at hx; obtain ⟨A, c, hx, _⟩ := hx; exact ⟨_, _, .inl hx⟩
      ·simp only [VR] at hx; obtain ⟨L, A, c, _, _, _, _, hx⟩ := hx; exact ⟨_, _, .inl hx⟩
      ·simp only [VR] at hx; exact ⟨none, 0, .inr ⟨_, hx, rfl⟩⟩
     obtain ⟨A, c, hA | ⟨st, hA, hX⟩⟩ := hsl
     ·rw [hA]
      rw [hA] at h1
      rw [run_convert_bytes_string w s d e A n c (by obtain ⟨_, _, _, hh, _⟩ := ti_spec e1; exact hh) (by obtain ⟨_, _, _, hh, _⟩ := ti_spec he; exact hh) (by obtain ⟨_, _, _, hh, _⟩ := ti_spec e2; exact hh)]
      cases A with
      | none =>
       simp only [Builtin.firstCells, Sem.run_pure] at h1
       injection h1 with h1
       rw [← h1] at h3
       have hns : ns = [] := by simpa using h3.symm
       subst hns
       simp only [List.foldl_nil] at h4
       simp [Conv.bytesToString, ← h4]
      | some ad =>
       simp only [Builtin.firstCells, Nat.mul_one] at h1
       rw [run_bytesToString w ad n c ns (by rw [h1]; congr 1; rw [← h3])]
       rw [h4]
     ·exfalso
      exact hno st hX
   ·cases h
  ·cases h
 ·cases h
end
end Go.Abs
namespace Go.Abs
open Go
section
variable {P : Program} {I : Nat → Prop} {m : List Loc} {H : List AO} {w : World}
theorem run_fieldPlace {tf : TI} {fd : Field} (h : ti P fd.type = some tf) (h0 : tf.size ≠ 0) (b o : Nat) : (fieldPlace ⟨b, o, none⟩ fd).run P w = .ok ⟨b, o + fd.offset, none⟩ w := by
 simp only [fieldPlace, Sem.run_bind, run_sizeOf' h, Result.andThen_ok, Sem.run_ite]
 rw [if_neg h0, add_none]
 rfl
theorem evs_arr {g : List AV} {a : Act} (h : VRs I m w g a.tmps.toList) (xs : Array Operand) : VRs I m w (xs.toList.map (ev g)) (xs.map a.eval).toList := by
 rw [Array.toList_map]; exact evs_ok h xs.toList
theorem run_equal_slice {t e : TypeId} {d : TI} (hd : ti P t = some d) (hdd : d.desc = .slice e) (a : Addr) (l c : Nat) : (Op.equal t (.slice (some a) l c) (.slice none 0 0)).run P w = .ok false w := by
 have : ∀ k, (Op.equalIn (k + 1) t (.slice (some a) l c) (.slice none 0 0)).run P w = .ok false w := by
  intro k
  simp only [Op.equalIn, Sem.run_bind, run_underlying' hd, hdd, Result.andThen_ok]
  rfl
 exact this 9999
theorem run_equal_slice' {t e : TypeId} {d : TI} (hd : ti P t = some d) (hdd : d.desc = .slice e) (a : Option Addr) (l c : Nat) : (Op.equal t (.slice a l c) (.slice none 0 0)).run P w = .ok a.isNone w := by
 have : ∀ k, (Op.equalIn (k + 1) t (.slice a l c) (.slice none 0 0)).run P w = .ok a.isNone w := by
  intro k
  simp only [Op.equalIn, Sem.run_bind, run_underlying' hd, hdd, Result.andThen_ok]
  cases a <;> rfl
 exact this 9999
theorem run_equal_bool {t : TypeId} {d : TI} (hd : ti P t = some d) (hdd : d.desc = .bool) (a b : Bool) : (Op.equal t (.bool a) (.bool b)).run P w = .ok (a == b) w := by
 have : ∀ k, (Op.equalIn (k + 1) t (.bool a) (.bool b)).run P w = .ok (a == b) w := by
  intro k
  simp only [Op.equalIn, Sem.run_bind, run_underlying' hd, hdd, Result.andThen_ok]
  rfl
 exact this 9999
theorem opS_binOp (hr : HR I m H w) {g : List AV} {a : Act} (hg : VRs I m w g a.tmps.toList) {o : Oper} {op : BinOp} {t t2 : TypeId} {x y : Operand} (ho : o.op = .binOp op t x y t2) {v : AV} {H' : List AO} (h : aop P g H o.op = some (v, H')) : OpS P I m H w o a v H' := by
 have hx := VR.ev hg x
 have hy := VR.ev hg y
 have e0 : execOp a.eval o = (do pure (Next.value (← (do eqGuard op t x y (a.eval x) (a.eval y); Go.binOp op t (a.eval x) (a.eval y) : Sem Value)))) := by simp [execOp, ho]
 rw [ho] at h
 simp only [aop] at h
 split at h
 ·rename_i p q e1 e2
  rw [e1] at hx; rw [e2] at hy
  simp only [VR] at hx hy
  split at h
  ·rename_i q1 q2 q3 hd
   injection h with h
   obtain ⟨rfl, rfl⟩ := Prod.mk.inj h
   refine OpS.of_sok (SOK.same hr (y := .bool (p == q)) ?_ (by simp only [VR])) e0
   rw [hx, hy]
   simp only [Sem.run_bind, eqGuard_ok (a := .bool p) (by simp) rfl, Result.andThen_ok]
   simp [Go.binOp, run_equal_bool hd rfl]
  ·rename_i q1 q2 q3 hd
   injection h with h
   obtain ⟨rfl, rfl⟩ := Prod.mk.inj h
   refine OpS.of_sok (SOK.same hr (y := .bool !(p == q)) ?_ (by simp only [VR])) e0
   rw [hx, hy]
   simp only [Sem.run_bind, eqGuard_ok (a := .bool p) (by simp) rfl, Result.andThen_ok]
   simp [Go.binOp, run_equal_bool hd rfl]
  ·cases h
 ·rename_i p q hno e1 e2
  rw [e1] at hx; rw [e2] at hy
  simp only [VR] at hx hy
  cases hr' : abin op p q with
  | none => rw [hr'] at h; simp at h
  | some r =>
   rw [hr'] at h
   simp only [Option.map_some] at h
   injection h with h
   obtain ⟨rfl, rfl⟩ := Prod.mk.inj h
   refine OpS.of_sok (SOK.same hr (y := r) ?_ (by simp only [VR])) e0
   rw [hx, hy]
   have hp : p ≠ .nilIface ∧ p.oneCell' = true := by
    unfold abin at hr'
    split at hr' <;> first | (cases hr'; done) | exact ⟨by simp, rfl⟩
   simp only [Sem.run_bind, eqGuard_ok hp.1 hp.2, Result.andThen_ok, abin_ok hr']
 ·rename_i X X2 e2 hno
  rw [e2] at hy
  simp only [VR] at hy
  have key : ∀ (ad : Addr) (l c : Nat) (te : TypeId) (q1 q2 : Nat) (q3 : List Value) (r : Bool), a.eval x = .slice (some ad) l c → ti P t = some ⟨.slice te, q1, q2, q3⟩ → (op = .eql ∧ r = false ∨ op = .neq ∧ r = true) → OpS P I m H w o a (.v (.bool r)) H := fun ad l c te q1 q2 q3 r hxe hd hop => by
   refine OpS.of_sok (SOK.same hr (y := .bool r) ?_ (by simp only [VR])) e0
   rw [hxe, hy]
   rcases hop with ⟨rfl, rfl⟩ | ⟨rfl, rfl⟩ <;>
   ·simp only [Sem.run_bind, eqGuard_ok (a := .slice (some ad) l c) (by simp) rfl, Result.andThen_ok]
    simp [Go.binOp, run_equal_slice hd rfl]
  have key2 : ∀ (ad : Option Addr) (l c : Nat) (te : TypeId) (q1 q2 : Nat) (q3 : List Value), a.eval x = .slice ad l c → ti P t = some ⟨.slice te, q1, q2, q3⟩ → (op = .eql ∨ op = .neq) → OpS P I m H w o a .nb H := fun ad l c te q1 q2 q3 hxe hd hop => by
   rcases hop with rfl | rfl
   ·refine OpS.of_sok (SOK.same hr (y := .bool ad.isNone) ?_ (by simp only [VR]; exact ⟨_, rfl⟩)) e0
    rw [hxe, hy]
    simp only [Sem.run_bind, eqGuard_ok (a := .slice ad l c) (by simp) rfl, Result.andThen_ok]
    simp [Go.binOp, run_equal_slice' hd rfl]
   ·refine OpS.of_sok (SOK.same hr (y := .bool !ad.isNone) ?_ (by simp only [VR]; exact ⟨_, rfl⟩)) e0
    rw [hxe, hy]
    simp only [Sem.run_bind, eqGuard_ok (a := .slice ad l c) (by simp) rfl, Result.andThen_ok]
    simp [Go.binOp, run_equal_slice' hd rfl]
  split at h
  ·rename_i hd e1
   injection h with h
   obtain ⟨rfl, rfl⟩ := Prod.mk.inj h
   rw [e1] at hx
   simp only [VR] at hx
   obtain ⟨A, c, hx, _, h2⟩ := hx
   unfold nilV
   split
   ·exact key2 _ _ _ _ _ _ _ hx hd (.inl rfl)
   ·rename_i hn
    rcases h2 with h2 | ⟨b, q, rfl, _⟩
    ·subst h2; exact absurd rfl hn
    ·exact key _ _ _ _ _ _ _ _ hx hd (.inl ⟨rfl, rfl⟩)
  ·rename_i hd e1
   injection h with h
   obtain ⟨rfl, rfl⟩ := Prod.mk.inj h
   rw [e1] at hx
   simp only [VR] at hx
   obtain ⟨A, c, hx, _, h2⟩ := hx
   unfold nilV
   split
   ·exact key2 _ _ _ _ _ _ _ hx hd (.inr rfl)
   ·rename_i hn
    rcases h2 with h2 | ⟨b, q, rfl, _⟩
    ·subst h2; exact absurd rfl hn
    ·exact key _ _ _ _ _ _ _ _ hx hd (.inr ⟨rfl, rfl⟩)
  ·rename_i hd e1
   injection h with h
   obtain ⟨rfl, rfl⟩ := Prod.mk.inj h
   rw [e1] at hx
   simp only [VR] at hx
   obtain ⟨L, A, c, _, _, h7, h8, hx⟩ := hx
   unfold nilV
   split
   ·exact key2 _ _ _ _ _ _ _ hx hd (.inl rfl)
   ·rename_i hn
    rcases h8 with h8 | rfl
    ·omega
    ·exact key _ _ _ _ _ _ _ _ hx hd (.inl ⟨rfl, rfl⟩)
  ·rename_i hd e1
   injection h with h
   obtain ⟨rfl, rfl⟩ := Prod.mk.inj h
   rw [e1] at hx
   simp only [VR] at hx
   obtain ⟨L, A, c, _, _, h7, h8, hx⟩ := hx
   unfold nilV
   split
   ·exact key2 _ _ _ _ _ _ _ hx hd (.inr rfl)
   ·rename_i hn
    rcases h8 with h8 | rfl
    ·omega
    ·exact key _ _ _ _ _ _ _ _ hx hd (.inr ⟨rfl, rfl⟩)
  ·cases h
 ·cases h
theorem opS_builtin (hr : HR I m H w) {g : List AV} {a : Act} (hg : VRs I m w g a.tmps.toList) {o : Oper} {b : Builtin} {args : Array Operand} {ats : Array TypeId} (ho : o.op = .call { callee := .builtin b, args := args, argTypes := ats }) {v : AV} {H' : List AO}
 (h : abuiltin P H b ats (args.toList.map (ev g)) = some (v, H')) : OpS P I m H w o a v H' := by
 have hv := evs_arr hg args
 have e0 : execOp a.eval o = invoke (.builtin b ats o.type (args.map fun | .const _ => true | _ => false)) (args.map a.eval) := by simp [execOp, ho, resolve]; rfl
 generalize hA : args.toList.map (ev g) = A at *
 generalize hX : args.map a.eval = X at *
 unfold abuiltin at h
 split at h
 ·rename_i x
  simp only [VRs] at hv
  obtain ⟨y, zs, hX2, hy, rfl⟩ := hv
  obtain rfl : X = #[y] := by cases X; simp_all
  split at h
  case h_2 => cases h
  rename_i t ht
  split at h
  ·rename_i e q1 q2 q3 hd
   have hlen : ∀ A n c, y = .slice A n c → (execOp a.eval o).run P w = .ok (.value (.int .i64 n)) w := fun A n c hy => by
    subst hy
    rw [e0]
    simp [invoke, builtin, Builtin.len_, ht, run_underlying' hd, goInt]
   split at h <;> first | (cases h; done) | (injection h with h; obtain ⟨rfl, rfl⟩ := Prod.mk.inj h)
   ·simp only [VR] at hy; obtain ⟨A, c, hy, _⟩ := hy; exact OpS.of_value hr (by simp only [VR]) (hlen _ _ _ hy)
   ·simp only [VR] at hy; obtain ⟨L, A, c, _, _, _, _, hy⟩ := hy; exact OpS.of_value hr (by simp only [VR]) (hlen _ _ _ hy)
   ·simp only [VR] at hy; obtain ⟨A, hy⟩ := hy; exact OpS.of_value hr (by simp only [VR]; rfl) (hlen _ _ _ hy)
   ·simp only [VR] at hy; exact OpS.of_value hr (by simp only [VR]) (hlen _ _ _ hy)
  ·rename_i q1 q2 q3 hd
   split at h <;> first | (cases h; done) | (injection h with h; obtain ⟨rfl, rfl⟩ := Prod.mk.inj h)
   rename_i s
   simp only [VR] at hy
   subst hy
   refine OpS.of_value hr (y := .int .i64 s.size) (by simp only [VR]) ?_
   rw [e0]
   simp [invoke, builtin, Builtin.len_, ht, run_underlying' hd, goInt]
  ·cases h
 ·rename_i k p k' q
  injection h with h; obtain ⟨rfl, rfl⟩ := Prod.mk.inj h
  simp only [VRs, VR] at hv
  obtain ⟨y, zs, hX2, rfl, y2, zs2, rfl, rfl, rfl⟩ := hv
  obtain rfl : X = #[.int k p, .int k' q] := by cases X; simp_all
  refine OpS.of_value hr (y := .int k (if q < p then q else p)) (by simp only [VR]) ?_
  rw [e0]
  simp [invoke, builtin, Builtin.min_, Builtin.min2]
 ·rename_i k p k' q
  injection h with h; obtain ⟨rfl, rfl⟩ := Prod.mk.inj h
  simp only [VRs, VR] at hv
  obtain ⟨y, zs, hX2, rfl, y2, zs2, rfl, rfl, rfl⟩ := hv
  obtain rfl : X = #[.int k p, .int k' q] := by cases X; simp_all
  refine OpS.of_value hr (y := .int k (if p < q then q else p)) (by simp only [VR]) ?_
  rw [e0]
  simp [invoke, builtin, Builtin.max_, Builtin.max2]
 ·rename_i s x
  split at h
  case h_2 => cases h
  rename_i t u ht hu
  simp only [VRs] at hv
  obtain ⟨y, zs, hX2, hy, y2, zs2, rfl, hy2, rfl⟩ := hv
  obtain rfl : X = #[y, y2] := by cases X; simp_all
  have hk := aappend_ok (P := P) (ty := o.type) hr h hy hy2
  obtain ⟨r, w', m', h1, h2, h3, h4⟩ := hk
  refine ⟨r, w', m', .inl ?_, h2, h3, h4⟩
  have hats : Builtin.append_ ats o.type #[y, y2] = Builtin.append_ #[t, u] o.type #[y, y2] := by
   unfold Builtin.append_
   simp [ht, hu]
  rw [e0]
  simp only [invoke, builtin, Sem.run_bind, hats, h1, Result.andThen_ok, Sem.run_pure]
 ·rename_i x
  simp only [VRs] at hv
  obtain ⟨y, zs, hX2, hy, rfl⟩ := hv
  obtain rfl : X = #[y] := by cases X; simp_all
  split at h
  case h_2 => cases h
  rename_i t ht
  split at h
  case h_2 => cases h
  rename_i e q1 q2 q3 hd
  split at h
  case h_2 => cases h
  rename_i te id off n hte
  split at h
  case h_2 => cases h
  rename_i sz cs hid
  split at h
  case isFalse => cases h
  rename_i hc
  injection h with h; obtain ⟨rfl, rfl⟩ := Prod.mk.inj h
  simp only [VR] at hy
  obtain ⟨L, A, c, hm, h7, h8, h9, rfl⟩ := hy
  replace hm := (lk_get hm).1
  have hz := ti_zero_len hte
  have hone : ((List.replicate n (te.zero.map AV.v)).flatten).all (·.one) = true := List.all_eq_true.2 fun c hc => by
   obtain ⟨l, hl, hx⟩ := List.mem_flatten.1 hc
   rw [(List.mem_replicate.1 hl).2] at hx
   exact List.all_eq_true.1 (map_v_one (ti_zero_one hte)) c hx
  have hnl : ((List.replicate n (te.zero.map AV.v)).flatten).length = n * te.size := by simp [hz]
  by_cases hn : n = 0
  ·subst hn
   have hcs : setRange cs off ((List.replicate 0 (te.zero.map AV.v)).flatten) = cs := by simp [setRange]
   rw [hcs, set_self hid]
   refine ⟨.tuple #[], w, m, .inl ?_, by simp only [VR, VRs]; exact ⟨_, rfl, rfl⟩, by simpa using hr, Ext.refl _ _ _ _⟩
   rw [e0]
   cases A <;> simp [invoke, builtin, Builtin.clear_, ht, run_underlying' hd]
  ·obtain ⟨hsz, hlen, hob⟩ := hr.ob id _ L hid hm
   have hc0 : c ≠ 0 := by omega
   have hA := h9.resolve_left hc0
   subst hA
   have hp : 0 < n * te.size := Nat.mul_pos (by omega) (by omega)
   have hL0 : L.cap ≠ 0 := by omega
   obtain ⟨zv, hz1, hz2, hz3⟩ := run_zeroValue' (w := w) hte
   have hzo := zeros_ok zv.cells (by omega) n
   rw [hz2] at hzo
   obtain ⟨w', g1, g2, g3⟩ := rowSet_ok (P := P) hr hid hm hL0 (VRs.flatten_v n te.zero) hone (by rw [hnl]; exact hc.2)
   refine ⟨.tuple #[], w', m, .inl ?_, by simp only [VR, VRs]; exact ⟨_, rfl, rfl⟩, g2, g3⟩
   rw [e0]
   simp only [invoke, builtin, Builtin.clear_, ht]
   simp only [Sem.run_bind, run_underlying' hd, Result.andThen_ok, hz1]
   replace hzo : (Builtin.zeroCells zv.cells n).toList = (List.replicate n te.zero).flatten := hzo
   cases n with
   | zero => contradiction
   | succ n =>
    simp [run_underlying' hd, hz1, hzo, g1]
 ·cases h
theorem op_sound (hr : HR I m H w) {g : List AV} {a : Act} (hg : VRs I m w g a.tmps.toList) {o : Oper} {v : AV} {H' : List AO} (h : aop P g H o.op = some (v, H')) : OpS P I m H w o a v H' := by
 cases hop : o.op with
 | move x =>
  rw [hop] at h; simp only [aop] at h
  injection h with h; obtain ⟨rfl, rfl⟩ := Prod.mk.inj h
  exact OpS.of_value hr (VR.ev hg x) (by simp [execOp, hop])
 | assign x =>
  rw [hop] at h; simp only [aop] at h
  injection h with h; obtain ⟨rfl, rfl⟩ := Prod.mk.inj h
  exact OpS.of_value hr (VR.ev hg x) (by simp [execOp, hop])
 | pick c x y =>
  rw [hop] at h; simp only [aop] at h
  split at h
  ·rename_i t hc
   injection h with h; obtain ⟨rfl, rfl⟩ := Prod.mk.inj h
   have h1 := VR.ev hg c
   rw [hc] at h1; simp only [VR] at h1
   refine OpS.of_value hr (y := if t then a.eval x else a.eval y) ?_ (by simp [execOp, hop, h1, asBool])
   cases t
   ·exact VR.ev hg y
   ·exact VR.ev hg x
  ·cases h
 | extract t i =>
  rw [hop] at h; simp only [aop] at h
  split at h
  ·rename_i vs ht
   cases hv : vs[i]? with
   | none => rw [hv] at h; simp at h
   | some v' =>
    rw [hv] at h; simp only [Option.map_some] at h
    injection h with h; obtain ⟨rfl, rfl⟩ := Prod.mk.inj h
    have h1 := VR.ev hg t
    rw [ht] at h1; simp only [VR] at h1
    obtain ⟨xs, hx, hxs⟩ := h1
    obtain ⟨y, hy, hvy⟩ := hxs.get i _ hv
    have hy' : xs[i]? = some y := by simpa using hy
    exact OpS.of_value hr hvy (by simp [execOp, hop, hx, Instr.extract, hy'])
  ·cases h
 | field t x f =>
  rw [hop] at h; simp only [aop] at h
  split at h
  ·rename_i fs q1 q2 q3 hd
   split at h
   ·rename_i fd cs hf hx
    cases hp : apart P fd.type cs fd.offset with
    | none => rw [hp] at h; simp at h
    | some v' =>
     rw [hp] at h; simp only [Option.map_some] at h
     injection h with h; obtain ⟨rfl, rfl⟩ := Prod.mk.inj h
     have h1 := VR.ev hg x
     rw [hx] at h1; simp only [VR] at h1
     obtain ⟨xs, hx1, hxs⟩ := h1
     obtain ⟨y, hy, hvy⟩ := run_part' (P := P) hp hxs
     exact OpS.of_value hr hvy (by simp [execOp, hop, hx1, Instr.field, run_underlying' hd, hf, asAgg, hy])
   ·cases h
  ·cases h
 | load t x =>
  rw [hop] at h; simp only [aop] at h
  split at h
  ·rename_i cs off hc
   cases hp : apart P t cs off with
   | none => rw [hp] at h; simp at h
   | some v' =>
    rw [hp] at h; simp only [Option.map_some] at h
    injection h with h; obtain ⟨rfl, rfl⟩ := Prod.mk.inj h
    obtain ⟨b, q, hx, hcs⟩ := acells_spec hr hc (VR.ev hg x)
    obtain ⟨y, hy, hvy⟩ := run_loadVar' (P := P) hp b q hcs
    exact OpS.of_value hr hvy (by simp [execOp, hop, hx, Instr.loadAt, Instr.sureAddr, hy])
  ·cases h
 | store t x y =>
  rw [hop] at h; simp only [aop] at h
  split at h
  case h_2 => cases h
  rename_i id off hx
  split at h
  case h_2 => cases h
  rename_i sz cs hid
  split at h
  case h_2 => cases h
  rename_i i hi
  split at h
  case isFalse => cases h
  rename_i hc
  injection h with h; obtain ⟨rfl, rfl⟩ := Prod.mk.inj h
  have h1 := VR.ev hg x
  rw [hx] at h1
  obtain ⟨w', h2, h3, h4⟩ := store_ok (P := P) hr hi hid h1 (VR.ev hg y) hc.1 hc.2.1 hc.2.2
  exact ⟨undef, w', m, .inr ⟨by simp [execOp, hop, h2], rfl⟩, by simp only [VR], h3, h4⟩
 | box t x =>
  rw [hop] at h; simp only [aop] at h
  split at h
  case isFalse => cases h
  rename_i hc
  injection h with h; obtain ⟨rfl, rfl⟩ := Prod.mk.inj h
  exact OpS.of_sok (SOK.box hr t (VR.ev hg x) hc) (by simp [execOp, hop])
 | alloc t =>
  rw [hop] at h; simp only [aop] at h
  split at h
  case h_2 => cases h
  rename_i i hi
  injection h with h; obtain ⟨rfl, rfl⟩ := Prod.mk.inj h
  exact OpS.of_sok (SOK.alloc hr hi) (by simp [execOp, hop])
 | build t parts =>
  rw [hop] at h; simp only [aop] at h
  obtain ⟨hp1, hp2⟩ := parts_ok hg parts
  split at h
  ·rename_i fs q1 q2 z hd
   split at h
   case isFalse => cases h
   rename_i hfs
   cases hf : afill (fieldPlaces P fs) (z.map .v) (parts.toList.map fun p => (p.1, ev g p.2)) with
   | none => rw [hf] at h; simp at h
   | some cs =>
    rw [hf] at h; simp only [Option.map_some] at h
    injection h with h; obtain ⟨rfl, rfl⟩ := Prod.mk.inj h
    exact OpS.of_sok (SOK.build_struct hr hd hfs hf hp1 hp2) (by simp [execOp, hop])
  ·rename_i n e q1 q2 z hd
   split at h
   case h_2 => cases h
   rename_i te he
   cases hf : afill (fun i => some (i * te.size, te.size)) (z.map .v) (parts.toList.map fun p => (p.1, ev g p.2)) with
   | none => rw [hf] at h; simp at h
   | some cs =>
    rw [hf] at h; simp only [Option.map_some] at h
    injection h with h; obtain ⟨rfl, rfl⟩ := Prod.mk.inj h
    exact OpS.of_sok (SOK.build_array hr hd he hf hp1 hp2) (by simp [execOp, hop])
  ·cases h
 | buildSlice t len parts =>
  rw [hop] at h; simp only [aop] at h
  obtain ⟨hp1, hp2⟩ := parts_ok hg parts
  split at h
  case h_2 => cases h
  rename_i e q1 q2 z hd
  split at h
  case h_2 => cases h
  rename_i te he
  split at h
  case isFalse => cases h
  rename_i hc
  split at h
  case h_2 => cases h
  rename_i cs hf
  split at h
  case isFalse => cases h
  rename_i hone
  injection h with h; obtain ⟨rfl, rfl⟩ := Prod.mk.inj h
  exact OpS.of_sok (SOK.buildSlice hr hd rfl he hc.1 hc.2 hf hp1 hp2 hone) (by simp [execOp, hop])
 | makeSlice t l c =>
  rw [hop] at h; simp only [aop] at h
  split at h
  case h_2 => cases h
  rename_i e q1 q2 z hd
  split at h
  case h_2 => cases h
  rename_i te he
  split at h
  case h_2 => cases h
  rename_i k n k' n' e1 e2
  split at h
  case isFalse => cases h
  rename_i hc
  obtain ⟨rfl, h0, hb, hn, hs⟩ := hc
  injection h with h; obtain ⟨rfl, rfl⟩ := Prod.mk.inj h
  have h1 := VR.ev hg l
  have h2 := VR.ev hg c
  rw [e1] at h1; rw [e2] at h2
  simp only [VR] at h1 h2
  exact OpS.of_sok (SOK.makeSlice (k := k) (k' := k') hr hd rfl he h0 hb hn hs) (by simp [execOp, hop, h1, h2])
 | slice t x lo hi mx =>
  rw [hop] at h; simp only [aop] at h
  cases hp : aslice P H t (ev g x) (lo.map (ev g)) (hi.map (ev g)) (mx.map (ev g)) with
  | none => rw [hp] at h; simp at h
  | some v' =>
   rw [hp] at h; simp only [Option.map_some] at h
   injection h with h; obtain ⟨rfl, rfl⟩ := Prod.mk.inj h
   obtain ⟨z, hz, hvz⟩ := aslice_ok (P := P) hr hp (VR.ev hg x) (opt_ok hg lo).1 (opt_ok hg lo).2 (opt_ok hg hi).1 (opt_ok hg hi).2 (opt_ok hg mx).1 (opt_ok hg mx).2
   exact OpS.of_value hr hvz (by simp [execOp, hop, hz])
 | fieldAddr t x f =>
  rw [hop] at h; simp only [aop] at h
  split at h
  case h_2 => cases h
  rename_i fs q1 q2 q3 hd
  split at h
  case h_2 => cases h
  rename_i fd hf
  split at h
  case h_2 => cases h
  rename_i tf htf
  split at h
  ·cases h
  rename_i hs
  have h1 := VR.ev hg x
  split at h
  ·rename_i id off hx
   injection h with h; obtain ⟨rfl, rfl⟩ := Prod.mk.inj h
   rw [hx] at h1; simp only [VR] at h1
   obtain ⟨L, hm, he⟩ := h1
   exact OpS.of_value hr (y := .pointer (some ⟨L.b, L.o + off + fd.offset, none⟩)) (by simp only [VR]; exact ⟨L, hm, by congr 3; omega⟩) (by simp [execOp, hop, he, Instr.fieldAt, run_underlying' hd, hf, Instr.sureAddr, run_fieldPlace htf hs])
  ·rename_i cs hx
   split at h
   ·rename_i hlt
    injection h with h; obtain ⟨rfl, rfl⟩ := Prod.mk.inj h
    rw [hx] at h1; simp only [VR] at h1
    obtain ⟨b, q, he, hb, hcs⟩ := h1
    exact OpS.of_value hr (y := .pointer (some ⟨b, q + fd.offset, none⟩)) (by simp only [VR]; exact ⟨b, _, rfl, hb, hcs.drop _⟩) (by simp [execOp, hop, he, Instr.fieldAt, run_underlying' hd, hf, Instr.sureAddr, run_fieldPlace htf hs])
   ·cases h
  ·cases h
 | indexAddr t x i =>
  rw [hop] at h; simp only [aop] at h
  split at h
  ·rename_i k n hi
   cases hp : aindexAddr P t (ev g x) n with
   | none => rw [hp] at h; simp at h
   | some v' =>
    rw [hp] at h; simp only [Option.map_some] at h
    injection h with h; obtain ⟨rfl, rfl⟩ := Prod.mk.inj h
    have h1 := VR.ev hg i
    rw [hi] at h1; simp only [VR] at h1
    obtain ⟨z, hz, hvz⟩ := aindexAddr_ok (k := k) hp (VR.ev hg x)
    exact OpS.of_value hr hvz (by simp [execOp, hop, h1, hz])
  ·cases h
 | index t x i =>
  rw [hop] at h; simp only [aop] at h
  have h1 := VR.ev hg x
  have h2 := VR.ev hg i
  split at h
  ·rename_i q1 q2 q3 s k n hd hx hi
   split at h
   ·rename_i h0
    cases hb : s[n.toNat]? with
    | none => rw [hb] at h; simp at h
    | some b =>
     rw [hb] at h; simp only [Option.map_some] at h
     injection h with h; obtain ⟨rfl, rfl⟩ := Prod.mk.inj h
     rw [hx] at h1; rw [hi] at h2; simp only [VR] at h1 h2
     exact OpS.of_value hr (y := .int .u8 b.toNat) (by simp only [VR]) (by simp [execOp, hop, h1, h2, Instr.index, asIntOf, run_underlying' hd, h0, hb])
   ·cases h
  ·rename_i len e q1 q2 q3 cs k n hd hx hi
   split at h
   ·rename_i te he
    split at h
    ·rename_i hc
     cases hp : apart P e cs (n.toNat * te.size) with
     | none => rw [hp] at h; simp at h
     | some v' =>
      rw [hp] at h; simp only [Option.map_some] at h
      injection h with h; obtain ⟨rfl, rfl⟩ := Prod.mk.inj h
      rw [hx] at h1; rw [hi] at h2; simp only [VR] at h1 h2
      obtain ⟨xs, hx1, hxs⟩ := h1
      obtain ⟨y, hy, hvy⟩ := run_part' (P := P) hp hxs
      exact OpS.of_value hr hvy (by simp [execOp, hop, hx1, h2, Instr.index, asIntOf, run_underlying' hd, hc, run_sizeOf' he, hy])
    ·cases h
   ·cases h
  ·cases h
 | nilCheck x =>
  rw [hop] at h; simp only [aop] at h
  have h1 := VR.ev hg x
  split at h
  ·rename_i id off hx
   injection h with h; obtain ⟨rfl, rfl⟩ := Prod.mk.inj h
   rw [hx] at h1
   refine OpS.of_value hr h1 ?_
   simp only [VR] at h1
   obtain ⟨L, _, he⟩ := h1
   simp [execOp, hop, he]
  ·rename_i cs hx
   injection h with h; obtain ⟨rfl, rfl⟩ := Prod.mk.inj h
   rw [hx] at h1
   refine OpS.of_value hr h1 ?_
   simp only [VR] at h1
   obtain ⟨b, q, he, _⟩ := h1
   simp [execOp, hop, he]
  ·rename_i f xs ys hx
   injection h with h; obtain ⟨rfl, rfl⟩ := Prod.mk.inj h
   rw [hx] at h1
   refine OpS.of_value hr h1 ?_
   simp only [VR] at h1
   obtain ⟨b, q, he, _⟩ := h1
   simp [execOp, hop, he]
  ·cases h
 | unOp op t x =>
  rw [hop] at h; simp only [aop] at h
  have h1 := VR.ev hg x
  split at h
  ·rename_i y hx
   cases hp : aun op y with
   | none => rw [hp] at h; simp at h
   | some r =>
    rw [hp] at h; simp only [Option.map_some] at h
    injection h with h; obtain ⟨rfl, rfl⟩ := Prod.mk.inj h
    rw [hx] at h1; simp only [VR] at h1
    exact OpS.of_value hr (y := r) (by simp only [VR]) (by simp [execOp, hop, h1, aun_ok hp])
  ·rename_i hx
   split at h
   ·injection h with h; obtain ⟨rfl, rfl⟩ := Prod.mk.inj h
    rw [hx] at h1; simp only [VR] at h1
    obtain ⟨b, h1⟩ := h1
    exact OpS.of_value hr (y := .bool !b) (by simp only [VR]; exact ⟨_, rfl⟩) (by simp [execOp, hop, h1, aun_ok (show aun .not (.bool b) = some (.bool !b) from rfl)])
   ·cases h
  ·cases h
 | binOp op t x y t2 => exact opS_binOp hr hg hop h
 | convert s d x => exact opS_convert hr hg hop h
 | makeFunc f xs ys =>
  rw [hop] at h; simp only [aop] at h
  injection h with h; obtain ⟨rfl, rfl⟩ := Prod.mk.inj h
  exact OpS.of_value hr (y := .func f (xs.map a.eval) (ys.map a.eval)) (by simp only [VR]; exact ⟨_, _, rfl, evs_arr hg xs, evs_arr hg ys⟩) (by simp [execOp, hop, Instr.makeFunc])
 | call c =>
  rw [hop] at h
  obtain ⟨callee, args, ats⟩ := c
  cases callee with
  | builtin b => simp only [aop] at h; exact opS_builtin hr hg hop h
  | value f => simp only [aop] at h; cases h
  | invoke r n => simp only [aop] at h; cases h
 | _ => rw [hop] at h; simp only [aop] at h; cases h
end
end Go.Abs
