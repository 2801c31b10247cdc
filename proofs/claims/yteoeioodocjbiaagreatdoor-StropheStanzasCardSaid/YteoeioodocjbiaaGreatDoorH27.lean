/- Part 27 of the texts that lead to stropheStanzasCard_holds. No condition. -/
import Derived.Test.YteoeioodocjbiaaGreatDoorH24
set_option linter.unusedSimpArgs false
set_option linter.unusedVariables false
set_option linter.unnecessarySimpa false
namespace Go.Abs
open Go
section
variable {P : Program} {I : Nat → Prop} {m : List Loc} {H : List AO} {w : World}
theorem tcOR (hr : HR I m H w) {id : Nat} {T : TypeId} {cs : List AV} (hid : H[id]? = some (.tc T cs)) {off : Nat} {x : Value} (hx : VR I m w (.pt id off) x) :
    ∃ L c, m[id]? = some L ∧ L.sz = 1 ∧ L.cap ≠ 0 ∧ L.o = 0 ∧ cs.length ≤ L.cap ∧ x = .pointer (some ⟨L.b, off, none⟩) ∧ w.heap[L.b]? = some (.cells c T (0, 0)) ∧ c.size = L.cap ∧ (T = bty → c.size = 2) ∧ ∀ (i : Nat) x, cs[i]? = some x → ∃ y, c[i]? = some y ∧ VR I m w x y ∧ x.one = true := by
  simp only [VR] at hx
  obtain ⟨L, h1, rfl⟩ := hx
  have hm := (lk_get h1).1
  obtain ⟨⟨q1, q2, q3, q4⟩, c, ⟨q5, q6, qb⟩, q7⟩ := hr.ob id _ L hid hm
  exact ⟨L, c, hm, q1, q2, q3, q4, by rw [q3, Nat.zero_add], q5, q6, qb, q7⟩
theorem OpSem.loadTC {g : List AV} {t : TypeId} {a : Operand} {id off : Nat} {T : TypeId} {cs : List AV} {v : AV} (ha : ev g a = .pt id off) (hid : H[id]? = some (.tc T cs)) (hv : apart P t cs off = some v) : OpSem P g H (.load t a) v H := fun I m w ac o ho hr hx => by
  have h1 := hx a (by simp [Op.operands])
  rw [ha] at h1
  obtain ⟨L, c, hm, q1, q2, q3, q4, q5, q6, q7, qb, q8⟩ := tcOR hr hid h1
  obtain ⟨y, hy, hvy⟩ := run_loadVar' (P := P) (I := I) (m := m) (w := w) hv L.b off fun i x hi => by
    obtain ⟨y, r1, r2, _⟩ := q8 _ x hi
    exact ⟨y, by simp only [World.cell?, q6]; simpa using r1, r2⟩
  exact OpS.of_value hr hvy (by simp [execOp, ho, q5, Instr.loadAt, Instr.sureAddr, hy])
theorem tc_set (hr : HR I m H w) {id : Nat} {T : TypeId} {cs : List AV} (hid : H[id]? = some (.tc T cs)) {off : Nat} {x : Value} (hx : VR I m w (.pt id off) x) (ho : off < cs.length) {v : AV} {y : Value} (hv : VR I m w v y) (h1 : v.one = true) :
    ∃ b c, x = .pointer (some ⟨b, off, none⟩) ∧ w.heap[b]? = some (.cells c T (0, 0)) ∧ off < c.size ∧ ∀ w' : World, w'.heap.size = w.heap.size → w'.heap[b]? = some (.cells (c.setIfInBounds off y) T (0, 0)) → (∀ b', b' ≠ b → w'.heap[b']? = w.heap[b']?) → w'.os = w.os → w'.tape = w.tape → w'.output = w.output →
      HR I m (H.set id (.tc T (cs.set off v))) w' ∧ Ext I m (Own H m) w I m (Own (H.set id (.tc T (cs.set off v))) m) w' := by
  obtain ⟨L, c, hm, q1, q2, q3, q4, q5, q6, q7, qb, q8⟩ := tcOR hr hid hx
  refine ⟨L.b, c, q5, q6, by omega, fun w' k1 k2 k3 k4 k5 k6 => hr.set hid rfl hm k1 (fun b hb => k3 b (hb q2)) k4 k5 k6 ?_⟩
  simp only [OR]
  refine ⟨⟨q1, q2, q3, by simpa using q4⟩, _, ⟨k2, by simpa using q7, fun e => by simpa using qb e⟩, fun i z hz => ?_⟩
  have mono : ∀ v y, VR I m w v y → VR I m w' v y := fun v y h => by
    have := VR.mono (nu := []) (fun _ h => h) (fun b hb => k3 b fun e => hr.imm b hb ⟨id, _, L, hid, rfl, hm, q2, e.symm⟩) v y h
    simpa using this
  rw [List.getElem?_set] at hz
  rw [Array.getElem?_setIfInBounds]
  by_cases hi : off = i
  · subst hi
    rw [if_pos rfl, if_pos ho] at hz
    cases hz
    exact ⟨y, by rw [if_pos rfl, if_pos (by omega)], mono _ _ hv, h1⟩
  · rw [if_neg hi] at hz
    obtain ⟨y', r1, r2, r3⟩ := q8 i z hz
    exact ⟨y', by rw [if_neg hi]; exact r1, mono _ _ r2, r3⟩
theorem OpSem.storeTC {g : List AV} {t : TypeId} {a b : Operand} {id off : Nat} {T : TypeId} {cs : List AV} {v : AV} {i : TI} (hi : ti P t = some i) (hs : i.size = 1) (ha : ev g a = .pt id off) (hb : ev g b = v) (h1 : v.one = true) (hf : flat v = [v]) (hid : H[id]? = some (.tc T cs)) (ho : off < cs.length) :
    OpSem P g H (.store t a b) (.v undef) (H.set id (.tc T (cs.set off v))) := fun I m w ac o hop hr hx => by
  have hpa := hx a (by simp [Op.operands])
  have hpb := hx b (by simp [Op.operands])
  rw [ha] at hpa
  rw [hb] at hpb
  obtain ⟨L, c, hm, q1, q2, q3, q4, q5, q6, q7, qb, q8⟩ := tcOR hr hid hpa
  have hfl := VRs.flat hpb (by rw [hf]; simp [h1])
  rw [hf] at hfl
  simp only [VRs] at hfl
  obtain ⟨y0, _, e0, hy0, rfl⟩ := hfl
  have hcell : (ac.eval b).cells.size = 1 := by rw [← Array.length_toList, e0]; rfl
  have hone : y0.oneCell' = true := by
    have := (VRs.flat hpb (by rw [hf]; simp [h1])).one (by rw [hf]; simp [h1]) y0 (by rw [e0]; simp)
    exact this
  obtain ⟨cur', w', h4, h5, h6, h7, h8, h9, h10, h11, h12⟩ := run_storeCells' P L.b off [y0] 0 c w q6 (by intro j _ h; simp at h) (by simp; omega) (by intro v hv; simp at hv; subst hv; exact hone)
  obtain ⟨b', c', e1, e2, e3, e4⟩ := tc_set hr hid hpa ho hy0 h1
  rw [q5] at e1
  cases e1
  rw [q6] at e2
  cases e2
  have hc' : cur' = c.setIfInBounds off y0 := by
    apply Array.ext'
    rw [h12]
    apply List.ext_getElem?
    intro k
    simp only [Nat.add_zero, List.length_singleton, Array.toList_setIfInBounds, List.append_assoc]
    rw [List.getElem?_set]
    have hl : c.toList.length = c.size := Array.length_toList
    by_cases hk : k < off
    · rw [List.getElem?_append_left (by simp; omega), List.getElem?_take_of_lt hk, if_neg (by omega)]
    · rw [List.getElem?_append_right (by simp; omega)]
      simp only [List.length_take, hl]
      by_cases hk2 : off = k
      · subst hk2
        rw [if_pos rfl, if_pos (by omega), show off - min off c.size = 0 by omega]; rfl
      · rw [if_neg hk2, show k - min off c.size = (k - off - 1) + 1 by omega]
        simp only [List.singleton_append, List.getElem?_cons_succ, List.getElem?_drop]
        congr 1; omega
  obtain ⟨r1, r2⟩ := e4 w' h5 (by rw [h6, hc']) (fun b' hb' => h8 b' hb') h9 h10 h11
  refine ⟨undef, w', m, .inr ⟨?_, rfl⟩, by simp only [VR], r1, r2⟩
  have : (Instr.storeAt t (.pointer (some ⟨L.b, off, none⟩)) (ac.eval b)).run P w = .ok () w' := by
    simp only [Instr.storeAt, Instr.sureAddr, Sem.run_bind, Sem.run_pure, Result.andThen_ok, storeVar, run_sizeOf' hi, Sem.run_ite]
    rw [if_neg (by rw [hcell, hs]; simp), e0]
    exact h4
  simp [execOp, hop, q5, this]
end
end Go.Abs
