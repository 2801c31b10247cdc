/- Part 16 of the texts that lead to repairNearestCard_holds. No condition. -/
import Derived.Lib.UnsafeStr
import Derived.Test.YtcjckmnhlfbdlaaGreatDoorH15
set_option linter.all false
namespace Go.Abs
open Go
section
variable {P : Program} {I : Nat → Prop} {m : List Loc} {H : List AO} {w : World}
theorem HR.deg (hr : HR I m H w) {id : Nat} {T : TypeId} {cs : List AV} (hid : H[id]? = some (.tc T cs)) : HR I m (H.set id (.cells 1 cs)) w := by
 have hlt : id < m.length := by rw [hr.len]; exact (List.getElem?_eq_some_iff.1 hid).1
 have hm : m[id]? = some m[id] := List.getElem?_eq_getElem hlt
 obtain ⟨⟨q1, q2, q3, q4⟩, c, ⟨q5, q6, qb⟩, q7⟩ := hr.ob id _ _ hid hm
 refine (hr.set (w' := w) hid rfl hm rfl (fun _ _ => rfl) rfl rfl rfl ?_).1
 simp only [OR]
 refine ⟨q1, q4, fun _ => ⟨c, T, (0, 0), q5, by intro j _ h; simp at h, by omega, fun i x hx => ?_⟩⟩
 obtain ⟨y, h1, h2, h3⟩ := q7 i x hx
 exact ⟨y, by rw [q3, Nat.zero_add]; exact h1, h2, h3⟩
structure ApB (P : Program) (H : List AO) (t u ed : TypeId) (te : TI) (x : AV) (n : Nat) (new : List AV) : Prop where
  sl : ∃ a b z, ti P t = some ⟨.slice ed, a, b, z⟩
  el : ti P ed = some te
  ar : ∃ dd a b z, ti P u = some ⟨dd, a, b, z⟩ ∧ isIntD dd = false
  one : te.size = 1
  len : lenA x = some n
  fst : firstA H 1 n x = some new
  all : new.all (·.one) = true
  nl : new.length = n
  nb : ed ≠ bty
theorem OpSem.appendNil {g : List AV} {s x : Operand} {t u ed : TypeId} {te : TI} {n : Nat} {new : List AV} (h : ApB P H t u ed te (ev g x) n new) (hs : ev g s = .v (.slice none 0 0)) (h0 : n ≠ 0) (hb : n * te.bytes ≤ 140737488355328) (h63 : n ≤ 9223372036854775807) :
 OpSem P g H (.call ⟨.builtin .append, #[s, x], #[t, u]⟩) (.sl H.length 0 n) (H ++ [.tc ed new]) := fun I m w ac o hop hr hx => by
 obtain ⟨⟨d1, d2, d3, hd⟩, hte, ⟨dd, e1, e2, e3, hu, hz⟩, hs1, hlen, hfst, hone, hnl, hnb⟩ := h
 have hpa := hx s (by simp [Op.operands, Call.operands])
 have hpb := hx x (by simp [Op.operands, Call.operands])
 rw [hs] at hpa
 simp only [VR] at hpa
 have hl := lenA_any (P := P) hlen hpb
 have hf := firstA_any (P := P) hr hfst hpb
 obtain ⟨k, w', arr, rest, xs, h1, h2, h3, h4, h5, h6, h7, h8, h9⟩ := append_new (P := P) (I := I) (m := m) (w := w) (ty := o.type) (A := none) (sLen := 0) (sCap := 0) (olds := []) (news := new) hd rfl hu hz hte hl (by omega) (by simpa using hb) (by simpa using h63) (fun w' hw' => ⟨#[], by simp [Builtin.firstCells], by simp [VRs]⟩) (by rw [hs1]; exact hf) (by simp) (by rw [hs1, Nat.mul_one]; exact hnl)
 simp only [Nat.zero_add, List.nil_append] at h1 h2 h9
 rw [hs1, Nat.mul_one] at h8
 obtain ⟨h10, h11⟩ := hr.newTC h9 hone h7 (by omega) (fun e => (hnb e).elim) h3 h4 h5 h6
 have hsok : SOK P I m H w (Builtin.append_ #[t, u] o.type #[.slice none 0 0, ac.eval x]) (.sl H.length 0 n) (H ++ [.tc ed new]) := by
  refine ⟨_, w', _, h1, ?_, h10, h11⟩
  simp only [VR]
  exact ⟨_, _, k, by rw [← hr.len]; exact last_lk _ (by simp), by simp [h8], h2, .inr rfl, rfl⟩
 rw [← hpa] at hsok
 exact OpS.of_sok hsok (by simp [execOp, hop, resolve, invoke, builtin])
theorem OpSem.appendTC {g : List AV} {s x : Operand} {t u ed : TypeId} {te : TI} {n id len : Nat} {new cs : List AV} (h : ApB P H t u ed te (ev g x) n new) (hs : ev g s = .sl id 0 len) (hid : H[id]? = some (.tc ed cs)) (hcl : cs.length = len) (hcone : cs.all (·.one) = true) (hb : (len + n) * te.bytes ≤ 140737488355328) (h63 : len + n ≤ 9223372036854775807) :
 OpSem P g H (.call ⟨.builtin .append, #[s, x], #[t, u]⟩) (.sl H.length 0 (len + n)) (H.set id .dead ++ [.tc ed (cs ++ new)]) := fun I m w ac o hop hr hx => by
 obtain ⟨⟨d1, d2, d3, hd⟩, hte, ⟨dd, e1, e2, e3, hu, hz⟩, hs1, hlen, hfst, hone, hnl, hnb⟩ := h
 have hpa := hx s (by simp [Op.operands, Call.operands])
 have hpb := hx x (by simp [Op.operands, Call.operands])
 rw [hs] at hpa
 have hpa0 := hpa
 simp only [VR] at hpa
 obtain ⟨L, A, c, hlk, hcap, hlc, hA, hval⟩ := hpa
 have hm := (lk_get hlk).1
 obtain ⟨⟨q1, q2, q3, q4⟩, ce, ⟨q5, q6, qb⟩, q7⟩ := hr.ob id _ _ hid hm
 rw [q1, Nat.mul_one, Nat.zero_add] at hcap
 have hc0 : c ≠ 0 := by omega
 have hA' := hA.resolve_left hc0
 rw [q3] at hA'
 subst hA'
 have hl := lenA_any (P := P) hlen hpb
 have hf := firstA_any (P := P) hr hfst hpb
 have hu1 := run_underlying' (w := w) hu
 have hall2 : (cs ++ new).all (·.one) = true := by rw [List.all_append, hcone, hone]; rfl
 have hsok : SOK P I m H w (Builtin.append_ #[t, u] o.type #[.slice (some ⟨L.b, 0, none⟩) len c, ac.eval x]) (.sl H.length 0 (len + n)) (H.set id .dead ++ [.tc ed (cs ++ new)]) := by
  by_cases hroom : len + n ≤ c
  ·obtain ⟨zs, hz1, hz2⟩ := hf w rfl
   have hzl := hz2.len
   obtain ⟨cur', w', h4, h5, h6, h7, h8, h9, h10, h11, h12⟩ := run_storeCells' P L.b len zs.toList 0 ce w q5 (by intro j _ h; simp at h) (by rw [hzl, hnl]; omega) (hz2.one hone)
   have hgo := hr.goOn (w' := w') (o' := .tc ed (cs ++ new)) (L' := ⟨L.b, 0, 1, c⟩) hid rfl hm (by omega) (.inl ⟨rfl, q2⟩) (fun b _ hb => h8 b hb) h9 h10 h11 (by
    simp only [OR]
    refine ⟨⟨trivial, hc0, trivial, by rw [List.length_append]; omega⟩, cur', ⟨h6, by rw [h7]; omega, fun e => (hnb e).elim⟩, fun k v hv => ?_⟩
    have mono : ∀ v y, VR I m w v y → VR I (m ++ [⟨L.b, 0, 1, c⟩]) w' v y := fun v y h => VR.mono (fun _ h => h) (fun b hb => h8 b fun e => hr.imm b hb ⟨id, _, L, hid, rfl, hm, q2, e.symm⟩) v y h
    have hget : cur'[k]? = cur'.toList[k]? := by simp
    have hcel : ce.toList.length = ce.size := Array.length_toList
    rw [hget, h12, hzl]
    simp only [List.append_assoc, List.getElem?_append, List.length_take, hcel, List.getElem?_take, List.getElem?_drop, Nat.add_zero] at hv ⊢
    by_cases hk : k < cs.length
    ·rw [if_pos hk] at hv
     rw [if_pos (by omega), if_pos (by omega)]
     obtain ⟨y, r1, r2, r3⟩ := q7 _ v hv
     exact ⟨y, by simpa using r1, mono v y r2, r3⟩
    ·rw [if_neg hk] at hv
     rw [if_neg (by omega)]
     have hk2 : k - cs.length < new.length := (List.getElem?_eq_some_iff.1 hv).1
     rw [show k - min len ce.size = k - cs.length by omega, if_pos (by rw [hzl]; exact hk2)]
     obtain ⟨y, r1, r2⟩ := hz2.get _ v hv
     exact ⟨y, r1, mono v y r2, List.all_eq_true.1 hone v (List.mem_of_getElem? hv)⟩)
   refine ⟨.slice (some ⟨L.b, 0, none⟩) (len + n) c, w', _, ?_, ?_, hgo.1, hgo.2⟩
   ·cases dd <;> first
     | (simp [isIntD] at hz; done)
     | (simp only [Builtin.append_, List.getElem?_toArray, List.getElem?_cons_zero, List.getElem?_cons_succ, Sem.run_bind, run_underlying' hd, Result.andThen_ok, run_sizeOf' hte, hu1, Sem.run_pure, hl, Sem.run_ite, Bool.false_eq_true, if_false, hroom, if_true, Bool.not_false, hs1, hz1, Nat.mul_one, add_none, Nat.zero_add, h4])
   ·simp only [VR]
    exact ⟨⟨L.b, 0, 1, c⟩, _, c, by rw [← hr.len]; exact last_lk _ (by simp), by simp, hroom, .inr rfl, rfl⟩
  ·have hdeg := hr.deg hid
   have hlt : id < H.length := (List.getElem?_eq_some_iff.1 hid).1
   have holds : firstA (H.set id (.cells 1 cs)) 1 len (.sl id 0 len) = some cs := by
    simp only [firstA, List.getElem?_set_self hlt]
    rw [if_pos ⟨trivial, Nat.le_refl _, by omega⟩]
    simp only [List.drop_zero]
    rw [List.take_of_length_le (by omega)]
   rw [hval] at hpa0
   obtain ⟨k, w', arr, rest, xs, h1, h2, h3, h4, h5, h6, h7, h8, h9⟩ := append_new (P := P) (I := I) (m := m) (w := w) (ty := o.type) (A := some ⟨L.b, 0, none⟩) (sLen := len) (sCap := c) (olds := cs) (news := new) hd rfl hu hz hte hl (by omega) hb h63 (fun w' hw' => by rw [hs1]; exact firstA_any hdeg holds hpa0 w' hw') (by rw [hs1]; exact hf) (by rw [hs1]; omega) (by rw [hs1, Nat.mul_one]; exact hnl)
   rw [hs1, Nat.mul_one] at h8
   have hgo := hr.goOn (w' := w') (o' := .tc ed (cs ++ new)) (L' := ⟨w.heap.size, 0, 1, arr.size⟩) hid rfl hm (by rw [h3]; simp) (.inr ⟨Nat.le_refl _, by rw [h3]; simp⟩) (fun b hb hb2 => by rw [h3, Array.getElem?_push, if_neg (by omega)]) h4 h5 h6 (by
    simp only [OR]
    have hl : arr.size = xs.length + rest.length := by rw [← Array.length_toList, h7, List.length_append]
    refine ⟨⟨trivial, by omega, trivial, by rw [← h9.len]; omega⟩, arr, ⟨by rw [h3]; simp, rfl, fun e => (hnb e).elim⟩, fun i x hx => ?_⟩
    obtain ⟨y, h12, h13⟩ := h9.get i x hx
    have hlt : i < xs.length := (List.getElem?_eq_some_iff.1 h12).1
    refine ⟨y, ?_, VR.mono (fun _ h => h) (fun b hb => by rw [h3, Array.getElem?_push, if_neg (by have := hr.ilt b hb; omega)]) x y h13, List.all_eq_true.1 hall2 x (List.mem_of_getElem? hx)⟩
    rw [← Array.getElem?_toList, h7, List.getElem?_append_left hlt]
    exact h12)
   refine ⟨_, w', _, h1, ?_, hgo.1, hgo.2⟩
   simp only [VR]
   exact ⟨⟨w.heap.size, 0, 1, arr.size⟩, _, k, by rw [← hr.len]; exact last_lk _ (by simp), by simp [h8], h2, .inr rfl, rfl⟩
 rw [← hval] at hsok
 exact OpS.of_sok hsok (by simp [execOp, hop, resolve, invoke, builtin])
end
end Go.Abs
namespace Go.Abs
open Go
noncomputable def byteB2 (n : Nat) : Bool → Option UInt8
 | true => some (UInt8.ofNat n)
 | false => none
noncomputable def byteB : AV → Option UInt8
 | .v (.int .u8 (.ofNat n)) => byteB2 n (Nat.blt n 256)
 | _ => none
noncomputable def consB : Option UInt8 → Option (List UInt8) → Option (List UInt8)
 | some b, some l => some (b :: l)
 | _, _ => none
noncomputable def bytesB (l : List AV) : Option (List UInt8) := List.rec (motive := fun _ => Option (List UInt8)) (some []) (fun v _ ih => consB (byteB v) ih) l
theorem byteB_spec {v : AV} {b : UInt8} (h : byteB v = some b) : v = .v (.int .u8 b.toNat) := by
 unfold byteB at h
 split at h
 ·rename_i n
  cases hb : Nat.blt n 256
  ·rw [hb] at h; cases h
  ·rw [hb] at h
   cases h
   rw [Nat.blt_eq] at hb
   simp only [UInt8.toNat_ofNat', Int.ofNat_eq_natCast]
   congr 2
   omega
 ·cases h
theorem bytesB_spec : ∀ {cs : List AV} {l : List UInt8}, bytesB cs = some l → cs = l.map fun b => .v (.int .u8 b.toNat)
 | [], l, h => by cases h; rfl
 | v :: cs, l, h => by
  have h : consB (byteB v) (bytesB cs) = some l := h
  cases hv : byteB v with
  | none => rw [hv] at h; cases h
  | some b =>
   rw [hv] at h
   cases hc : bytesB cs with
   | none => rw [hc] at h; cases h
   | some l' =>
    rw [hc] at h
    cases h
    rw [byteB_spec hv, bytesB_spec hc]; rfl
section
variable {P : Program} {H : List AO}
def TCF (o : Option AO) (T : TypeId) (cs : List AV) : Prop := o = some (.tc T cs) ∨ o = some (.tf T cs)
theorem tcfOR {I : Nat → Prop} {m : List Loc} {w : World} (hr : HR I m H w) {id : Nat} {T : TypeId} {cs : List AV} (hid : TCF (H[id]?) T cs) : ∃ o L c fz, H[id]? = some o ∧ o.alive = true ∧ m[id]? = some L ∧ L.sz = 1 ∧ L.cap ≠ 0 ∧ L.o = 0 ∧ cs.length ≤ L.cap ∧ w.heap[L.b]? = some (.cells c T fz) ∧ c.size = L.cap ∧ ∀ (i : Nat) x, cs[i]? = some x → ∃ y, c[i]? = some y ∧ VR I m w x y ∧ x.one = true := by
 rcases hid with hid | hid
 ·have hlt : id < m.length := by rw [hr.len]; exact (List.getElem?_eq_some_iff.1 hid).1
  have hm : m[id]? = some m[id] := List.getElem?_eq_getElem hlt
  obtain ⟨⟨q1, q2, q3, q4⟩, c, ⟨q5, q6, qb⟩, q7⟩ := hr.ob id _ _ hid hm
  exact ⟨_, _, c, (0, 0), hid, rfl, hm, q1, q2, q3, q4, q5, q6, q7⟩
 ·have hlt : id < m.length := by rw [hr.len]; exact (List.getElem?_eq_some_iff.1 hid).1
  have hm : m[id]? = some m[id] := List.getElem?_eq_getElem hlt
  obtain ⟨⟨q1, q2, q3, q4⟩, c, fz, ⟨q5, q6⟩, q7⟩ := hr.ob id _ _ hid hm
  exact ⟨_, _, c, fz, hid, rfl, hm, q1, q2, q3, q4, q5, q6, q7⟩
theorem OpSem.sliceData {g : List AV} {s : Operand} {ats : Array TypeId} {id len : Nat} {T : TypeId} {cs : List AV} (hs : ev g s = .sl id 0 len) (hid : TCF (H[id]?) T cs) : OpSem P g H (.call ⟨.builtin .unsafeSliceData, #[s], ats⟩) (.pt id 0) H := fun I m w ac o hop hr hx => by
 have hpa := hx s (by simp [Op.operands, Call.operands])
 rw [hs] at hpa
 simp only [VR] at hpa
 obtain ⟨L, A, c, hlk, hcap, hlc, hA, hval⟩ := hpa
 have hm := (lk_get hlk).1
 obtain ⟨o', L', ce, fz, ho, hal, hm', q1, q2, q3, q4, q5, q6, q7⟩ := tcfOR hr hid
 rw [hm] at hm'; cases hm'
 rw [q1, Nat.mul_one, Nat.zero_add] at hcap
 have hc0 : c ≠ 0 := by omega
 have hA' := hA.resolve_left hc0
 refine OpS.of_value hr (y := .pointer A) ?_ ?_
 ·simp only [VR]
  exact ⟨L, hlk, by rw [hA']⟩
 ·have := Lib.run_unsafeSliceData_row (P := P) (w := w) ats o.type ⟨L.b, L.o + 0, none⟩ len c hc0
  rw [← hA', ← hval] at this
  simp [execOp, hop, resolve, invoke, builtin, this]
theorem OpSem.unsafeString {g : List AV} {p n : Operand} {pt it ed : TypeId} {id : Nat} {cs : List AV} {l : List UInt8} (hpt : P.underlying pt = some (.pointer ed)) (hce : P.cellsOf ed = 1) (hp : ev g p = .pt id 0) (hn : ev g n = .v (.int .i64 cs.length)) (hid : TCF (H[id]?) ed cs) (hl : bytesB cs = some l) (h0 : cs ≠ []) (h63 : cs.length ≤ 9223372036854775807) :
 OpSem P g H (.call ⟨.builtin .unsafeString, #[p, n], #[pt, it]⟩) (.v (.string ⟨l.toArray⟩)) (H.set id (.tf ed cs)) := fun I m w ac o hop hr hx => by
 have hpa := hx p (by simp [Op.operands, Call.operands])
 have hpb := hx n (by simp [Op.operands, Call.operands])
 rw [hp] at hpa
 rw [hn] at hpb
 simp only [VR] at hpa hpb
 obtain ⟨o', L, c, fz, ho, hal, hm, q1, q2, q3, q4, q6, q7, q8⟩ := tcfOR hr hid
 obtain ⟨L', hlk, q5⟩ := hpa
 have hL' := (lk_get hlk).1
 rw [hm] at hL'; cases hL'
 rw [q3, Nat.zero_add] at q5
 have hcs := bytesB_spec hl
 have hll : cs.length = l.length := by rw [hcs]; simp
 have hl0 : l.length ≠ 0 := fun e => h0 (List.eq_nil_of_length_eq_zero (by omega))
 have hrun := Lib.run_unsafeString_row (P := P) w pt it o.type ed hpt hce L.b c.size (by simp [World.shape?, q6]) l (fun e => h0 (by rw [hcs, e]; rfl)) (by omega) (by omega) (fun j x hj => by
  obtain ⟨y, r1, r2, _⟩ := q8 j (.v (.int .u8 x.toNat)) (by rw [hcs]; simp [hj])
  simp only [VR] at r2
  subst r2
  by_cases hj0 : j = 0
  ·subst hj0; simp only [Addr.add, if_true, World.cell?, q6]; simpa using r1
  ·simp only [Addr.add, if_neg hj0, World.cell?, q6, Nat.zero_add]; simpa using r1)
 have hfr : ∀ b, b ≠ L.b → (w.freeze ⟨L.b, 0, none⟩ l.length).heap[b]? = w.heap[b]? := fun b hb => by
  unfold World.freeze
  split
  ·rfl
  ·simp only [Array.getElem?_modify, if_neg (Ne.symm hb)]
 have hsz : (w.freeze ⟨L.b, 0, none⟩ l.length).heap.size = w.heap.size := by
  unfold World.freeze; split <;> simp
 have hnew : ∃ fz', (w.freeze ⟨L.b, 0, none⟩ l.length).heap[L.b]? = some (.cells c ed fz') := by
  unfold World.freeze
  rw [if_neg hl0]
  obtain ⟨lo, hi⟩ := fz
  simp only [Array.getElem?_modify, if_true, q6, Option.map_some]
  exact ⟨_, rfl⟩
 obtain ⟨fz', hnew⟩ := hnew
 have hrest : (w.freeze ⟨L.b, 0, none⟩ l.length).os = w.os ∧ (w.freeze ⟨L.b, 0, none⟩ l.length).tape = w.tape ∧ (w.freeze ⟨L.b, 0, none⟩ l.length).output = w.output := by
  unfold World.freeze; split <;> exact ⟨rfl, rfl, rfl⟩
 obtain ⟨r1, r2⟩ := hr.set (w' := w.freeze ⟨L.b, 0, none⟩ l.length) (o' := .tf ed cs) ho hal hm hsz (fun b hb => hfr b (hb q2)) hrest.1 hrest.2.1 hrest.2.2 (by
  simp only [OR]
  refine ⟨⟨q1, q2, q3, q4⟩, c, fz', ⟨hnew, q7⟩, fun i x hx => ?_⟩
  obtain ⟨y, s1, s2, s3⟩ := q8 i x hx
  refine ⟨y, s1, ?_, s3⟩
  have := VR.mono (nu := []) (I' := I) (w' := w.freeze ⟨L.b, 0, none⟩ l.length) (fun _ h => h) (fun b hb => hfr b fun e => hr.imm b hb ⟨id, _, L, ho, hal, hm, q2, e.symm⟩) x y s2
  simpa using this)
 refine ⟨.string ⟨l.toArray⟩, _, m, .inl ?_, by simp only [VR], r1, r2⟩
 simp [execOp, hop, resolve, invoke, builtin, q5, hpb, hll, hrun]
def StepS (P : Program) (g : List AV) (H : List AO) (v : AV) (H' : List AO) : Op → Prop
 | .call ⟨.value f, args, _⟩ => ∃ n first cap, ev g f = .fn (.func n) first cap ∧ ACall P n (first ++ args.toList.map (ev g) ++ cap) H (fun v1 H1 => v1 = v ∧ H1 = H')
 | op => aop P g H op = some (v, H') ∨ OpSem P g H op v H'
def AOpsS (P : Program) (K : List AV → List AO → Prop) : List (Option Tmp × Op) → List AV → List AO → Prop
 | [], g, H => K g H
 | (d, op) :: os, g, H => ∃ v H', StepS P g H v H' op ∧ AOpsS P K os (put g d v) H'
theorem AOps_ofS {ops : Array Oper} {K : List AV → List AO → Prop} : ∀ {os : List Oper} {cs : List (Option Tmp × Op)} {g : List AV} {H : List AO}, os.map core = plainC cs → AOpsS P K cs g H → AOps P ops K os g H
 | [], [], g, H, _, h => h
 | [], _ :: _, g, H, e, _ => by simp [plainC] at e
 | _ :: _, [], g, H, e, _ => by simp [plainC] at e
 | o :: os, (d, op) :: cs, g, H, e, h => by
  simp only [List.map_cons, plainC, core, List.cons.injEq, Prod.mk.injEq] at e
  obtain ⟨⟨rfl, rfl, hg⟩, e2⟩ := e
  obtain ⟨v, H', h1, h2⟩ := h
  simp only [AOps, AOp]
  unfold AOpR
  have hw : wantA ops g o = some true := by unfold wantA; rw [hg]
  rw [hw]
  dsimp only
  unfold AExecR
  split
  ·rename_i f args ats hop
   rw [hop] at h1
   obtain ⟨n, first, cap, q1, q2⟩ := h1
   rw [q1]
   exact q2.mono fun v1 H1 ⟨r1, r2⟩ => by subst r1; subst r2; exact AOps_ofS e2 h2
  ·rename_i op hno
   have h1' : aop P g H o.op = some (v, H') ∨ OpSem P g H o.op v H' := by
    generalize o.op = op at *
    unfold StepS at h1
    split at h1
    ·exact (hno _ _ _ rfl).elim
    ·exact h1
   rcases h1' with h1 | h1
   ·exact .inl ⟨v, H', h1, AOps_ofS e2 h2⟩
   ·exact .inr ⟨v, H', h1, AOps_ofS e2 h2⟩
end
structure BldTy (P : Program) (bT sT eT : TypeId) : Prop where
  b : ∃ fs a b z f, ti P bT = some ⟨.struct fs, a, b, z⟩ ∧ fs[1]? = some f ∧ f.type = sT ∧ f.offset = 1
  s : ∃ b z, ti P sT = some ⟨.slice eT, 1, b, z⟩
  e : ∃ d z, ti P eT = some ⟨d, 1, 1, z⟩ ∧ isIntD d = isIntD d
  sn : ∃ d, P.underlying sT = some d
noncomputable def bldNew (bT eT : TypeId) (id : Nat) (new : List AV) (h : HP) (s : AV) : Option HP := match s with
 | .v (.slice none 0 0) => match new with
  | [] => some (rSet h id (.tc bT [.pt id 0, .v (.slice none 0 0)]))
  | c :: new => some (rNew (rSet h id (.tc bT [.pt id 0, .sl h.n 0 (c :: new).length])) (.tc eT (c :: new)))
 | .sl b 0 n => match rGet h b with
  | some (.tc e cs) => if e = eT ∧ cs.length = n ∧ b ≠ id ∧ cs.all (·.one) = true ∧ n + new.length ≤ 140737488355328 then
   some (rNew (rSet (rSet h b .dead) id (.tc bT [.pt id 0, .sl h.n 0 (n + new.length)])) (.tc eT (cs ++ new))) else none
  | _ => none
 | _ => none
end Go.Abs
namespace Go.Abs
open Go
def FnAt (P : Program) (f : FuncId) (c : Code) (nt : Nat) (rs : List ResultVar) : Prop :=
 ∃ fn : Func, P.funcs[f]? = some fn ∧ fn.body = some c ∧ (fn.name == "runtime.NumGoroutine") = false ∧ fn.ntmps = nt ∧ fn.results.toList = rs
section
variable {P : Program} {bT sT eT : TypeId}
def CcOK (P : Program) (bT : TypeId) (cc : FuncId) : Prop := ∀ (id : Nat) (p s : AV) (H : List AO), H[id]? = some (.tc bT [p, s]) → (p = .v (.pointer none) ∨ p = .pt id 0) →
 ACall P cc [.pt id 0] H (fun v1 H1 => v1 = .tu [] ∧ H1 = H.set id (.tc bT [.pt id 0, s]))
set_option maxHeartbeats 4000000 in
theorem OpSem.appendNil0 {H : List AO} {g : List AV} {s x : Operand} {t u ed : TypeId} {te : TI} (h : ApB P H t u ed te (ev g x) 0 []) (hs : ev g s = .v (.slice none 0 0)) :
 OpSem P g H (.call ⟨.builtin .append, #[s, x], #[t, u]⟩) (.v (.slice none 0 0)) H := fun I m w ac o hop hr hx => by
 obtain ⟨⟨d1, d2, d3, hd⟩, hte, ⟨dd, e1, e2, e3, hu, hz⟩, hs1, hlen, hfst, hone, hnl, hnb⟩ := h
 have hpa := hx s (by simp [Op.operands, Call.operands])
 have hpb := hx x (by simp [Op.operands, Call.operands])
 rw [hs] at hpa
 simp only [VR] at hpa
 have hl := lenA_any (P := P) hlen hpb w
 obtain ⟨zs, hz1, hz2⟩ := firstA_any (P := P) hr hfst hpb w rfl
 simp only [VRs] at hz2
 have hzs : zs = #[] := by cases zs; simp_all
 subst hzs
 have hu1 := run_underlying' (w := w) hu
 refine OpS.of_value hr (y := .slice none 0 0) (by simp only [VR]) ?_
 have : (Builtin.append_ #[t, u] o.type #[.slice none 0 0, ac.eval x]).run P w = .ok (.slice none 0 0) w := by
  cases dd <;> first
   | (simp [isIntD] at hz; done)
   | (simp [Builtin.append_, run_underlying' hd, run_sizeOf' hte, hu1, hl, hz1, storeCells, hs1])
 simp [execOp, hop, resolve, invoke, builtin, hpa, this]
theorem bld_put {h h' : HP} (hk : h.ok) {id : Nat} {p s : AV} (hid : rGet h id = some (.tc bT [p, s])) {new : List AV} (hone : new.all (·.one) = true) (hlim : new.length ≤ 140737488355328) (e : bldNew bT eT id new h s = some h') {te : TI} (hte : ti P eT = some te) (hb1 : te.bytes = 1) {u : TypeId} {x : AV} (hap : ApB P (h.L.set id (.tc bT [.pt id 0, s])) sT u eT te x new.length new) :
 (h'.ok ∧ h.n ≤ h'.n) ∧ ∃ s' H2, (∀ (g : List AV) (a b : Operand), ev g a = s → ev g b = x → OpSem P g (h.L.set id (.tc bT [.pt id 0, s])) (.call ⟨.builtin .append, #[a, b], #[sT, u]⟩) s' H2) ∧
  H2[id]? = some (.tc bT [.pt id 0, s]) ∧ s'.one = true ∧ flat s' = [s'] ∧ H2.set id (.tc bT [.pt id 0, s']) = h'.L := by
 have hlt := rGet_lt hid
 have hL := HP.len hk
 rw [rGet_eq hk] at hid
 have hidlt : id < h.L.length := by omega
 unfold bldNew at e
 split at e
 ·split at e
  ·cases e
   refine ⟨⟨rSet_ok hk _ _, Nat.le_refl _⟩, .v (.slice none 0 0), h.L.set id (.tc bT [.pt id 0, .v (.slice none 0 0)]), fun g a b ha hb => ?_, by rw [List.getElem?_set_self hidlt], rfl, rfl, ?_⟩
   ·subst hb
    exact OpSem.appendNil0 hap ha
   ·rw [rSet_eq hk hlt, List.set_set]
  ·rename_i c new'
   cases e
   refine ⟨⟨rNew_ok (rSet_ok hk _ _) _, Nat.le_succ _⟩, .sl h.n 0 (c :: new').length, h.L.set id (.tc bT [.pt id 0, .v (.slice none 0 0)]) ++ [.tc eT (c :: new')], fun g a b ha hb => ?_, ?_, rfl, rfl, ?_⟩
   ·subst hb
    have := OpSem.appendNil hap ha (by simp) (by rw [hb1, Nat.mul_one]; exact hlim) (by omega)
    rw [List.length_set, hL] at this
    exact this
   ·rw [List.getElem?_append_left (by rw [List.length_set]; exact hidlt), List.getElem?_set_self hidlt]
   ·rw [rNew_eq, rSet_eq hk hlt, List.set_append_left _ _ (by rw [List.length_set]; exact hidlt), List.set_set]
 ·rename_i b n
  cases hb : rGet h b with
  | none => rw [hb] at e; cases e
  | some ob =>
   rw [hb] at e
   have hblt := rGet_lt hb
   rw [rGet_eq hk] at hb
   cases ob <;> first | (cases e; done) | skip
   rename_i e' cs
   dsimp only at e
   split at e
   ·rename_i hc
    obtain ⟨rfl, rfl, hne, hall, hl2⟩ := hc
    cases e
    refine ⟨⟨rNew_ok (rSet_ok (rSet_ok hk _ _) _ _) _, Nat.le_succ _⟩, .sl h.n 0 (cs.length + new.length), (h.L.set id (.tc bT [.pt id 0, .sl b 0 cs.length])).set b .dead ++ [.tc e' (cs ++ new)], fun g a x' ha hx => ?_, ?_, rfl, rfl, ?_⟩
    ·subst hx
     have := OpSem.appendTC (id := b) (len := cs.length) (cs := cs) hap ha (by rw [List.getElem?_set_ne (Ne.symm hne)]; exact hb) rfl hall (by rw [hb1, Nat.mul_one]; exact hl2) (by omega)
     rw [List.length_set, hL] at this
     exact this
    ·rw [List.getElem?_append_left (by simp only [List.length_set]; exact hidlt), List.getElem?_set_ne hne, List.getElem?_set_self hidlt]
    ·rw [rNew_eq, rSet_eq (rSet_ok hk _ _) hlt, rSet_eq hk hblt, List.set_append_left _ _ (by simp only [List.length_set]; exact hidlt)]
     congr 1
     rw [List.set_comm _ _ hne, List.set_set, List.set_comm _ _ (Ne.symm hne)]
   ·cases e
 ·cases e
def WsCode (P : Program) (f cc : FuncId) (bT sT uT tI tF : TypeId) : Prop :=
 ∃ (i0 i1 i2 i3 : Nat) (o0 o1 o2 o3 : Array Oper) (a1 : Array TypeId), FnAt P f (.seq (.region i0 o0 false) (.seq (.region i1 o1 false) (.seq (.region i2 o2 false) (.seq (.region i3 o3 false) .ret)))) 19 [.tmp 4, .tmp 5] ∧
  o0.toList.map core = plainC [(some 4, .assign (.const (.int .i64 0))), (some 5, .assign (.const .nilIface))] ∧
  o1.toList.map core = plainC [(some 6, .move (.tmp 0)), (some 7, .call ⟨.value (.func cc), #[.tmp 6], a1⟩)] ∧
  o2.toList.map core = plainC [(some 8, .move (.tmp 0)), (some 9, .move (.tmp 0)), (some 10, .nilCheck (.tmp 9)), (some 11, .fieldAddr bT (.tmp 10) 1), (some 12, .load sT (.tmp 11)), (some 13, .move (.tmp 1)), (some 14, .call ⟨.builtin .append, #[.tmp 12, .tmp 13], #[sT, uT]⟩), (some 15, .nilCheck (.tmp 8)), (some 16, .fieldAddr bT (.tmp 15) 1), (none, .store sT (.tmp 16) (.tmp 14))] ∧
  o3.toList.map core = plainC [(some 17, .move (.tmp 1)), (some 18, .call ⟨.builtin .len, #[.tmp 17], #[uT]⟩), (some 4, .assign (.tmp 18)), (some 5, .assign (.const .nilIface))]
theorem strCells (H : List AO) (s : ByteArray) : firstA H 1 s.size (.v (.string s)) = some (s.data.toList.map fun b => .v (.int .u8 b.toNat)) := by
 simp only [firstA, Nat.le_refl, if_true]
 rw [List.take_of_length_le]
 have : s.data.toList.length = s.size := Array.length_toList
 omega
structure BTy (P : Program) (bT sT eT : TypeId) where
  fs : Array Field
  fd : Field
  te : TI
  b1 : Nat
  b2 : Nat
  z : List Value
  s1 : Nat
  z2 : List Value
  hb : ti P bT = some ⟨.struct fs, b1, b2, z⟩
  hf : fs[1]? = some fd
  ht : fd.type = sT
  ho : fd.offset = 1
  hs : ti P sT = some ⟨.slice eT, 1, s1, z2⟩
  he : ti P eT = some te
  h1 : te.size = 1
  h2 : te.bytes = 1
  hn : eT ≠ bty
noncomputable def kBld (bT eT : TypeId) (id : Nat) (new : List AV) (h : HP) (r : AV) : OR2 := match rGet h id with
 | some (.tc T [p, s]) => match Nat.beq T bT, p with
  | true, .v (.pointer none) => (bldNew bT eT id new h s).map fun h' => (r, h')
  | true, .pt j 0 => match Nat.beq j id with
   | true => (bldNew bT eT id new h s).map fun h' => (r, h')
   | false => none
  | _, _ => none
 | _ => none
theorem kBld_spec {id : Nat} {new : List AV} {h : HP} {r v : AV} {h' : HP} (e : kBld bT eT id new h r = some (v, h')) : v = r ∧ ∃ p s, rGet h id = some (.tc bT [p, s]) ∧ (p = .v (.pointer none) ∨ p = .pt id 0) ∧ bldNew bT eT id new h s = some h' := by
 unfold kBld at e
 split at e
 ·rename_i T p s hg
  split at e
  ·rename_i hT
   have := Nat.eq_of_beq_eq_true hT
   subst this
   cases hb : bldNew T eT id new h s with
   | none => rw [hb] at e; cases e
   | some h2 => rw [hb] at e; cases e; exact ⟨rfl, _, s, hg, .inl rfl, hb⟩
  ·rename_i j hT
   have := Nat.eq_of_beq_eq_true hT
   subst this
   split at e
   ·rename_i hj
    have := Nat.eq_of_beq_eq_true hj
    subst this
    cases hb : bldNew T eT j new h s with
    | none => rw [hb] at e; cases e
    | some h2 => rw [hb] at e; cases e; exact ⟨rfl, _, s, hg, .inr rfl, hb⟩
   ·cases e
  ·cases e
 ·cases e
theorem ws_ok {f cc : FuncId} {uT tI tF : TypeId} (B : BTy P bT sT eT) (hu : ∃ a b z, ti P uT = some ⟨.string, a, b, z⟩) (hc : WsCode P f cc bT sT uT tI tF) (hcc : CcOK P bT cc) {id : Nat} {s : ByteArray} {h : HP} (hk : h.ok) (hlim : s.size ≤ 140737488355328) {v : AV} {h' : HP}
 (e : kBld bT eT id (s.data.toList.map fun b => .v (.int .u8 b.toNat)) h (.tu [.v (.int .i64 s.size), .v .nilIface]) = some (v, h')) :
 (h'.ok ∧ h.n ≤ h'.n) ∧ ACall P f [.pt id 0, .v (.string s)] h.L (fun v1 H1 => v1 = v ∧ H1 = h'.L) := by
 obtain ⟨rfl, p, sl, hid, hp, hnew⟩ := kBld_spec e
 obtain ⟨ua, ub, uz, hu⟩ := hu
 have hsl : (s.data.toList.map fun b => (AV.v (.int .u8 b.toNat))).length = s.size := by rw [List.length_map]; exact Array.length_toList
 have hall : (s.data.toList.map fun b => (AV.v (.int .u8 b.toNat))).all (·.one) = true := List.all_eq_true.2 fun x hx => by
  obtain ⟨b, _, rfl⟩ := List.mem_map.1 hx; rfl
 have hap : ApB P (h.L.set id (.tc bT [.pt id 0, sl])) sT uT eT B.te (.v (.string s)) (s.data.toList.map fun b => (AV.v (.int .u8 b.toNat))).length (s.data.toList.map fun b => (AV.v (.int .u8 b.toNat))) :=
  ⟨⟨_, _, _, B.hs⟩, B.he, ⟨_, _, _, _, hu, rfl⟩, B.h1, by rw [hsl]; rfl, by rw [hsl]; exact strCells _ s, hall, rfl, B.hn⟩
 obtain ⟨hok, s', H2, q1, q2, q3, q4, q5⟩ := bld_put hk hid hall (by rw [hsl]; exact hlim) hnew B.he B.h2 hap
 refine ⟨hok, ?_⟩
 obtain ⟨i0, i1, i2, i3, o0, o1, o2, o3, a1, ⟨fn, f1, f2, f3, f4, f5⟩, c0, c1, c2, c3⟩ := hc
 have hlt := rGet_lt hid
 have hidL := hid
 rw [rGet_eq hk] at hidL
 have hidlt : id < h.L.length := by rw [HP.len hk]; exact hlt
 refine ACall_of_AW f1 f2 f3 ?_
 rw [f4]
 refine AW_seq (AW_region (AOps_ofS c0 ?_))
 refine ⟨_, _, .inl rfl, _, _, .inl rfl, ?_⟩
 simp only [AOpsS, thenA]
 refine AW_seq (AW_region (AOps_ofS c1 ?_))
 refine ⟨_, _, .inl rfl, .tu [], h.L.set id (.tc bT [.pt id 0, sl]), ⟨cc, [], [], rfl, ?_⟩, ?_⟩
 ·have := hcc id p sl h.L hidL hp
  simpa [ev, put] using this
 simp only [AOpsS, thenA]
 refine AW_seq (AW_region (AOps_ofS c2 ?_))
 have hfa : ∀ (g : List AV) (H : List AO) (x : Tmp), ev g (.tmp x) = .pt id 0 → aop P g H (.fieldAddr bT (.tmp x) 1) = some (.pt id 1, H) := fun g H x hx => by
  have hsz : ¬ ((⟨.slice eT, 1, B.s1, B.z2⟩ : TI).size = 0) := by simp
  simp only [aop, B.hb, B.hf, B.ht, B.hs, hx, B.ho]
  rfl
 have hap1 : ∀ cs : AV, apart P sT [.pt id 0, cs] 1 = some cs := fun cs => by simp [apart, B.hs, isAggD]
 refine ⟨_, _, .inl rfl, _, _, .inl rfl, .pt id 0, _, .inl (by simp [aop, ev, put]), .pt id 1, _, .inl (hfa _ _ 10 (by simp [ev, put])), sl, _, .inr (OpSem.loadTC (id := id) (off := 1) (T := bT) (cs := [.pt id 0, sl]) (by simp [ev, put]) (List.getElem?_set_self hidlt) (hap1 sl)), _, _, .inl rfl, s', H2, .inr (q1 _ _ _ (by simp [ev, put]) (by simp [ev, put])),
  .pt id 0, _, .inl (by simp [aop, ev, put]), .pt id 1, _, .inl (hfa _ _ 15 (by simp [ev, put])), _, _, .inr (OpSem.storeTC (id := id) (off := 1) (T := bT) (cs := [.pt id 0, sl]) (v := s') B.hs rfl (by simp [ev, put]) (by simp [ev, put]) q3 q4 q2 (by simp)), ?_⟩
 simp only [List.set_cons_succ, List.set_cons_zero]
 rw [q5]
 simp only [AOpsS, thenA]
 refine AW_seq (AW_region (AOps_ofS c3 ?_))
 refine ⟨_, _, .inl rfl, .v (.int .i64 s.size), h'.L, .inl (by simp [aop, ev, put, abuiltin, hu]), _, _, .inl rfl, _, _, .inl rfl, ?_⟩
 simp only [AOpsS, thenA]
 refine AW_ret ?_
 simp only [endA, f5]
 exact ⟨_, rfl, by simp [ev, put, lift, result], trivial⟩
end
end Go.Abs
namespace Go.Abs
open Go
section
variable {P : Program} {bT sT eT : TypeId}
def WbCode (P : Program) (f cc : FuncId) (bT sT : TypeId) : Prop :=
 ∃ (i0 i1 i2 i3 : Nat) (o0 o1 o2 o3 : Array Oper) (a1 : Array TypeId), FnAt P f (.seq (.region i0 o0 false) (.seq (.region i1 o1 false) (.seq (.region i2 o2 false) (.seq (.region i3 o3 false) .ret)))) 17 [.tmp 4] ∧
  o0.toList.map core = plainC [(some 4, .assign (.const .nilIface))] ∧
  o1.toList.map core = plainC [(some 5, .move (.tmp 0)), (some 6, .call ⟨.value (.func cc), #[.tmp 5], a1⟩)] ∧
  o2.toList.map core = plainC [(some 7, .move (.tmp 0)), (some 8, .move (.tmp 0)), (some 9, .nilCheck (.tmp 8)), (some 10, .fieldAddr bT (.tmp 9) 1), (some 11, .load sT (.tmp 10)), (some 12, .move (.tmp 1)), (some 13, .buildSlice sT 1 #[(0, .tmp 12)]), (some 14, .call ⟨.builtin .append, #[.tmp 11, .tmp 13], #[sT, sT]⟩), (some 15, .nilCheck (.tmp 7)), (some 16, .fieldAddr bT (.tmp 15) 1), (none, .store sT (.tmp 16) (.tmp 14))] ∧
  o3.toList.map core = plainC [(some 4, .assign (.const .nilIface))]
theorem wb_ok {f cc : FuncId} (B : BTy P bT sT eT) (hz0 : B.te.zero = [.int .u8 0]) (hnu : isIntD B.te.desc = isIntD B.te.desc) (hc : WbCode P f cc bT sT) (hcc : CcOK P bT cc) {id : Nat} {x : Int} {h : HP} (hk : h.ok) {v : AV} {h' : HP} (hidn : id < h.n)
 (e : kBld bT eT id [.v (.int .u8 x)] (rNew h (.cells 1 [.v (.int .u8 x)])) (.v .nilIface) = some (v, h')) :
 (h'.ok ∧ h.n ≤ h'.n) ∧ ACall P f [.pt id 0, .v (.int .u8 x)] h.L (fun v1 H1 => v1 = v ∧ H1 = h'.L) := by
 obtain ⟨rfl, p, sl, hid, hp, hnew⟩ := kBld_spec e
 have hk1 : (rNew h (.cells 1 [.v (.int .u8 x)])).ok := rNew_ok hk _
 have hL := HP.len hk
 have hidL := hid
 rw [rGet_eq hk1, rNew_eq, List.getElem?_append_left (by omega)] at hidL
 have hidlt : id < h.L.length := by omega
 have hset : (rNew h (.cells 1 [.v (.int .u8 x)])).L.set id (.tc bT [.pt id 0, sl]) = h.L.set id (.tc bT [.pt id 0, sl]) ++ [.cells 1 [.v (.int .u8 x)]] := by
  rw [rNew_eq, List.set_append_left _ _ hidlt]
 have hnth : (h.L.set id (.tc bT [.pt id 0, sl]) ++ [.cells 1 [.v (.int .u8 x)]])[h.n]? = some (.cells 1 [.v (.int .u8 x)]) := by
  rw [List.getElem?_append_right (by simp [hL]), List.length_set, hL]; simp
 have hap : ApB P ((rNew h (.cells 1 [.v (.int .u8 x)])).L.set id (.tc bT [.pt id 0, sl])) sT sT eT B.te (.sl h.n 0 1) [AV.v (.int .u8 x)].length [.v (.int .u8 x)] :=
  ⟨⟨_, _, _, B.hs⟩, B.he, ⟨_, _, _, _, B.hs, rfl⟩, B.h1, rfl, by rw [hset]; simp only [firstA, hnth]; rfl, rfl, rfl, B.hn⟩
 obtain ⟨⟨ok1, ok2⟩, s', H2, q1, q2, q3, q4, q5⟩ := bld_put hk1 hid (new := [.v (.int .u8 x)]) rfl (by simp) hnew B.he B.h2 hap
 rw [hset] at q1
 refine ⟨⟨ok1, Nat.le_trans (Nat.le_succ _) ok2⟩, ?_⟩
 obtain ⟨i0, i1, i2, i3, o0, o1, o2, o3, a1, ⟨fn, f1, f2, f3, f4, f5⟩, c0, c1, c2, c3⟩ := hc
 refine ACall_of_AW f1 f2 f3 ?_
 rw [f4]
 refine AW_seq (AW_region (AOps_ofS c0 ?_))
 refine ⟨_, _, .inl rfl, ?_⟩
 simp only [AOpsS, thenA]
 refine AW_seq (AW_region (AOps_ofS c1 ?_))
 refine ⟨_, _, .inl rfl, .tu [], h.L.set id (.tc bT [.pt id 0, sl]), ⟨cc, [], [], rfl, ?_⟩, ?_⟩
 ·have := hcc id p sl h.L hidL hp
  simpa [ev, put] using this
 simp only [AOpsS, thenA]
 refine AW_seq (AW_region (AOps_ofS c2 ?_))
 have hfa : ∀ (g : List AV) (H : List AO) (x : Tmp), ev g (.tmp x) = .pt id 0 → aop P g H (.fieldAddr bT (.tmp x) 1) = some (.pt id 1, H) := fun g H x hx => by
  simp only [aop, B.hb, B.hf, B.ht, B.hs, hx, B.ho]
  rfl
 have hap1 : ∀ cs : AV, apart P sT [.pt id 0, cs] 1 = some cs := fun cs => by simp [apart, B.hs, isAggD]
 have hbs : ∀ (g : List AV), ev g (.tmp 12) = .v (.int .u8 x) → aop P g (h.L.set id (.tc bT [.pt id 0, sl])) (.buildSlice sT 1 #[(0, .tmp 12)]) = some (.sl h.n 0 1, h.L.set id (.tc bT [.pt id 0, sl]) ++ [.cells 1 [.v (.int .u8 x)]]) := fun g hg => by
  have hone : ∀ k, (AV.v (.int k x)).one = true := fun k => rfl
  have hm : (#[((0 : Nat), Operand.tmp 12)].toList.map fun p => (p.1, ev g p.2)) = [(0, .v (.int .u8 x))] := by simp [hg]
  simp only [aop, B.hs, B.he, B.h1, hz0]
  rw [hm]
  simp [afill, flat, hone, setRange, hL]
 refine ⟨_, _, .inl rfl, _, _, .inl rfl, .pt id 0, _, .inl (by simp [aop, ev, put]), .pt id 1, _, .inl (hfa _ _ 9 (by simp [ev, put])), sl, _, .inr (OpSem.loadTC (id := id) (off := 1) (T := bT) (cs := [.pt id 0, sl]) (by simp [ev, put]) (List.getElem?_set_self hidlt) (hap1 sl)), _, _, .inl rfl, _, _, .inl (hbs _ (by simp [ev, put])), s', H2, .inr (q1 _ _ _ (by simp [ev, put]) (by simp [ev, put])),
  .pt id 0, _, .inl (by simp [aop, ev, put]), .pt id 1, _, .inl (hfa _ _ 15 (by simp [ev, put])), _, _, .inr (OpSem.storeTC (id := id) (off := 1) (T := bT) (cs := [.pt id 0, sl]) (v := s') B.hs rfl (by simp [ev, put]) (by simp [ev, put]) q3 q4 q2 (by simp)), ?_⟩
 simp only [List.set_cons_succ, List.set_cons_zero]
 rw [q5]
 simp only [AOpsS, thenA]
 refine AW_seq (AW_region (AOps_ofS c3 ?_))
 refine ⟨_, _, .inl rfl, ?_⟩
 simp only [AOpsS, thenA]
 refine AW_ret ?_
 simp only [endA, f5]
 exact ⟨_, rfl, by simp [ev, put, lift, result], trivial⟩
theorem osem_wp {g : List AV} {H : List AO} {op : Op} {v : AV} {H' : List AO} (h : OpSem P g H op v H') {I : Nat → Prop} {m : List Loc} {a : Act} {w : World} {o : Oper} {Q : Exit → Act → World → Prop} (ho : o.op = op) (hr : HR I m H w) (hg : VRs I m w g a.tmps.toList)
 {K : Act → World → Prop} (hK : ∀ y w' m', VR I m' w' v y → HR I m' H' w' → Ext I m (Own H m) w I m' (Own H' m') w' → K (a.put o.dst y) w') : OWP P o a w K Q := by
 obtain ⟨y, w', m', h3, h4, h5, h6⟩ := h I m w a o ho hr fun x _ => VR.ev hg x
 refine OWP.of ?_ (not_defer h3)
 unfold Oper.wp
 rcases h3 with h3 | ⟨h3, rfl⟩
 ·rw [h3]; simp only [Oper.upon]; exact hK _ _ _ h4 h5 h6
 ·rw [h3]; simp only [Oper.upon]; exact hK _ _ _ h4 h5 h6
theorem LL_semSame [DSt] {N : Nat} {g : List AV} {H : List AO} {op : Op} {v : AV} (F : List Nat) (h : ∀ (H2 : List AO) (g' : List AV), H2.length = N → (∀ id ∈ F, H2[id]? = H[id]?) → (∀ x ∈ op.operands, ev g' x = ev g x) → OpSem P g' H2 op v H2) : LL P N op g H ⟨F, [], []⟩ v := by
 intro H2 g' hl hF hops I m a w o Q ho hr hg hd hv
 refine osem_wp (h H2 g' hl hF hops) ho hr hg fun y w' m' k1 k2 k3 => ?_
 obtain ⟨nu, rfl⟩ := k3.pre
 obtain rfl := nu_nil hr k2 rfl
 simp only [List.append_nil] at k1 k2 k3
 exact ⟨I, m, k2, put_ok (Ext.vrs hr k3 hg) o.dst k1, put_defers hd, k3.ex, fun _ _ => rfl⟩
theorem LL_semSet [DSt] {N : Nat} {g : List AV} {H : List AO} {op : Op} {v : AV} (F : List Nat) {id : Nat} {ob : AO} (h : ∀ (H2 : List AO) (g' : List AV), H2.length = N → (∀ id ∈ F, H2[id]? = H[id]?) → (∀ x ∈ op.operands, ev g' x = ev g x) → OpSem P g' H2 op v (H2.set id ob)) : LL P N op g H ⟨F, [(id, ob)], []⟩ v := by
 intro H2 g' hl hF hops I m a w o Q ho hr hg hd hv
 refine osem_wp (h H2 g' hl hF hops) ho hr hg fun y w' m' k1 k2 k3 => ?_
 obtain ⟨nu, rfl⟩ := k3.pre
 obtain rfl := nu_nil hr k2 (by simp)
 simp only [List.append_nil] at k1 k2 k3
 exact ⟨I, m, k2, put_ok (Ext.vrs hr k3 hg) o.dst k1, put_defers hd, k3.ex, fun _ _ => rfl⟩
end
end Go.Abs
namespace Go.Abs
open Go
section
variable {P : Program} {bT sT eT pT tI : TypeId}
theorem OpSem.sliceDataNil {H : List AO} {g : List AV} {s : Operand} {ats : Array TypeId} (hs : ev g s = .v (.slice none 0 0)) : OpSem P g H (.call ⟨.builtin .unsafeSliceData, #[s], ats⟩) (.v (.pointer none)) H := fun I m w ac o hop hr hx => by
 have hpa := hx s (by simp [Op.operands, Call.operands])
 rw [hs] at hpa
 simp only [VR] at hpa
 refine OpS.of_value hr (y := .pointer none) (by simp only [VR]) ?_
 have := Lib.run_unsafeSliceData_nil (P := P) (w := w) ats o.type 0 0
 simp [execOp, hop, resolve, invoke, builtin, hpa, this]
theorem OpSem.unsafeStringNil {H : List AO} {g : List AV} {p n : Operand} {pt it : TypeId} (hp : ev g p = .v (.pointer none)) (hn : ev g n = .v (.int .i64 0)) : OpSem P g H (.call ⟨.builtin .unsafeString, #[p, n], #[pt, it]⟩) (.v (.string .empty)) H := fun I m w ac o hop hr hx => by
 have hpa := hx p (by simp [Op.operands, Call.operands])
 have hpb := hx n (by simp [Op.operands, Call.operands])
 rw [hp] at hpa
 rw [hn] at hpb
 simp only [VR] at hpa hpb
 refine OpS.of_value hr (y := .string .empty) (by simp only [VR]) ?_
 have : (Builtin.unsafeString_ #[pt, it] o.type #[.pointer none, .int .i64 0]).run P w = .ok (.string .empty) w := by
  rfl
 simp [execOp, hop, resolve, invoke, builtin, hpa, hpb, this]
def AnS : List (List Nat) := [[], [0], [0, 1], [0, 1, 2], [0, 1, 2, 3], [], [5], [5, 6], [5, 6, 7], [5, 6, 7, 8], [0, 1, 2, 3, 4, 5, 6, 7, 8, 9], [10]]
def sgOps (bT sT pT tI : TypeId) : List LOp :=
  [⟨some 3, .move (.tmp 0), none⟩, ⟨some 4, .nilCheck (.tmp 3), none⟩, ⟨some 5, .fieldAddr bT (.tmp 4) 1, none⟩, ⟨some 6, .load sT (.tmp 5), none⟩, ⟨some 7, .call ⟨.builtin .unsafeSliceData, #[.tmp 6], #[sT]⟩, none⟩, ⟨some 8, .move (.tmp 0), none⟩, ⟨some 9, .nilCheck (.tmp 8), none⟩, ⟨some 10, .fieldAddr bT (.tmp 9) 1, none⟩, ⟨some 11, .load sT (.tmp 10), none⟩,
   ⟨some 12, .call ⟨.builtin .len, #[.tmp 11], #[sT]⟩, none⟩, ⟨some 13, .call ⟨.builtin .unsafeString, #[.tmp 7, .tmp 12], #[pT, tI]⟩, none⟩, ⟨some 2, .assign (.tmp 13), none⟩]
def SgCode (P : Program) (f : FuncId) (bT sT pT tI : TypeId) : Prop :=
 ∃ (i0 i1 : Nat) (o0 o1 : Array Oper), FnAt P f (.seq (.region i0 o0 false) (.seq (.region i1 o1 true) .ret)) 14 [.tmp 2] ∧ o0.toList.map core = plainC [(some 2, .assign (.const (.string .empty)))] ∧
  lowOps o1 o1.toList = some (sgOps bT sT pT tI) ∧ lexOK o1.toList = true ∧ ancOK o1.toList AnS = true
noncomputable def kSg3 (eT : TypeId) (cs : List AV) (h : HP) (b : Nat) : Option (List UInt8) → OR2
 | some l => some (.v (.string ⟨l.toArray⟩), rSet h b (.tf eT cs))
 | none => none
def tcfA : Option AO → Option (TypeId × List AV)
 | some (.tc e cs) => some (e, cs)
 | some (.tf e cs) => some (e, cs)
 | _ => none
theorem tcfA_spec {o : Option AO} {e : TypeId} {cs : List AV} (h : tcfA o = some (e, cs)) : TCF o e cs := by
 unfold tcfA at h
 split at h <;> cases h
 ·exact .inl rfl
 ·exact .inr rfl
noncomputable def kSg2 (eT : TypeId) (h : HP) (b n : Nat) : Option (TypeId × List AV) → OR2
 | some (e, c :: cs) => match Nat.beq e eT, Nat.beq (c :: cs).length n, Nat.ble n 9223372036854775807 with
  | true, true, true => kSg3 eT (c :: cs) h b (bytesB (c :: cs))
  | _, _, _ => none
 | _ => none
noncomputable def kSg1 (eT : TypeId) (h : HP) : AV → OR2
 | .v (.slice none 0 0) => some (.v (.string .empty), h)
 | .sl b 0 n => kSg2 eT h b n (tcfA (rGet h b))
 | _ => none
noncomputable def kSg0 (bT eT : TypeId) (h : HP) : Option AO → OR2
 | some (.tc T [_, s]) => match Nat.beq T bT with
  | true => kSg1 eT h s
  | false => none
 | _ => none
noncomputable def kSg (bT eT : TypeId) : List AV → HP → OR2
 | [.pt id 0], h => kSg0 bT eT h (rGet h id)
 | _, _ => none
theorem sg_ok {f : FuncId} (B : BTy P bT sT eT) (hm : P.follows .mixedOrders = true) (hpt : P.underlying pT = some (.pointer eT)) (hce : P.cellsOf eT = 1) (hc : SgCode P f bT sT pT tI) {args : List AV} {h : HP} (hk : h.ok) {v : AV} {h' : HP} (e : kSg bT eT args h = some (v, h')) :
 (h'.ok ∧ h.n ≤ h'.n) ∧ ACall P f args h.L (fun v1 H1 => v1 = v ∧ H1 = h'.L) := by
 unfold kSg at e
 split at e
 case h_2 => cases e
 rename_i id
 cases hg : rGet h id with
 | none => rw [hg] at e; cases e
 | some o =>
  rw [hg] at e
  unfold kSg0 at e
  split at e
  case h_2 => cases e
  rename_i T p s ho
  cases ho
  have hlt := rGet_lt hg
  rw [rGet_eq hk] at hg
  split at e
  case h_2 => cases e
  rename_i hT
  have := Nat.eq_of_beq_eq_true hT
  subst this
  obtain ⟨i0, i1, o0, o1, ⟨fn, f1, f2, f3, f4, f5⟩, c0, low, lex, anc⟩ := hc
  have hfa : ∀ (g : List AV) (H : List AO) (x : Tmp), ev g (.tmp x) = .pt id 0 → aop P g H (.fieldAddr T (.tmp x) 1) = some (.pt id 1, H) := fun g H x hx => by
   simp only [aop, B.hb, B.hf, B.ht, B.hs, hx, B.ho]
   rfl
  have hap1 : apart P sT [p, s] 1 = some s := by simp [apart, B.hs, isAggD]
  have X : ∀ {D : DSt} {N : Nat} {g : List AV} {H : List AO} {op : Op} {v : AV}, H.length = N → aopX P g H op = some (v, .same) → @LL D P N op g H ⟨opIds g op, [], []⟩ v := fun h1 h2 => LL_same h1 h2
  have main : ∀ (H' : List AO) (r : AV), (∀ D : DSt, ∃ (x6 : AV), x6 = s ∧ @DW D P h.L.length h.L.length AnS (fun g H => ev g (.tmp 2) = r ∧ H = H') (sgOps T sT pT tI) (put ([AV.pt id 0] ++ List.replicate 13 (.v undef)) (some 2) (.v (.string .empty))) h.L []) → ACall P f [.pt id 0] h.L (fun v1 H1 => v1 = r ∧ H1 = H') := fun H' r hdw => by
   refine ACall_of_AFn (AFn_of_BW f1 f2 f3 f5 f4 (BW_seq (BW.of_AW (AW_region (AOps_ofS c0 ?_)))))
   refine ⟨_, _, .inl rfl, ?_⟩
   simp only [AOpsS, thenA]
   obtain ⟨_, _, hd⟩ := hdw noDefers
   refine BW_seq (BW_drawn (s := 0) low hm lex anc (Nat.le_refl _) ?_)
   simp only [Nat.add_zero, List.replicate_zero, List.append_nil, thenA]
   have key : ∀ (ls : List LOp) (g : List AV) (H : List AO) (acc : List Fo) (Q Q' : List AV → List AO → Prop), (∀ g H, Q g H → Q' g H) → @DW noDefers P h.L.length h.L.length AnS Q ls g H acc → @DW noDefers P h.L.length h.L.length AnS Q' ls g H acc := by
    intro ls
    induction ls with
    | nil => intro g H acc Q Q' hq hd; exact ⟨hd.1, hq _ _ hd.2⟩
    | cons o os ih =>
     obtain ⟨d, op, gd⟩ := o
     intro g H acc Q Q' hq hd
     cases gd with
     | none =>
      obtain ⟨f, v, h1, h2⟩ := hd
      exact ⟨f, v, h1, ih _ _ _ _ _ hq h2⟩
     | some gw =>
      obtain ⟨gd, want⟩ := gw
      simp only [DW] at hd ⊢
      split at hd
      ·split at hd
       ·rename_i hw
        obtain ⟨f, v, h1, h2⟩ := hd
        rw [if_pos hw]
        exact ⟨f, v, h1, ih _ _ _ _ _ hq h2⟩
       ·rename_i hw
        rw [if_neg hw]
        exact ih _ _ _ _ _ hq hd
      ·exact ih _ _ _ _ _ hq hd
      ·exact hd.elim
   refine key _ _ _ _ _ _ ?_ hd
   rintro g H ⟨q1, q2⟩
   refine BW.of_AW (AW_ret ?_)
   simp only [endM, resAll, resA]
   simp only [ev] at q1
   exact ⟨_, _, ⟨q1, q2⟩, VS.refl _ _ _⟩
  have ld : ∀ {D : DSt} {g : List AV} {x : Tmp}, ev g (.tmp x) = .pt id 1 → @LL D P h.L.length (.load sT (.tmp x)) g h.L ⟨[id], [], []⟩ s := fun hx => LL_semSame [id] fun H2 g' hl hF hops => OpSem.loadTC (id := id) (off := 1) (T := T) (cs := [p, s]) (by rw [hops _ (by simp [Op.operands])]; exact hx) (by rw [hF id (by simp)]; exact hg) hap1
  unfold kSg1 at e
  split at e
  ·cases e
   refine ⟨⟨hk, Nat.le_refl _⟩, main _ _ fun D => ⟨_, rfl, ?_⟩⟩
   refine ⟨_, _, X (v := .pt id 0) rfl (by simp [aopX, samX, aop, ev, put]), _, _, X (v := .pt id 0) rfl (by simp [aopX, samX, aop, ev, put, apE_nil]), _, _, X (v := .pt id 1) rfl (by simp only [aopX, samX]; rw [hfa _ _ 4 (by simp [ev, put])]), _, _, ld (by simp [ev, put]),
    _, _, LL_semSame [] fun H2 g' hl hF hops => OpSem.sliceDataNil (by rw [hops _ (by simp [Op.operands, Call.operands])]; simp [ev, put]),
    _, _, X (v := .pt id 0) rfl (by simp [aopX, samX, aop, ev, put, apE_nil]), _, _, X (v := .pt id 0) rfl (by simp [aopX, samX, aop, ev, put, apE_nil]), _, _, X (v := .pt id 1) rfl (by simp only [aopX, samX]; rw [hfa _ _ 9 (by simp [ev, put])]), _, _, ld (by simp [ev, put]),
    _, _, X (v := .v (.int .i64 0)) rfl (by simp [aopX, samX, aop, ev, put, apE_nil, abuiltin, B.hs]),
    _, _, LL_semSame [] fun H2 g' hl hF hops => OpSem.unsafeStringNil (by rw [hops _ (by simp [Op.operands, Call.operands])]; simp [ev, put]) (by rw [hops _ (by simp [Op.operands, Call.operands])]; simp [ev, put]),
    _, _, X (v := .v (.string .empty)) rfl (by simp [aopX, samX, aop, ev, put, apE_nil]), ?_, ?_, ?_⟩
   ·simp [okA, AnS]
   ·simp [ev, put]
   ·simp [apE_nil]
  ·rename_i b n
   unfold kSg2 at e
   split at e
   case h_2 => cases e
   rename_i e' c cs hb0
   have hb := tcfA_spec hb0
   have hblt : b < h.n := by rcases hb with hb | hb <;> exact rGet_lt hb
   rw [rGet_eq hk] at hb
   split at e
   case h_2 => cases e
   rename_i t1 t2 t3
   have := Nat.eq_of_beq_eq_true t1
   subst this
   have := Nat.eq_of_beq_eq_true t2
   subst this
   rw [Nat.ble_eq] at t3
   cases hl : bytesB (c :: cs) with
   | none => rw [hl] at e; cases e
   | some l =>
    rw [hl] at e
    cases e
    refine ⟨⟨rSet_ok hk _ _, Nat.le_refl _⟩, main _ _ fun D => ⟨_, rfl, ?_⟩⟩
    refine ⟨_, _, X (v := .pt id 0) rfl (by simp [aopX, samX, aop, ev, put]), _, _, X (v := .pt id 0) rfl (by simp [aopX, samX, aop, ev, put, apE_nil]), _, _, X (v := .pt id 1) rfl (by simp only [aopX, samX]; rw [hfa _ _ 4 (by simp [ev, put])]), _, _, ld (by simp [ev, put]),
     _, _, LL_semSame [b] fun H2 g' hl hF hops => OpSem.sliceData (id := b) (len := (c :: cs).length) (by rw [hops _ (by simp [Op.operands, Call.operands])]; simp [ev, put]) (by rw [hF b (by simp)]; exact hb),
     _, _, X (v := .pt id 0) rfl (by simp [aopX, samX, aop, ev, put, apE_nil]), _, _, X (v := .pt id 0) rfl (by simp [aopX, samX, aop, ev, put, apE_nil]), _, _, X (v := .pt id 1) rfl (by simp only [aopX, samX]; rw [hfa _ _ 9 (by simp [ev, put])]), _, _, ld (by simp [ev, put]),
     _, _, X (v := .v (.int .i64 (c :: cs).length)) rfl (by simp [aopX, samX, aop, ev, put, apE_nil, abuiltin, B.hs]),
     _, _, LL_semSet [b] (id := b) (ob := .tf e' (c :: cs)) fun H2 g' hl2 hF hops => OpSem.unsafeString (id := b) (cs := c :: cs) (l := l) hpt hce (by rw [hops _ (by simp [Op.operands, Call.operands])]; simp [ev, put]) (by rw [hops _ (by simp [Op.operands, Call.operands])]; simp [ev, put]) (by rw [hF b (by simp)]; exact hb) hl (by simp) t3,
     _, _, X (v := .v (.string ⟨l.toArray⟩)) (by simp [apE_nil, apE_cons]) (by simp [aopX, samX, aop, ev, put, apE_nil]), ?_, ?_, ?_⟩
    ·simp [okA, AnS]
    ·simp [ev, put]
    ·simp [apE_nil, apE_cons, rSet_eq hk hblt]
  ·cases e
end
end Go.Abs
