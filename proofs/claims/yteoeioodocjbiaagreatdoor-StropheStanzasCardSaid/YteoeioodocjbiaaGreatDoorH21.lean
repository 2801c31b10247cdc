/- Part 21 of the texts that lead to stropheStanzasCard_holds. No condition. -/
import Derived.Test.YteoeioodocjbiaaGreatDoorH20
set_option linter.unusedSimpArgs false
set_option linter.unusedVariables false
set_option linter.unnecessarySimpa false
namespace Go.Abs
open Go
section
variable {P : Program} {I : Nat → Prop} {m : List Loc} {H : List AO} {w : World}
theorem HR.unfx (hr : HR I m H w) {id sz : Nat} {cs : List AV} {r : Option Nat} (hid : H[id]? = some (.fx sz cs r)) : HR I m (H.set id (.cells sz cs)) w := by
  have hlt : id < m.length := by rw [hr.len]; exact (List.getElem?_eq_some_iff.1 hid).1
  have hm : m[id]? = some m[id] := List.getElem?_eq_getElem hlt
  have hob := hr.ob id _ _ hid hm
  simp only [OR] at hob
  by_cases hc : m[id].cap = 0
  · refine (hr.set (w' := w) hid rfl hm rfl (fun _ _ => rfl) rfl rfl rfl ?_).1
    simp only [OR]
    exact hob.1
  · refine (hr.set (w' := w) hid rfl hm rfl (fun _ _ => rfl) rfl rfl rfl ?_).1
    simp only [OR]
    exact hob.1
structure ApI (P : Program) (H : List AO) (t u ed : TypeId) (te : TI) (x : AV) (n : Nat) (new : List AV) : Prop where
  sl : ∃ a b z, ti P t = some ⟨.slice ed, a, b, z⟩
  el : ti P ed = some te
  ar : ∃ dd a b z, ti P u = some ⟨dd, a, b, z⟩ ∧ isIntD dd = false
  one : te.size = 1
  len : lenA x = some n
  fst : firstA H 1 n x = some new
  all : new.all (·.one) = true
  nl : new.length = n
theorem OpSem.appendFull {g : List AV} {s x : Operand} {t u ed : TypeId} {te : TI} {n id len : Nat} {new cs : List AV} (h : ApI P H t u ed te (ev g x) n new) (hs : ev g s = .sl id 0 len) (hid : H[id]? = some (.fx 1 cs none)) (hcl : cs.length = len) (hcone : cs.all (·.one) = true) (h0 : n ≠ 0) (hb : (len + n) * te.bytes ≤ 140737488355328) (h63 : len + n ≤ 9223372036854775807) :
    OpSem P g H (.call ⟨.builtin .append, #[s, x], #[t, u]⟩) (.sl H.length 0 (len + n)) (H ++ [.cells 1 (cs ++ new)]) := fun I m w ac o hop hr hx => by
  obtain ⟨⟨d1, d2, d3, hd⟩, hte, ⟨dd, e1, e2, e3, hu, hz⟩, hs1, hlen, hfst, hone, hnl⟩ := h
  have hpa := hx s (by simp [Op.operands, Call.operands])
  have hpb := hx x (by simp [Op.operands, Call.operands])
  rw [hs] at hpa
  have hpa0 := hpa
  simp only [VR] at hpa
  obtain ⟨L, A, c, hlk, hcap, hlc, hA, hval⟩ := hpa
  have hm := (lk_get hlk).1
  have hob := hr.ob id _ _ hid hm
  simp only [OR, roomOK] at hob
  obtain ⟨⟨q1, q2, q3⟩, q4⟩ := hob
  rw [q1, Nat.mul_one, Nat.zero_add] at hcap
  have hcc : c = len := by omega
  have hl := lenA_any (P := P) hlen hpb
  have hf := firstA_any (P := P) hr hfst hpb
  have hdeg := hr.unfx hid
  have hlt : id < H.length := (List.getElem?_eq_some_iff.1 hid).1
  have holds : firstA (H.set id (.cells 1 cs)) 1 len (.sl id 0 len) = some cs := by
    simp only [firstA, List.getElem?_set_self hlt]
    rw [if_pos ⟨trivial, Nat.le_refl _, by omega⟩]
    simp only [List.drop_zero]
    rw [List.take_of_length_le (by omega)]
  rw [hval] at hpa0
  obtain ⟨k, w', arr, rest, xs, h1, h2, h3, h4, h5, h6, h7, h8, h9⟩ := append_new (P := P) (I := I) (m := m) (w := w) (ty := o.type) (A := A) (sLen := len) (sCap := c) (olds := cs) (news := new) hd rfl hu hz hte hl (by omega) hb h63 (fun w' hw' => by rw [hs1]; exact firstA_any hdeg holds hpa0 w' hw') (by rw [hs1]; exact hf) (by rw [hs1]; omega) (by rw [hs1, Nat.mul_one]; exact hnl)
  have hall2 : (cs ++ new).all (·.one) = true := by rw [List.all_append, hcone, hone]; rfl
  obtain ⟨h10, h11⟩ := hr.newCells 1 h9 hall2 h7 (fz := (0, 0)) (by intro j _ h; simp at h) h3 h4 h5 h6
  have hsok : SOK P I m H w (Builtin.append_ #[t, u] o.type #[.slice A len c, ac.eval x]) (.sl H.length 0 (len + n)) (H ++ [.cells 1 (cs ++ new)]) := by
    refine ⟨_, w', _, h1, ?_, h10, h11⟩
    simp only [VR]
    exact ⟨_, _, k, by rw [← hr.len]; exact last_lk _ (by simp), by simp [h8, hs1], h2, .inr rfl, rfl⟩
  rw [← hval] at hsok
  exact OpS.of_sok hsok (by simp [execOp, hop, resolve, invoke, builtin])
theorem OpSem.appendIn {g : List AV} {s x : Operand} {t u ed : TypeId} {te : TI} {n id len : Nat} {new cs : List AV} (h : ApI P H t u ed te (ev g x) n new) (hs : ev g s = .sl id 0 len)
    (hid : (∃ r, H[id]? = some (.fx 1 cs (some r)) ∧ n ≤ r ∧ cs.length = len) ∨ (H[id]? = some (.cells 1 cs) ∧ len + n ≤ cs.length)) (h0 : n ≠ 0) :
    OpSem P g H (.call ⟨.builtin .append, #[s, x], #[t, u]⟩) (.sl id 0 (len + n)) (H.set id (.cells 1 (cs.take len ++ new ++ cs.drop (len + n)))) := fun I m w ac o hop hr hx => by
  obtain ⟨⟨d1, d2, d3, hd⟩, hte, ⟨dd, e1, e2, e3, hu, hz⟩, hs1, hlen, hfst, hone, hnl⟩ := h
  have hpa := hx s (by simp [Op.operands, Call.operands])
  have hpb := hx x (by simp [Op.operands, Call.operands])
  rw [hs] at hpa
  simp only [VR] at hpa
  obtain ⟨L, A, c, hlk, hcap, hlc, hA, hval⟩ := hpa
  have hm := (lk_get hlk).1
  have hl := lenA_any (P := P) hlen hpb
  have hf := firstA_any (P := P) hr hfst hpb
  have hu1 := run_underlying' (w := w) hu
  have core : ∃ o0, H[id]? = some o0 ∧ o0.alive = true ∧ L.sz = 1 ∧ len + n ≤ L.cap ∧ len ≤ cs.length ∧ cs.length ≤ L.cap ∧ (L.cap ≠ 0 → ∃ c E fz, w.heap[L.b]? = some (.cells c E fz) ∧ (∀ j, fz.1 ≤ j → j < fz.2 → c.size ≤ j) ∧ L.o + L.cap ≤ c.size ∧ ∀ (i : Nat) x, cs[i]? = some x → ∃ y, c[L.o + i]? = some y ∧ VR I m w x y ∧ x.one = true) := by
    rcases hid with ⟨r, h1, h2, h3⟩ | ⟨h1, h2⟩
    · have hob := hr.ob id _ _ h1 hm
      simp only [OR, roomOK] at hob
      obtain ⟨⟨q1, q2, q3⟩, q4⟩ := hob
      exact ⟨_, h1, rfl, q1, by omega, by omega, q2, q3⟩
    · have hob := hr.ob id _ _ h1 hm
      simp only [OR] at hob
      obtain ⟨q1, q2, q3⟩ := hob
      exact ⟨_, h1, rfl, q1, by omega, by omega, q2, q3⟩
  obtain ⟨o0, ho0, hal, q1, q2, q2', q2'', q3⟩ := core
  rw [q1, Nat.mul_one, Nat.zero_add] at hcap
  have hc0 : c ≠ 0 := by omega
  have hcap0 : L.cap ≠ 0 := by omega
  have hA' := hA.resolve_left hc0
  rw [Nat.add_zero] at hA'
  subst hA'
  obtain ⟨ce, E, fz, r1, r2, r3, r4⟩ := q3 hcap0
  obtain ⟨zs, hz1, hz2⟩ := hf w rfl
  have hzl := hz2.len
  have hroom : len + n ≤ c := by omega
  obtain ⟨cur', w', h4, h5, h6, h7, h8, h9, h10, h11, h12⟩ := run_storeCells' P L.b (L.o + len) zs.toList 0 ce w r1 r2 (by rw [hzl, hnl]; omega) (hz2.one hone)
  have hgo := hr.set (w' := w') (o' := .cells 1 (cs.take len ++ new ++ cs.drop (len + n))) ho0 hal hm h5 (fun b hb => h8 b (hb hcap0)) h9 h10 h11 (by
    simp only [OR]
    refine ⟨q1, by simp only [List.length_append, List.length_take, List.length_drop]; omega, fun _ => ⟨cur', E, fz, h6, by rw [h7]; exact r2, by omega, fun k v hv => ?_⟩⟩
    have mono : ∀ v y, VR I m w v y → VR I m w' v y := fun v y h => by
      have := VR.mono (nu := []) (I' := I) (w' := w') (fun _ h => h) (fun b hb => h8 b fun e => hr.imm b hb ⟨id, _, L, ho0, hal, hm, hcap0, e.symm⟩) v y h
      simpa using this
    have hget : cur'[L.o + k]? = cur'.toList[L.o + k]? := by simp
    have hcel : ce.toList.length = ce.size := Array.length_toList
    rw [hget, h12, hzl]
    simp only [List.append_assoc, List.getElem?_append, List.length_take, hcel, List.getElem?_take, List.getElem?_drop, Nat.add_zero] at hv ⊢
    have hmin : min len cs.length = len := by omega
    have hmin2 : min (L.o + len) ce.size = L.o + len := by omega
    rw [hmin] at hv
    rw [hmin2]
    by_cases hk : k < len
    · rw [if_pos hk, if_pos hk] at hv
      rw [if_pos (by omega), if_pos (by omega)]
      obtain ⟨y, s1, s2, s3⟩ := r4 _ v hv
      exact ⟨y, by simpa using s1, mono v y s2, s3⟩
    · rw [if_neg hk] at hv
      rw [if_neg (by omega)]
      by_cases hk2 : k - len < new.length
      · rw [if_pos hk2] at hv
        rw [show L.o + k - (L.o + len) = k - len by omega, if_pos (by rw [hzl]; exact hk2)]
        obtain ⟨y, s1, s2⟩ := hz2.get _ v hv
        exact ⟨y, s1, mono v y s2, List.all_eq_true.1 hone v (List.mem_of_getElem? hv)⟩
      · rw [if_neg hk2] at hv
        rw [show L.o + k - (L.o + len) = k - len by omega, if_neg (by rw [hzl]; exact hk2)]
        obtain ⟨y, s1, s2, s3⟩ := r4 _ v hv
        refine ⟨y, ?_, mono v y s2, s3⟩
        rw [← Array.getElem?_toList] at s1
        rw [← s1]
        congr 1
        omega)
  have hsok : SOK P I m H w (Builtin.append_ #[t, u] o.type #[.slice (some ⟨L.b, L.o, none⟩) len c, ac.eval x]) (.sl id 0 (len + n)) (H.set id (.cells 1 (cs.take len ++ new ++ cs.drop (len + n)))) := by
    refine ⟨.slice (some ⟨L.b, L.o, none⟩) (len + n) c, w', m, ?_, ?_, hgo.1, hgo.2⟩
    · cases dd <;> first
        | (simp [isIntD] at hz; done)
        | (simp only [Builtin.append_, List.getElem?_toArray, List.getElem?_cons_zero, List.getElem?_cons_succ, Sem.run_bind, run_underlying' hd, Result.andThen_ok, run_sizeOf' hte, hu1, Sem.run_pure, hl, Sem.run_ite, Bool.false_eq_true, if_false, hroom, if_true, Bool.not_false, hs1, hz1, Nat.mul_one, add_none, h4])
    · simp only [VR]
      exact ⟨L, _, c, hlk, by rw [q1]; omega, hroom, .inr rfl, rfl⟩
  rw [← hval] at hsok
  exact OpS.of_sok hsok (by simp [execOp, hop, resolve, invoke, builtin])
end
theorem BW_room [DSt] {P : Program} {k : Nat} {c : Code} {Q : Exit → List AV → List AO → Prop} {g : List AV} {H : List AO} (tmp : Nat) {id len : Nat} {cs : List AV} (hg : g[tmp]? = some (.sl id 0 len)) (hid : H[id]? = some (.cells 1 cs)) (hcl : cs.length = len)
    (h1 : BW P k c Q g (H.set id (.fx 1 cs none))) (h2 : BW P k c Q g (H.set id (.fx 1 cs (some 1)))) : BW P k c Q g H := by
  intro I m a w hr hv hdf
  have hlt : id < m.length := by rw [hr.len]; exact (List.getElem?_eq_some_iff.1 hid).1
  have hm : m[id]? = some m[id] := List.getElem?_eq_getElem hlt
  have hob := hr.ob id _ _ hid hm
  obtain ⟨y, hy, hvr⟩ := hv.get tmp _ hg
  simp only [VR] at hvr
  obtain ⟨L, A, cp, hlk, hcap, hlc, _⟩ := hvr
  have hL : L = m[id] := by
    have := (lk_get hlk).1
    rw [hm] at this
    exact (Option.some.inj this).symm
  subst hL
  have hs1 : m[id].sz = 1 := by simp only [OR] at hob; exact hob.1
  rw [hs1, Nat.mul_one, Nat.zero_add] at hcap
  have own : ∀ (r : Option Nat) (b : Nat), Own (H.set id (.fx 1 cs r)) m b → Own H m b := fun r b ⟨j, oj, Lj, q1, q2, q3⟩ => by
    by_cases hj : j = id
    · subst hj
      exact ⟨_, _, Lj, hid, rfl, q3⟩
    · rw [List.getElem?_set_ne (Ne.symm hj)] at q1
      exact ⟨j, oj, Lj, q1, q2, q3⟩
  have go : ∀ r : Option Nat, roomOK r cs.length m[id].cap → BW P k c Q g (H.set id (.fx 1 cs r)) → WPA P c (fun e a' w' => ∃ g' H' I' m', Q e g' H' ∧ HR I' m' H' w' ∧ VRs I' m' w' g' a'.tmps.toList ∧ a'.defers = DSt.l ∧ Ex I (Own H m) w I' (Own H' m') w' ∧ Kp k m m') a w := fun r hroom hb => by
    have hr2 := (hr.set (w' := w) (o' := .fx 1 cs r) hid rfl hm rfl (fun _ _ => rfl) rfl rfl rfl (by
      simp only [OR] at hob ⊢
      exact ⟨hob, hroom⟩)).1
    refine wp_mono (hb I m a w hr2 hv hdf) ?_
    rintro e a' w' ⟨g', H', I', m', k1, k2, k3, k4, k5, k6⟩
    refine ⟨g', H', I', m', k1, k2, k3, k4, ⟨k5.os, k5.tape, k5.output, k5.size, fun b hb hn => k5.blk b hb fun q => hn (own r b q), k5.imm, fun b hb => (k5.ow b hb).imp (own r b) _root_.id, fun b hb => ?_⟩, k6⟩
    rcases k5.inew b hb with q | q | q
    · exact .inl q
    · exact .inr (.inl (own r b q))
    · exact .inr (.inr q)
  by_cases hc : cp = len
  · exact go none (by simp only [roomOK]; omega) h1
  · exact go (some 1) (by simp only [roomOK]; omega) h2
end Go.Abs
namespace Go.Abs
open Go
abbrev CT := FuncId → List AV → HP → OR2
def CTok (P : Program) (call : CT) : Prop := ∀ n args h v h', h.ok → call n args h = some (v, h') → (h'.ok ∧ h.n ≤ h'.n) ∧ ACall P n args h.L (fun v1 H1 => v1 = v ∧ H1 = h'.L)
def cCallV (call : CT) (h : HP) (args : List AV) : AV → OR2
  | .fn (.func n) first cap => call n (first ++ args ++ cap) h
  | _ => none
noncomputable def orS (P : Program) (g : List AV) (h : HP) (op : Op) : OR2 → OR2
  | some r => some r
  | none => s3Op P g h op
noncomputable def orX (P : Program) (g : List AV) (h : HP) (op : Op) : OR2 → OR2
  | some r => some r
  | none => orS P g h op (uop P g h op)
noncomputable def cCall (P : Program) (call : CT) (g : List AV) (h : HP) (c : Call) : OR2 := match c.callee with
  | .value f => cCallV call h (c.args.toList.map (evF g)) (evF g f)
  | _ => orX P g h (.call c) (fop P g h (.call c))
noncomputable def cExec (P : Program) (call : CT) (g : List AV) (h : HP) : Op → OR2
  | .call c => cCall P call g h c
  | .alloc t => vAlloc P h t (Nat.beq t bty) (orX P g h (.alloc t) (fop P g h (.alloc t)))
  | op => orX P g h op (fop P g h op)
def gB (want : Bool) : Option AV → Option Bool
  | some (.v (.bool b)) => some (b == want)
  | some (.v (.tuple _)) => some false
  | _ => none
noncomputable def gT (g : List AV) (want : Bool) : Option Tmp → Option Bool
  | some d => gB want (nthO g d)
  | none => none
noncomputable def gD (g : List AV) (want : Bool) : Option Oper → Option Bool
  | some o => gT g want o.dst
  | none => none
noncomputable def gWant (ops : List Oper) (g : List AV) : Option (Nat × Bool) → Option Bool
  | none => some true
  | some (j, want) => gD g want (nthO ops j)
noncomputable def cStep (P : Program) (call : CT) (g : List AV) (h : HP) (op : Op) : Option Bool → OR2
  | some true => cExec P call g h op
  | some false => some (.v undef, h)
  | none => none
def cNext (ih : List AV → HP → Option (List AV × HP)) (put : AV → List AV) : OR2 → Option (List AV × HP)
  | some (v, h') => ih (put v) h'
  | none => none
noncomputable def cOps (P : Program) (call : CT) (ops : List Oper) (l : List Oper) : List AV → HP → Option (List AV × HP) :=
  List.rec (motive := fun _ => List AV → HP → Option (List AV × HP)) (fun g h => some (g, h))
    (fun o _ ih g h => cNext ih (fun v => putF g v o.dst) (cStep P call g h o.op (gWant ops g o.guard))) l
section
variable {P : Program} {call : CT}
theorem gWant_eq (ops : Array Oper) (g : List AV) (o : Oper) : gWant ops.toList g o.guard = wantA ops g o := by
  unfold gWant wantA
  cases o.guard with
  | none => rfl
  | some jw =>
    obtain ⟨j, want⟩ := jw
    simp only [nthO_eq, Array.getElem?_toList]
    cases ops[j]? with
    | none => rfl
    | some o2 =>
      simp only [gD, Option.bind_some]
      cases o2.dst with
      | none => rfl
      | some d =>
        simp only [gT, nthO_eq]
        cases g[d]? with
        | none => rfl
        | some v =>
          cases v with
          | v y => cases y <;> rfl
          | _ => rfl
theorem cExec_ok (hc : CTok P call) {o : Oper} {g : List AV} {h : HP} (hk : h.ok) {v : AV} {h' : HP} (e : cExec P call g h o.op = some (v, h')) : (h'.ok ∧ h.n ≤ h'.n) ∧ AExecR P o g h.L (fun v1 H1 => v1 = v ∧ H1 = h'.L) := by
  unfold AExecR
  split
  · rename_i f args ats hop
    rw [hop] at e
    simp only [cExec, cCall, evF_fun] at e
    generalize ev g f = x at *
    cases x <;> first | (cases e; done) | skip
    rename_i fn first cap
    cases fn <;> first | (cases e; done) | skip
    exact hc _ _ _ _ _ hk e
  · rename_i op hno
    have e2 : orX P g h o.op (fop P g h o.op) = some (v, h') ∨ ∃ t, o.op = .alloc t ∧ vAlloc2 h t (ti P t) = some (v, h') := by
      generalize o.op = op at *
      cases op <;> first | exact .inl e | skip
      · rename_i t
        simp only [cExec] at e
        cases hb : Nat.beq t bty
        · rw [hb] at e; exact .inl e
        · rw [hb] at e; exact .inr ⟨t, rfl, e⟩
      · rename_i c
        obtain ⟨f, args, ats⟩ := c
        cases f <;> first | exact .inl e | exact (hno _ _ _ rfl).elim
    rcases e2 with e2 | ⟨t, hop, e2⟩
    case inr =>
      obtain ⟨q1, q2⟩ := vAlloc2_ok (g := g) hk e2
      exact ⟨q1, .inr ⟨v, _, by rw [hop]; exact q2, rfl, rfl⟩⟩
    cases hf : fop P g h o.op with
    | some r =>
      rw [hf] at e2
      cases e2
      obtain ⟨h1, h2⟩ := fop_ok hk _ hf
      exact ⟨h2, .inl ⟨v, _, h1, rfl, rfl⟩⟩
    | none =>
      rw [hf] at e2
      simp only [orX] at e2
      cases hu : uop P g h o.op with
      | some r =>
        rw [hu] at e2
        cases e2
        obtain ⟨h1, h2⟩ := uop_ok hk _ hu
        exact ⟨h1, .inr ⟨v, _, h2, rfl, rfl⟩⟩
      | none =>
        rw [hu] at e2
        obtain ⟨h1, h2⟩ := s3Op_ok hk _ e2
        exact ⟨h1, .inr ⟨v, _, h2, rfl, rfl⟩⟩
theorem cStep_ok (hc : CTok P call) {ops : Array Oper} {o : Oper} {g : List AV} {h : HP} (hk : h.ok) {v : AV} {h' : HP} (e : cStep P call g h o.op (gWant ops.toList g o.guard) = some (v, h')) : (h'.ok ∧ h.n ≤ h'.n) ∧ AOpR P ops o g h.L (fun v1 H1 => v1 = v ∧ H1 = h'.L) := by
  unfold AOpR
  rw [gWant_eq] at e
  cases hw : wantA ops g o with
  | none => rw [hw] at e; cases e
  | some b =>
    rw [hw] at e
    cases b
    · cases e; exact ⟨⟨hk, Nat.le_refl _⟩, rfl, rfl⟩
    · exact cExec_ok hc hk e
theorem cOps_ok (hc : CTok P call) {ops : Array Oper} : ∀ (l : List Oper) {g : List AV} {h : HP} {g' : List AV} {h' : HP}, h.ok → cOps P call ops.toList l g h = some (g', h') → (h'.ok ∧ h.n ≤ h'.n) ∧ AOps P ops (fun g1 H1 => g1 = g' ∧ H1 = h'.L) l g h.L
  | [], g, h, g', h', hk, e => by cases e; exact ⟨⟨hk, Nat.le_refl _⟩, rfl, rfl⟩
  | o :: os, g, h, g', h', hk, e => by
    have e1 : cNext (cOps P call ops.toList os) (fun v => putF g v o.dst) (cStep P call g h o.op (gWant ops.toList g o.guard)) = some (g', h') := e
    simp only [AOps, AOp]
    cases hs : cStep P call g h o.op (gWant ops.toList g o.guard) with
    | none => rw [hs] at e1; cases e1
    | some r =>
      obtain ⟨v, h1⟩ := r
      rw [hs] at e1
      obtain ⟨⟨k1, l1⟩, k2⟩ := cStep_ok hc hk hs
      obtain ⟨⟨k3, l3⟩, k4⟩ := cOps_ok hc os k1 e1
      refine ⟨⟨k3, Nat.le_trans l1 l3⟩, k2.mono ?_⟩
      rintro v' H' ⟨rfl, rfl⟩
      rw [← putF_eq]
      exact k4
end
theorem AOps.imp {P : Program} {ops : Array Oper} {K K' : List AV → List AO → Prop} (hk : ∀ g H, K g H → K' g H) : ∀ (l : List Oper) {g : List AV} {H : List AO}, AOps P ops K l g H → AOps P ops K' l g H
  | [], g, H, h => hk _ _ h
  | o :: os, g, H, h => by
    simp only [AOps, AOp] at h ⊢
    exact h.mono fun v H' k => AOps.imp hk os k
abbrev KR := Option (Exit × List AV × HP)
def cThen (k : List AV → HP → KR) : KR → KR
  | some (.normal, g', h') => k g' h'
  | r => r
def cCond (a b : KR) : AV → KR
  | .v (.bool true) => a
  | .v (.bool false) => b
  | _ => none
def cBlk (i : Nat) : KR → KR
  | some (.exit j, g', h') => match Nat.beq j i with
    | true => some (.normal, g', h')
    | false => some (.exit j, g', h')
  | r => r
def cReg : Option (List AV × HP) → KR
  | some (g', h') => some (.normal, g', h')
  | none => none
abbrev DT := Array Oper → List AV → HP → Option (List AV × HP)
def DTok (P : Program) (dr : DT) : Prop := ∀ ops g h g' h', h.ok → dr ops g h = some (g', h') → (h'.ok ∧ h.n ≤ h'.n) ∧ ∀ (_ : DSt) k id, k ≤ h.n → BW P k (.region id ops true) (fun e1 g1 H1 => e1 = .normal ∧ g1 = g' ∧ H1 = h'.L) g h.L
noncomputable def cCode (P : Program) (call : CT) (dr : DT) (ih : Code → List AV → HP → KR) (g : List AV) (h : HP) : Code → KR
  | .skip => some (.normal, g, h)
  | .ret => some (.ret, g, h)
  | .exit i => some (.exit i, g, h)
  | .seq a b => cThen (ih b) (ih a g h)
  | .cond x a b => cCond (ih a g h) (ih b g h) (evF g x)
  | .block i b => cBlk i (ih b g h)
  | .loop b => cThen (ih (.loop b)) (ih b g h)
  | .region _ ops false => cReg (cOps P call ops.toList ops.toList g h)
  | .region _ ops true => cReg (dr ops g h)
  | _ => none
noncomputable def cC (P : Program) (call : CT) (dr : DT) (n : Nat) : Code → List AV → HP → KR :=
  Nat.rec (motive := fun _ => Code → List AV → HP → KR) (fun _ _ _ => none) (fun _ ih c g h => cCode P call dr ih g h c) n
section
variable {P : Program} {call : CT} {dr : DT}
def PostC (e : Exit) (g : List AV) (H : List AO) : Exit → List AV → List AO → Prop := fun e1 g1 H1 => e1 = e ∧ g1 = g ∧ H1 = H
theorem cC_ok [DSt] (hc : CTok P call) (hd : DTok P dr) : ∀ (n k : Nat) (c : Code) {g : List AV} {h : HP} {e : Exit} {g' : List AV} {h' : HP}, h.ok → k ≤ h.n → cC P call dr n c g h = some (e, g', h') → (h'.ok ∧ h.n ≤ h'.n) ∧ BW P k c (PostC e g' h'.L) g h.L
  | 0, k, c, g, h, e, g', h', hk, hn, he => by cases he
  | n + 1, k, c, g, h, e, g', h', hk, hn, he => by
    have he : cCode P call dr (cC P call dr n) g h c = some (e, g', h') := he
    have ih := @cC_ok _ hc hd n k
    have one : ∀ (e1 : Exit) (g1 : List AV) (h1 : HP) (Q : Exit → List AV → List AO → Prop), (some (e1, g1, h1) : KR) = some (e, g', h') → e = e1 ∧ g' = g1 ∧ h' = h1 := fun e1 g1 h1 Q q => by cases q; exact ⟨rfl, rfl, rfl⟩
    cases c with
    | skip => cases he; exact ⟨⟨hk, Nat.le_refl _⟩, BW.of_AW (AW_skip ⟨rfl, rfl, rfl⟩)⟩
    | ret => cases he; exact ⟨⟨hk, Nat.le_refl _⟩, BW.of_AW (AW_ret ⟨rfl, rfl, rfl⟩)⟩
    | exit i => cases he; exact ⟨⟨hk, Nat.le_refl _⟩, BW.of_AW (AW_exit ⟨rfl, rfl, rfl⟩)⟩
    | seq a b =>
      simp only [cCode] at he
      cases ha : cC P call dr n a g h with
      | none => rw [ha] at he; cases he
      | some r =>
        obtain ⟨e1, g1, h1⟩ := r
        rw [ha] at he
        obtain ⟨⟨k1, l1⟩, b1⟩ := ih a hk hn ha
        by_cases hx : e1 = .normal
        · subst hx
          obtain ⟨⟨k2, l2⟩, b2⟩ := ih b k1 (Nat.le_trans hn l1) he
          refine ⟨⟨k2, Nat.le_trans l1 l2⟩, BW_seq (b1.mono ?_)⟩
          rintro _ _ _ ⟨rfl, rfl, rfl⟩
          exact b2
        · have hq : (some (e1, g1, h1) : KR) = some (e, g', h') := by cases e1 <;> first | exact he | exact absurd rfl hx
          cases hq
          refine ⟨⟨k1, l1⟩, BW_seq (b1.mono ?_)⟩
          rintro ex _ _ ⟨rfl, rfl, rfl⟩
          cases ex <;> first | exact ⟨rfl, rfl, rfl⟩ | exact absurd rfl hx
    | cond x a b =>
      simp only [cCode, evF_eq] at he
      generalize hv : ev g x = v at he
      cases v <;> first | (cases he; done) | skip
      rename_i y
      cases y <;> first | (cases he; done) | skip
      rename_i t
      cases t
      · obtain ⟨k1, b1⟩ := ih b hk hn he
        exact ⟨k1, BW_cond hv b1⟩
      · obtain ⟨k1, b1⟩ := ih a hk hn he
        exact ⟨k1, BW_cond hv b1⟩
    | block i b =>
      simp only [cCode] at he
      cases hb : cC P call dr n b g h with
      | none => rw [hb] at he; cases he
      | some r =>
        obtain ⟨e1, g1, h1⟩ := r
        rw [hb] at he
        obtain ⟨k1, b1⟩ := ih b hk hn hb
        refine ⟨?_, BW_block (b1.mono ?_)⟩
        · cases e1 <;> first | (cases he; exact k1) | skip
          simp only [cBlk] at he
          split at he <;> (cases he; exact k1)
        · rintro ex _ _ ⟨rfl, rfl, rfl⟩
          cases ex <;> first | (cases he; exact ⟨rfl, rfl, rfl⟩) | skip
          rename_i j
          simp only [cBlk] at he
          simp only [blockA]
          cases hj : Nat.beq j i
          · rw [hj] at he
            rw [if_neg (by intro q; subst q; simp at hj)]
            cases he; exact ⟨rfl, rfl, rfl⟩
          · rw [hj] at he
            rw [if_pos (Nat.eq_of_beq_eq_true hj)]
            cases he; exact ⟨rfl, rfl, rfl⟩
    | loop b =>
      have key : ∀ (j : Nat), j ≤ n + 1 → ∀ {g : List AV} {h : HP}, h.ok → k ≤ h.n → cC P call dr j (.loop b) g h = some (e, g', h') → h'.ok ∧ h.n ≤ h'.n := by
        intro j
        induction j with
        | zero => intro _ _ _ _ _ q; cases q
        | succ j ihj =>
          intro hj g h hk hn q
          have q : cThen (cC P call dr j (.loop b)) (cC P call dr j b g h) = some (e, g', h') := q
          cases hb : cC P call dr j b g h with
          | none => rw [hb] at q; cases q
          | some r =>
            obtain ⟨e1, g1, h1⟩ := r
            rw [hb] at q
            obtain ⟨⟨k1, l1⟩, _⟩ := @cC_ok _ hc hd j k b g h e1 g1 h1 hk hn hb
            by_cases hx : e1 = .normal
            · subst hx
              obtain ⟨k2, l2⟩ := ihj (by omega) k1 (Nat.le_trans hn l1) q
              exact ⟨k2, Nat.le_trans l1 l2⟩
            · have hq : (some (e1, g1, h1) : KR) = some (e, g', h') := by cases e1 <;> first | exact q | exact absurd rfl hx
              cases hq
              exact ⟨k1, l1⟩
      have he0 : cC P call dr (n + 1) (.loop b) g h = some (e, g', h') := he
      refine ⟨key (n + 1) (Nat.le_refl _) hk hn he0, ?_⟩
      refine BW_loop (fun j g1 H1 => ∃ h1 : HP, h1.ok ∧ k ≤ h1.n ∧ H1 = h1.L ∧ j ≤ n + 1 ∧ cC P call dr j (.loop b) g1 h1 = some (e, g', h')) (n + 1) ⟨h, hk, hn, rfl, Nat.le_refl _, he0⟩ ?_
      rintro j g1 _ ⟨h1, k1, n1, rfl, hj, q⟩
      cases j with
      | zero => cases q
      | succ j =>
        have q : cThen (cC P call dr j (.loop b)) (cC P call dr j b g1 h1) = some (e, g', h') := q
        cases hb : cC P call dr j b g1 h1 with
        | none => rw [hb] at q; cases q
        | some r =>
          obtain ⟨e1, g2, h2⟩ := r
          rw [hb] at q
          obtain ⟨⟨k2, l2⟩, b2⟩ := @cC_ok _ hc hd j k b g1 h1 e1 g2 h2 k1 n1 hb
          by_cases hx : e1 = .normal
          · subst hx
            refine b2.mono ?_
            rintro _ _ _ ⟨rfl, rfl, rfl⟩
            exact ⟨j, _, _, Nat.lt_succ_self _, ⟨h2, k2, Nat.le_trans n1 l2, rfl, by omega, q⟩, VS.refl _ _ _⟩
          · have hq : (some (e1, g2, h2) : KR) = some (e, g', h') := by cases e1 <;> first | exact q | exact absurd rfl hx
            cases hq
            refine b2.mono ?_
            rintro ex _ _ ⟨rfl, rfl, rfl⟩
            cases ex <;> first | exact ⟨rfl, rfl, rfl⟩ | exact absurd rfl hx
    | region id ops dw =>
      cases dw
      · simp only [cCode] at he
        cases hr : cOps P call ops.toList ops.toList g h with
        | none => rw [hr] at he; cases he
        | some r =>
          obtain ⟨g1, h1⟩ := r
          rw [hr] at he
          cases he
          obtain ⟨k1, a1⟩ := cOps_ok hc _ hk hr
          exact ⟨k1, .of_AW (AW_region (AOps.imp (fun g H q => ⟨rfl, q.1, q.2⟩) _ a1))⟩
      · simp only [cCode] at he
        cases hr : dr ops g h with
        | none => rw [hr] at he; cases he
        | some r =>
          obtain ⟨g1, h1⟩ := r
          rw [hr] at he
          cases he
          obtain ⟨k1, a1⟩ := hd _ _ _ _ _ hk hr
          exact ⟨k1, a1 _ k id hn⟩
    | _ => cases he
termination_by n => n
end
end Go.Abs
namespace Go.Abs
open Go
mutual
def okV (p : Nat → Bool) : AV → Bool
  | .v _ | .em | .any | .nb => true
  | .sl id _ _ | .pt id _ | .mp id => p id
  | .im _ cs | .ip cs | .ag cs | .tu cs => okVs p cs
  | .fn _ a b => okVs p a && okVs p b
def okVs (p : Nat → Bool) : List AV → Bool
  | [] => true
  | v :: vs => okV p v && okVs p vs
end
def okO (p : Nat → Bool) : AO → Bool
  | .cells _ cs | .ice _ cs | .mapv _ cs | .tc _ cs | .tf _ cs | .fx _ cs _ | .mi cs _ _ _ => okVs p cs
  | _ => true
theorem okVs_mem {p : Nat → Bool} : ∀ {vs : List AV} {v : AV}, okVs p vs = true → v ∈ vs → okV p v = true
  | c :: cs, v, h, hm => by
    simp only [okVs, Bool.and_eq_true] at h
    rcases List.mem_cons.1 hm with rfl | hm
    · exact h.1
    · exact okVs_mem h.2 hm
section
variable {I : Nat → Prop} {m m' : List Loc} {w : World} {τ : Nat → Nat} {p : Nat → Bool}
mutual
theorem VR.on (h : ∀ (j : Nat) L, p j = true → lk m j = some L → lk m' (τ j) = some L) : ∀ (c : AV) (x : Value), okV p c = true → VR I m w c x → VR I m' w (c.ren τ) x
  | .v _, _, _, k => by simpa only [AV.ren, VR] using k
  | .em, _, _, k => by simpa only [AV.ren, VR] using k
  | .any, _, _, k => by simp only [AV.ren, VR]
  | .nb, _, _, k => by simpa only [AV.ren, VR] using k
  | .sl _ _ _, _, q, k => by
    simp only [okV] at q
    simp only [AV.ren, VR] at k ⊢
    obtain ⟨L, A, c, h1, h2⟩ := k
    exact ⟨L, A, c, h _ _ q h1, h2⟩
  | .pt _ _, _, q, k => by
    simp only [okV] at q
    simp only [AV.ren, VR] at k ⊢
    obtain ⟨L, h1, h2⟩ := k
    exact ⟨L, h _ _ q h1, h2⟩
  | .mp _, _, q, k => by
    simp only [okV] at q
    simp only [AV.ren, VR] at k ⊢
    obtain ⟨L, h1, h2⟩ := k
    exact ⟨L, h _ _ q h1, h2⟩
  | .im n cs, _, q, k => by
    simp only [okV] at q
    simp only [AV.ren, VR] at k ⊢
    obtain ⟨A, c, h1, h2, h3⟩ := k
    refine ⟨A, c, h1, h2, ?_⟩
    rcases h3 with rfl | ⟨b, o, h4, h5, h6⟩
    · exact .inl (by simp only [rens])
    · exact .inr ⟨b, o, h4, h5, CR.on h cs o q h6⟩
  | .ip cs, _, q, k => by
    simp only [okV] at q
    simp only [AV.ren, VR] at k ⊢
    obtain ⟨b, o, h4, h5, h6⟩ := k
    exact ⟨b, o, h4, h5, CR.on h cs o q h6⟩
  | .ag cs, _, q, k => by
    simp only [okV] at q
    simp only [AV.ren, VR] at k ⊢
    obtain ⟨xs, h1, h2⟩ := k
    exact ⟨xs, h1, VRs.on h cs _ q h2⟩
  | .tu cs, _, q, k => by
    simp only [okV] at q
    simp only [AV.ren, VR] at k ⊢
    obtain ⟨xs, h1, h2⟩ := k
    exact ⟨xs, h1, VRs.on h cs _ q h2⟩
  | .fn f a b, _, q, k => by
    simp only [okV, Bool.and_eq_true] at q
    simp only [AV.ren, VR] at k ⊢
    obtain ⟨xs, ys, h1, h2, h3⟩ := k
    exact ⟨xs, ys, h1, VRs.on h a _ q.1 h2, VRs.on h b _ q.2 h3⟩
theorem VRs.on (h : ∀ (j : Nat) L, p j = true → lk m j = some L → lk m' (τ j) = some L) : ∀ (cs : List AV) (xs : List Value), okVs p cs = true → VRs I m w cs xs → VRs I m' w (rens τ cs) xs
  | [], _, _, k => by simpa only [rens, VRs] using k
  | c :: cs, _, q, k => by
    simp only [okVs, Bool.and_eq_true] at q
    simp only [rens, VRs] at k ⊢
    obtain ⟨y, zs, h1, h2, h3⟩ := k
    exact ⟨y, zs, h1, VR.on h c y q.1 h2, VRs.on h cs zs q.2 h3⟩
theorem CR.on {b : Nat} (h : ∀ (j : Nat) L, p j = true → lk m j = some L → lk m' (τ j) = some L) : ∀ (cs : List AV) (o : Nat), okVs p cs = true → CR I m w b cs o → CR I m' w b (rens τ cs) o
  | [], _, _, _ => by simp only [rens, CR]
  | c :: cs, o, q, k => by
    simp only [okVs, Bool.and_eq_true] at q
    simp only [rens, CR] at k ⊢
    obtain ⟨⟨x, h1, h2⟩, h3⟩ := k
    exact ⟨⟨x, h1, VR.on h c x q.1 h2⟩, CR.on h cs (o + 1) q.2 h3⟩
end
theorem OR.on (h : ∀ (j : Nat) L, p j = true → lk m j = some L → lk m' (τ j) = some L) {o : AO} {L : Loc} (q : okO p o = true) (k : OR I m w o L) : OR I m' w (o.ren τ) L := by
  cases o with
  | dead => simp only [AO.ren, OR]
  | raw => simpa only [AO.ren, OR] using k
  | mapv ks vs =>
    simp only [okO] at q
    simp only [AO.ren, OR] at k ⊢
    obtain ⟨q1, es, cl, q2, q3, q4⟩ := k
    exact ⟨q1, es, cl, q2, q3, VRs.on h vs _ q q4.1, q4.2⟩
  | mi vs s sn l =>
    simp only [okO] at q
    simp only [AO.ren, OR] at k ⊢
    obtain ⟨q1, b, q2, q3⟩ := k
    exact ⟨q1, b, q2, VRs.on h vs _ q q3⟩
  | tc t cs =>
    simp only [okO] at q
    simp only [AO.ren, OR] at k ⊢
    obtain ⟨q1, c, q2, q3⟩ := k
    refine ⟨⟨q1.1, q1.2.1, q1.2.2.1, by rw [rens_eq, List.length_map]; exact q1.2.2.2⟩, c, q2, fun i x hx => ?_⟩
    rw [rens_eq, List.getElem?_map, Option.map_eq_some_iff] at hx
    obtain ⟨v, hv, rfl⟩ := hx
    obtain ⟨y, h5, h6, h7⟩ := q3 i v hv
    exact ⟨y, h5, VR.on h v y (okVs_mem q (List.mem_of_getElem? hv)) h6, by rw [ren_one]; exact h7⟩
  | tf t cs =>
    simp only [okO] at q
    simp only [AO.ren, OR] at k ⊢
    obtain ⟨q1, c, fz, q2, q3⟩ := k
    refine ⟨⟨q1.1, q1.2.1, q1.2.2.1, by rw [rens_eq, List.length_map]; exact q1.2.2.2⟩, c, fz, q2, fun i x hx => ?_⟩
    rw [rens_eq, List.getElem?_map, Option.map_eq_some_iff] at hx
    obtain ⟨v, hv, rfl⟩ := hx
    obtain ⟨y, h5, h6, h7⟩ := q3 i v hv
    exact ⟨y, h5, VR.on h v y (okVs_mem q (List.mem_of_getElem? hv)) h6, by rw [ren_one]; exact h7⟩
  | ice sz cs =>
    simp only [okO] at q
    simp only [AO.ren, OR] at k ⊢
    exact ⟨k.1, by rw [rens_eq, List.length_map]; exact k.2.1, fun hc => ⟨(k.2.2 hc).1, CR.on h cs _ q (k.2.2 hc).2⟩⟩
  | fx sz cs r =>
    simp only [okO] at q
    simp only [AO.ren, OR] at k ⊢
    refine ⟨⟨k.1.1, by rw [rens_eq, List.length_map]; exact k.1.2.1, fun hc => ?_⟩, by rw [rens_eq, List.length_map]; exact k.2⟩
    obtain ⟨c, E, fz, h1, h2, h3, h4⟩ := k.1.2.2 hc
    refine ⟨c, E, fz, h1, h2, h3, fun i x hx => ?_⟩
    rw [rens_eq, List.getElem?_map, Option.map_eq_some_iff] at hx
    obtain ⟨v, hv, rfl⟩ := hx
    obtain ⟨y, h5, h6, h7⟩ := h4 i v hv
    exact ⟨y, h5, VR.on h v y (okVs_mem q (List.mem_of_getElem? hv)) h6, by rw [ren_one]; exact h7⟩
  | cells sz cs =>
    simp only [okO] at q
    simp only [AO.ren, OR] at k ⊢
    refine ⟨k.1, by rw [rens_eq, List.length_map]; exact k.2.1, fun hc => ?_⟩
    obtain ⟨c, E, fz, h1, h2, h3, h4⟩ := k.2.2 hc
    refine ⟨c, E, fz, h1, h2, h3, fun i x hx => ?_⟩
    rw [rens_eq, List.getElem?_map, Option.map_eq_some_iff] at hx
    obtain ⟨v, hv, rfl⟩ := hx
    obtain ⟨y, h5, h6, h7⟩ := h4 i v hv
    exact ⟨y, h5, VR.on h v y (okVs_mem q (List.mem_of_getElem? hv)) h6, by rw [ren_one]; exact h7⟩
end
theorem VS_keep {k : Nat} {v : AV} {H : List AO} (σ : List Nat) (τ : Nat → Nat) (p : Nat → Bool) (hp : ∀ j, p j = true → σ[τ j]? = some j) (h0 : ∀ j, j < k → σ[j]? = some j) (hn : σ.Nodup) (hl : ∀ j ∈ σ, j < H.length)
    (hv : okV p v = true) (ho : ∀ (j : Nat) o, j ∈ σ → H[j]? = some o → okO p o = true) : VS k [v] H [v.ren τ] (σ.map fun j => (H.getD j .dead).ren τ) := by
  intro I m w xs hr hx
  have hlen := hr.len
  have get : ∀ (i : Nat) (j : Nat), σ[i]? = some j → j < m.length ∧ (σ.map fun j => m.getD j ⟨0, 0, 0, 0⟩)[i]? = m[j]? := fun i j hj => by
    have hjl := hl j (List.mem_of_getElem? hj)
    refine ⟨by omega, ?_⟩
    rw [List.getElem?_map, hj]
    simp only [Option.map_some, List.getD]
    rw [List.getElem?_eq_getElem (by omega)]; rfl
  have hlk : ∀ (j : Nat) L, p j = true → lk m j = some L → lk (σ.map fun j => m.getD j ⟨0, 0, 0, 0⟩) (τ j) = some L := fun j L hj hL => by
    obtain ⟨q1, q2⟩ := lk_get hL
    refine lk_of ?_ q2
    rw [(get _ _ (hp j hj)).2]; exact q1
  have obj : ∀ (i : Nat) (o : AO), (σ.map fun j => (H.getD j .dead).ren τ)[i]? = some o → ∃ (j : Nat) (o' : AO), σ[i]? = some j ∧ H[j]? = some o' ∧ o = o'.ren τ := fun i o hi => by
    rw [List.getElem?_map, Option.map_eq_some_iff] at hi
    obtain ⟨j, hj, rfl⟩ := hi
    have := hl j (List.mem_of_getElem? hj)
    exact ⟨j, H[j], hj, List.getElem?_eq_getElem this, by simp [List.getD, List.getElem?_eq_getElem this]⟩
  have own : ∀ b, Own (σ.map fun j => (H.getD j .dead).ren τ) (σ.map fun j => m.getD j ⟨0, 0, 0, 0⟩) b → Own H m b := by
    rintro b ⟨id, o, L, h1, h2, h3, h4, h5⟩
    obtain ⟨j, o', q1, q2, rfl⟩ := obj _ _ h1
    rw [(get _ _ q1).2] at h3
    rw [ren_alive] at h2
    exact ⟨j, o', L, q2, h2, h3, h4, h5⟩
  refine ⟨I, σ.map fun j => m.getD j ⟨0, 0, 0, 0⟩, ⟨by simp, ?_, ?_, ?_, hr.ilt, hr.gl⟩, ?_, fun _ h => h, fun _ h => .inl h, own, ?_⟩
  · intro id o L h1 h2
    obtain ⟨j, o', q1, q2, rfl⟩ := obj _ _ h1
    rw [(get _ _ q1).2] at h2
    exact OR.on hlk (ho j o' (List.mem_of_getElem? q1) q2) (hr.ob j o' L q2 h2)
  · intro i j oi oj Li Lj hij h1 h2 h3 h4 h5 h6 h7 h8
    obtain ⟨a, o1, q1, q2, rfl⟩ := obj _ _ h1
    obtain ⟨b, o2, r1, r2, rfl⟩ := obj _ _ h2
    rw [(get _ _ q1).2] at h5
    rw [(get _ _ r1).2] at h6
    rw [ren_alive] at h3 h4
    refine hr.inj a b o1 o2 Li Lj (fun hab => ?_) q2 r2 h3 h4 h5 h6 h7 h8
    subst hab
    exact hij ((List.getElem?_inj (List.getElem?_eq_some_iff.1 q1).1 hn).1 (q1.trans r1.symm))
  · exact fun b hb ho => hr.imm b hb (own b ho)
  · simp only [VRs] at hx ⊢
    obtain ⟨y, zs, rfl, q1, q2⟩ := hx
    exact ⟨y, zs, rfl, VR.on hlk v y hv q1, q2⟩
  · intro i L hi hm
    rw [(get _ _ (h0 i hi)).2]; exact hm
section
variable {P : Program} {k : Nat}
theorem AFn_of_BW {n : FuncId} {fn : Func} {c : Code} {args : List AV} {Hi : List AO} {R : AV → List AO → Prop} {rs : List ResultVar} {nt : Nat} (hf : P.funcs[n]? = some fn) (hb : fn.body = some c) (hn : (fn.name == "runtime.NumGoroutine") = false) (hrs : fn.results.toList = rs) (hnt : fn.ntmps = nt)
    (h : BW P k c (endM P k rs R) (args ++ List.replicate (nt - args.length) (.v undef)) Hi) : AFn P n k args Hi R := by
  intro I m w xs hr hv
  have hl := hv.len
  rw [Array.length_toList] at hl
  have e0 : (callFunc n xs).run P w = .ok (.enter n xs) w := by
    simp [callFunc, hf, hn, hb]
    intro hh
    simp [hh] at hn
  unfold CallsFn
  rw [e0]
  refine calls_of_wp hf hb (wp_mono (h I m { tmps := xs ++ Array.replicate (fn.ntmps - xs.size) undef, defers := [] } w hr ?_ rfl) ?_)
  · simp only [Array.toList_append, Array.toList_replicate, hl, ← hnt]
    refine hv.append ?_
    generalize fn.ntmps - args.length = k
    induction k with
    | zero => simp [VRs]
    | succ k ih => simp only [List.replicate_succ, VRs]; exact ⟨_, _, rfl, by simp only [VR], ih⟩
  · rintro e a' w' ⟨g', H', I', m', h1, h2, h3, h4, h5, h6⟩
    have key : (match resAll P g' H' rs with
        | some vs => Fin k (result vs) H' R
        | none => False) → ∃ v, (results fn a'.tmps).run P w' = .ok v w' ∧ ∃ v', Ending.returned v = .returned v' ∧ ∃ r Ho I' m', R r Ho ∧ VR I' m' w' r v' ∧ HR I' m' Ho w' ∧ Ex I (Own Hi m) w I' (Own Ho m') w' ∧ Kp k m m' := by
      intro h1
      split at h1
      · rename_i vs k1
        obtain ⟨r, Ho, k2, hvs⟩ := h1
        subst hrs
        obtain ⟨ys, k3, k4⟩ := resAll_ok h2 h3 k1
        have k5 : (results fn a'.tmps).run P w' = .ok (if h : ys.toArray.size = 1 then ys.toArray[0] else .tuple ys.toArray) w' := by
          unfold results
          simp only [Array.mapM_eq_mapM_toList, Sem.run_bind, Sem.run_map]
          erw [k3]
          simp
        have k6 : VR I' m' w' (result vs) (if h : ys.toArray.size = 1 then ys.toArray[0] else .tuple ys.toArray) := by
          have kl := k4.len
          match vs, ys, k4, kl with
          | [v], [y], k4, _ =>
            simp only [VRs] at k4
            obtain ⟨y', zs, e, k6, _⟩ := k4
            obtain ⟨rfl, rfl⟩ := List.cons.inj e
            simpa [result] using k6
          | [], [], k4, _ => simp [result, VR, VRs]
          | v :: v2 :: vs, y :: y2 :: ys, k4, _ =>
            simp only [result]
            rw [dif_neg (by simp)]
            simp only [VR]
            exact ⟨_, rfl, k4⟩
        obtain ⟨I2, m2, q1, q2, q3, q4, q5, q6⟩ := hvs I' m' w' [_] h2 (by simp only [VRs]; exact ⟨_, _, rfl, k6, rfl⟩)
        simp only [VRs] at q2
        obtain ⟨y', zs, e, q2, _⟩ := q2
        obtain ⟨rfl, rfl⟩ := List.cons.inj e
        exact ⟨_, k5, _, rfl, r, Ho, I2, m2, k2, q2, q1, h5.trans (VS.ex q3 q4 q5), h6.trans q6⟩
      · exact h1.elim
    cases e with
    | normal => exact ⟨h4, key h1⟩
    | ret => exact ⟨h4, key h1⟩
    | _ => exact h1.elim
theorem ACall_of_AFn {n : FuncId} {args : List AV} {H : List AO} {R : AV → List AO → Prop} (h : AFn P n H.length args H R) : ACall P n args H R := fun I m w xs hr hv =>
  (h I m w xs hr hv).mono fun v w' ⟨r, Ho, I', m', h1, h2, h3, h4, h5⟩ => ⟨r, Ho, I', m', h1, h2, h3, h4.ext ⟨m'.drop m.length, by
    have hl := hr.len
    have : m'.take m.length = m := by
      apply List.ext_getElem?
      intro i
      by_cases hi : i < m.length
      · rw [List.getElem?_take_of_lt hi, List.getElem?_eq_getElem hi]
        exact h5 i _ (by omega) (List.getElem?_eq_getElem hi)
      · rw [List.getElem?_eq_none (by simp; omega), List.getElem?_eq_none (by omega)]
    conv => lhs; rw [← List.take_append_drop m.length m']
    rw [this]⟩⟩
end
end Go.Abs
namespace Go.Abs
open Go
def nmax (a b : Nat) : Nat := match Nat.ble a b with
  | true => b
  | false => a
theorem nmax_le {a b k : Nat} (h : nmax a b ≤ k) : a ≤ k ∧ b ≤ k := by
  unfold nmax at h
  cases hb : Nat.ble a b
  · rw [hb] at h
    have : ¬ a ≤ b := fun hh => by rw [← Nat.ble_eq, hb] at hh; cases hh
    dsimp only at h; omega
  · rw [hb] at h
    have : a ≤ b := by rw [← Nat.ble_eq]; exact hb
    dsimp only at h; omega
mutual
def maxV : AV → Nat
  | .v _ | .em | .any | .nb => 0
  | .sl id _ _ | .pt id _ | .mp id => Nat.succ id
  | .im _ cs | .ip cs | .ag cs | .tu cs => maxVs cs
  | .fn _ a b => nmax (maxVs a) (maxVs b)
def maxVs : List AV → Nat
  | [] => 0
  | v :: vs => nmax (maxV v) (maxVs vs)
end
def maxO : AO → Nat
  | .cells _ cs | .ice _ cs | .mapv _ cs | .tc _ cs | .tf _ cs | .fx _ cs _ | .mi cs _ _ _ => maxVs cs
  | _ => 0
mutual
theorem okV_max {k : Nat} : ∀ v : AV, maxV v ≤ k → okV (fun j => Nat.blt j k) v = true
  | .v _, _ => by simp only [okV]
  | .em, _ => by simp only [okV]
  | .any, _ => by simp only [okV]
  | .nb, _ => by simp only [okV]
  | .sl _ _ _, h => by simp only [okV, Nat.blt_eq]; simp only [maxV] at h; omega
  | .pt _ _, h => by simp only [okV, Nat.blt_eq]; simp only [maxV] at h; omega
  | .mp _, h => by simp only [okV, Nat.blt_eq]; simp only [maxV] at h; omega
  | .im _ cs, h => by simp only [okV]; simp only [maxV] at h; exact okVs_max cs h
  | .ip cs, h => by simp only [okV]; simp only [maxV] at h; exact okVs_max cs h
  | .ag cs, h => by simp only [okV]; simp only [maxV] at h; exact okVs_max cs h
  | .tu cs, h => by simp only [okV]; simp only [maxV] at h; exact okVs_max cs h
  | .fn _ a b, h => by
    simp only [okV, Bool.and_eq_true]; simp only [maxV] at h
    exact ⟨okVs_max a (nmax_le h).1, okVs_max b (nmax_le h).2⟩
theorem okVs_max {k : Nat} : ∀ vs : List AV, maxVs vs ≤ k → okVs (fun j => Nat.blt j k) vs = true
  | [], _ => by simp only [okVs]
  | v :: vs, h => by
    simp only [okVs, Bool.and_eq_true]; simp only [maxVs] at h
    exact ⟨okV_max v (nmax_le h).1, okVs_max vs (nmax_le h).2⟩
end
theorem okO_max {k : Nat} (o : AO) (h : maxO o ≤ k) : okO (fun j => Nat.blt j k) o = true := by
  cases o with
  | cells sz cs => exact okVs_max cs h
  | ice sz cs => exact okVs_max cs h
  | mapv ks cs => exact okVs_max cs h
  | tc t cs => exact okVs_max cs h
  | tf t cs => exact okVs_max cs h
  | fx sz cs r => exact okVs_max cs h
  | mi cs s sn l => exact okVs_max cs h
  | _ => rfl
noncomputable def allLe (k : Nat) (l : List AO) : Bool := List.rec (motive := fun _ => Bool) true (fun o _ ih => match Nat.ble (maxO o) k with
  | true => ih
  | false => false) l
theorem allLe_spec {k : Nat} : ∀ {l : List AO}, allLe k l = true → ∀ o ∈ l, maxO o ≤ k
  | a :: l, h, o, hm => by
    have h : (match Nat.ble (maxO a) k with
      | true => allLe k l
      | false => false) = true := h
    cases hb : Nat.ble (maxO a) k
    · rw [hb] at h; cases h
    · rw [hb] at h
      rcases List.mem_cons.1 hm with rfl | hm
      · rw [← Nat.ble_eq]; exact hb
      · exact allLe_spec h o hm
noncomputable def dropL {α : Type} (l : List α) : Nat → List α := List.rec (motive := fun _ => Nat → List α) (fun _ => []) (fun a t ih i => Nat.rec (motive := fun _ => List α) (a :: t) (fun j _ => ih j) i) l
theorem dropL_eq {α : Type} : ∀ (l : List α) (i : Nat), dropL l i = l.drop i
  | [], i => by simp [dropL]
  | a :: l, 0 => rfl
  | a :: l, i + 1 => by
    have : dropL (a :: l) (i + 1) = dropL l i := rfl
    rw [this, dropL_eq l i]; simp
noncomputable def cDrop (k : Nat) (v : AV) (h : HP) (r : List AO) : OR2 := match allLe k r with
  | true => some (v, ⟨k, r⟩)
  | false => some (v, h)
noncomputable def cGc (k : Nat) (v : AV) (h : HP) : OR2 := match Nat.ble (Nat.add k 24) h.n with
  | false => some (v, h)
  | true => match Nat.ble (maxV v) k with
    | false => some (v, h)
    | true => cDrop k v h (dropL h.r (Nat.sub h.n k))
theorem VS_take {k : Nat} {v : AV} {H : List AO} (hk : k ≤ H.length) (hv : maxV v ≤ k) (ho : ∀ o ∈ H.take k, maxO o ≤ k) : VS k [v] H [v] (H.take k) := by
  have := VS_keep (k := k) (v := v) (H := H) (List.range k) (fun j => j) (fun j => Nat.blt j k) (fun j hj => by
    simp only [Nat.blt_eq] at hj
    rw [List.getElem?_range hj]) (fun j hj => by rw [List.getElem?_range hj]) List.nodup_range (fun j hj => by rw [List.mem_range] at hj; omega) (okV_max v hv) (fun j o hj h => by
    rw [List.mem_range] at hj
    refine okO_max o (ho o ?_)
    rw [List.mem_iff_getElem?]
    exact ⟨j, by rw [List.getElem?_take_of_lt hj]; exact h⟩)
  rw [ren_id] at this
  have e : (List.range k).map (fun j => (H.getD j .dead).ren (fun j => j)) = H.take k := by
    apply List.ext_getElem?
    intro i
    by_cases hi : i < k
    · rw [List.getElem?_map, List.getElem?_range hi, List.getElem?_take_of_lt hi]
      simp only [Option.map_some, oren_id, List.getD]
      rw [List.getElem?_eq_getElem (by omega)]; rfl
    · rw [List.getElem?_eq_none (by simp; omega), List.getElem?_eq_none (by simp; omega)]
  rwa [e] at this
theorem cGc_ok {k : Nat} {v : AV} {h : HP} (hk : h.ok) (hn : k ≤ h.n) {r : AV} {h' : HP} (e : cGc k v h = some (r, h')) : (h'.ok ∧ k ≤ h'.n) ∧ Fin k v h.L (fun v1 H1 => v1 = r ∧ H1 = h'.L) := by
  have keep : some (v, h) = some (r, h') → (h'.ok ∧ k ≤ h'.n) ∧ Fin k v h.L (fun v1 H1 => v1 = r ∧ H1 = h'.L) := fun q => by
    cases q; exact ⟨⟨hk, hn⟩, v, _, ⟨rfl, rfl⟩, VS.refl _ _ _⟩
  unfold cGc at e
  split at e
  · exact keep e
  · split at e
    · exact keep e
    · rename_i hv
      unfold cDrop at e
      split at e
      · rename_i ha
        cases e
        have hl : (dropL h.r (Nat.sub h.n k)).length = k := by
          rw [dropL_eq, List.length_drop, hk]
          show h.n - (h.n - k) = k
          omega
        have hL : (⟨k, dropL h.r (Nat.sub h.n k)⟩ : HP).L = h.L.take k := by
          unfold HP.L
          rw [dropL_eq, List.take_reverse, hk]; rfl
        refine ⟨⟨hl, Nat.le_refl _⟩, _, _, ⟨rfl, rfl⟩, ?_⟩
        rw [hL]
        refine VS_take (by rw [HP.len hk]; exact hn) (by rw [← Nat.ble_eq]; exact hv) fun o ho => ?_
        rw [← hL] at ho
        exact allLe_spec ha o (by simpa [HP.L] using ho)
      · exact keep e
noncomputable def resF (P : Program) (g : List AV) (h : HP) : ResultVar → Option AV
  | .tmp t => some (nthD (.v undef) g t)
  | .cell t ty => oLoad2 P ty (fCells h (nthD (.v undef) g t))
def consO : Option AV → Option (List AV) → Option (List AV)
  | some v, some vs => some (v :: vs)
  | _, _ => none
noncomputable def resFs (P : Program) (g : List AV) (h : HP) (l : List ResultVar) : Option (List AV) := List.rec (motive := fun _ => Option (List AV)) (some []) (fun r _ ih => consO (resF P g h r) ih) l
theorem resF_eq (P : Program) (g : List AV) {h : HP} (hk : h.ok) (r : ResultVar) : resF P g h r = resA P g h.L r := by
  cases r with
  | tmp t => simp only [resF, resA, nthD_eq]
  | cell t ty =>
    simp only [resF, resA, nthD_eq, fCells_eq hk]
    cases acells h.L (g.getD t (.v undef)) with
    | none => rfl
    | some x => simp only [oLoad2, fApart_eq]
theorem resFs_eq (P : Program) (g : List AV) {h : HP} (hk : h.ok) : ∀ l, resFs P g h l = resAll P g h.L l
  | [] => rfl
  | r :: rs => by
    have e : resFs P g h (r :: rs) = consO (resF P g h r) (resFs P g h rs) := rfl
    rw [e, resF_eq P g hk, resFs_eq P g hk rs, resAll]
    cases resA P g h.L r <;> cases resAll P g h.L rs <;> rfl
noncomputable def cRes (k : Nat) (h : HP) : Option (List AV) → OR2
  | some vs => cGc k (result vs) h
  | none => none
noncomputable def cEnd (P : Program) (k : Nat) (rs : List ResultVar) : KR → OR2
  | some (.normal, g, h) => cRes k h (resFs P g h rs)
  | some (.ret, g, h) => cRes k h (resFs P g h rs)
  | _ => none
def namesOK (P : Program) : Bool := P.funcs.toList.all fun f => !(f.name == "runtime.NumGoroutine")
end Go.Abs
namespace Go.Abs
open Go
noncomputable def memN (j : Nat) (l : List Nat) : Bool := List.rec (motive := fun _ => Bool) false (fun a _ ih => match Nat.beq a j with
  | true => true
  | false => ih) l
noncomputable def posN (l : List Nat) (j : Nat) : Nat := List.rec (motive := fun _ => Nat) 0 (fun a _ ih => match Nat.beq a j with
  | true => 0
  | false => Nat.succ ih) l
theorem memN_cons (j a : Nat) (l : List Nat) : memN j (a :: l) = (match Nat.beq a j with
  | true => true
  | false => memN j l) := rfl
theorem posN_cons (j a : Nat) (l : List Nat) : posN (a :: l) j = (match Nat.beq a j with
  | true => 0
  | false => Nat.succ (posN l j)) := rfl
theorem memN_spec {j : Nat} : ∀ {l : List Nat}, memN j l = true ↔ j ∈ l
  | [] => by simp [memN]
  | a :: l => by
    rw [memN_cons, List.mem_cons]
    cases h : Nat.beq a j
    · have hne : a ≠ j := fun e => by subst e; simp at h
      simp only [memN_spec (l := l)]
      exact ⟨.inr, fun q => q.elim (fun e => (hne e.symm).elim) id⟩
    · exact ⟨fun _ => .inl (Nat.eq_of_beq_eq_true h).symm, fun _ => rfl⟩
theorem posN_get {j : Nat} : ∀ {l : List Nat}, memN j l = true → l[posN l j]? = some j
  | [], h => by cases h
  | a :: l, h => by
    rw [memN_cons] at h
    rw [posN_cons]
    cases hb : Nat.beq a j
    · rw [hb] at h
      have := posN_get (l := l) h
      simpa using this
    · have := Nat.eq_of_beq_eq_true hb
      simp [this]
noncomputable def nodupN (l : List Nat) : Bool := List.rec (motive := fun _ => Bool) true (fun a t ih => match memN a t with
  | true => false
  | false => ih) l
theorem nodupN_spec : ∀ {l : List Nat}, nodupN l = true → l.Nodup
  | [], _ => List.nodup_nil
  | a :: l, h => by
    have h : (match memN a l with
      | true => false
      | false => nodupN l) = true := h
    cases hm : memN a l
    · rw [hm] at h
      exact List.nodup_cons.2 ⟨fun q => (by rw [← memN_spec, hm] at q; cases q), nodupN_spec h⟩
    · rw [hm] at h; cases h
noncomputable def ltAll (n : Nat) (l : List Nat) : Bool := List.rec (motive := fun _ => Bool) true (fun a _ ih => match Nat.blt a n with
  | true => ih
  | false => false) l
theorem ltAll_spec {n : Nat} : ∀ {l : List Nat}, ltAll n l = true → ∀ a ∈ l, a < n
  | b :: l, h, a, hm => by
    have h : (match Nat.blt b n with
      | true => ltAll n l
      | false => false) = true := h
    cases hb : Nat.blt b n
    · rw [hb] at h; cases h
    · rw [hb] at h
      rcases List.mem_cons.1 hm with rfl | hm
      · rw [← Nat.blt_eq]; exact hb
      · exact ltAll_spec h a hm
mutual
def idsV : AV → List Nat → List Nat
  | .v _, a | .em, a | .any, a | .nb, a => a
  | .sl id _ _, a | .pt id _, a | .mp id, a => id :: a
  | .im _ cs, a | .ip cs, a | .ag cs, a | .tu cs, a => idsVs cs a
  | .fn _ x y, a => idsVs x (idsVs y a)
def idsVs : List AV → List Nat → List Nat
  | [], a => a
  | v :: vs, a => idsV v (idsVs vs a)
end
def idsO : Option AO → List Nat → List Nat
  | some (.cells _ cs), a => idsVs cs a
  | some (.ice _ cs), a => idsVs cs a
  | some (.mapv _ cs), a => idsVs cs a
  | some (.tc _ cs), a => idsVs cs a
  | some (.tf _ cs), a => idsVs cs a
  | some (.fx _ cs _), a => idsVs cs a
  | some (.mi cs _ _ _), a => idsVs cs a
  | _, a => a
noncomputable def reachStep (h : HP) (ih : List Nat → List Nat → List Nat) (seen : List Nat) : List Nat → List Nat
  | [] => seen
  | j :: w => match memN j seen with
    | true => ih w seen
    | false => ih (idsO (rGet h j) w) (j :: seen)
noncomputable def reach (h : HP) (n : Nat) : List Nat → List Nat → List Nat := Nat.rec (motive := fun _ => List Nat → List Nat → List Nat) (fun _ seen => seen) (fun _ ih w seen => reachStep h ih seen w) n
noncomputable def objN (h : HP) (τ : Nat → Nat) (j : Nat) : AO := match rGet h j with
  | some o => o.ren τ
  | none => .dead
noncomputable def okAt (h : HP) (p : Nat → Bool) (j : Nat) : Bool := match rGet h j with
  | some o => okO p o
  | none => true
noncomputable def allAt (f : Nat → Bool) (l : List Nat) : Bool := List.rec (motive := fun _ => Bool) true (fun a _ ih => match f a with
  | true => ih
  | false => false) l
theorem allAt_spec {f : Nat → Bool} : ∀ {l : List Nat}, allAt f l = true → ∀ a ∈ l, f a = true
  | b :: l, h, a, hm => by
    have h : (match f b with
      | true => allAt f l
      | false => false) = true := h
    cases hb : f b
    · rw [hb] at h; cases h
    · rw [hb] at h
      rcases List.mem_cons.1 hm with rfl | hm
      · exact hb
      · exact allAt_spec h a hm
noncomputable def closedN (h : HP) (ids : List Nat) (vs : List AV) : Bool := match nodupN ids with
  | true => match ltAll h.n ids with
    | true => match okVs (fun j => memN j ids) vs with
      | true => allAt (okAt h fun j => memN j ids) ids
      | false => false
    | false => false
  | false => false
theorem closedN_spec {h : HP} {ids : List Nat} {vs : List AV} (e : closedN h ids vs = true) : ids.Nodup ∧ (∀ a ∈ ids, a < h.n) ∧ okVs (fun j => memN j ids) vs = true ∧ ∀ a ∈ ids, okAt h (fun j => memN j ids) a = true := by
  unfold closedN at e
  split at e
  · rename_i h1
    split at e
    · rename_i h2
      split at e
      · rename_i h3
        exact ⟨nodupN_spec h1, ltAll_spec h2, h3, allAt_spec e⟩
      · cases e
    · cases e
  · cases e
noncomputable def packH (h : HP) (ids : List Nat) : HP := ⟨ids.length, (ids.map (objN h (posN ids))).reverse⟩
theorem packH_ok (h : HP) (ids : List Nat) : (packH h ids).ok := by simp [HP.ok, packH]
theorem packH_L {h : HP} (hk : h.ok) (ids : List Nat) : (packH h ids).L = ids.map fun j => (h.L.getD j .dead).ren (posN ids) := by
  unfold HP.L packH
  rw [List.reverse_reverse]
  apply List.map_congr_left
  intro j _
  unfold objN
  rw [rGet_eq hk]
  show _ = ((h.r.reverse).getD j .dead).ren (posN ids)
  rw [List.getD_eq_getElem?_getD]
  show (match h.r.reverse[j]? with
    | some o => o.ren (posN ids)
    | none => .dead) = _
  cases h.r.reverse[j]? <;> rfl
noncomputable def oldIds (h : HP) (l : List Nat) : List Nat := List.rec (motive := fun _ => List Nat) [] (fun j _ ih => idsO (rGet h j) ih) l
noncomputable def newIds (k : Nat) (h : HP) (v : AV) : List Nat := (reach h 100000 (idsV v (oldIds h (List.range k))) (List.range k).reverse).reverse
noncomputable def firstN (k : Nat) (l : List Nat) : Bool := allAt (fun j => match nthO l j with
  | some i => Nat.beq i j
  | none => false) (List.range k)
theorem firstN_spec {k : Nat} {l : List Nat} (h : firstN k l = true) (j : Nat) (hj : j < k) : l[j]? = some j := by
  have := allAt_spec h j (List.mem_range.2 hj)
  rw [nthO_eq] at this
  cases hl : l[j]? with
  | none => rw [hl] at this; cases this
  | some i => rw [hl] at this; exact congrArg some (Nat.eq_of_beq_eq_true this)
mutual
def beqV : AV → AV → Bool
  | .v (.int k a), .v (.int k' b) => kindEq k k' && ieq a b
  | .v (.bool a), .v (.bool b) => a == b
  | .v (.string a), .v (.string b) => a.data.toList == b.data.toList
  | .v (.slice none 0 0), .v (.slice none 0 0) => true
  | .v (.pointer none), .v (.pointer none) => true
  | .v .nilFunc, .v .nilFunc => true
  | .sl a b c, .sl a' b' c' => Nat.beq a a' && Nat.beq b b' && Nat.beq c c'
  | .pt a b, .pt a' b' => Nat.beq a a' && Nat.beq b b'
  | .im n cs, .im n' cs' => Nat.beq n n' && beqVs cs cs'
  | .ip cs, .ip cs' => beqVs cs cs'
  | .ag cs, .ag cs' => beqVs cs cs'
  | .tu cs, .tu cs' => beqVs cs cs'
  | .fn (.func f) a b, .fn (.func f') a' b' => Nat.beq f f' && beqVs a a' && beqVs b b'
  | .mp a, .mp a' => Nat.beq a a'
  | .em, .em => true
  | .any, .any => true
  | .nb, .nb => true
  | _, _ => false
def beqVs : List AV → List AV → Bool
  | [], [] => true
  | a :: as, b :: bs => beqV a b && beqVs as bs
  | _, _ => false
end
def beqK : Value → Value → Bool
  | .agg a, .agg b => beqVs (a.toList.map .v) (b.toList.map .v)
  | a, b => beqV (.v a) (.v b)
def beqKs : List Value → List Value → Bool
  | [], [] => true
  | a :: as, b :: bs => beqK a b && beqKs as bs
  | _, _ => false
def beqO : AO → AO → Bool
  | .cells s a, .cells s' b => Nat.beq s s' && beqVs a b
  | .ice s a, .ice s' b => Nat.beq s s' && beqVs a b
  | .dead, .dead => true
  | .tc t a, .tc t' b => Nat.beq t t' && beqVs a b
  | .tf t a, .tf t' b => Nat.beq t t' && beqVs a b
  | .mapv k a, .mapv k' b => beqKs k k' && beqVs a b
  | _, _ => false
mutual
theorem beqV_spec : ∀ {a b : AV}, beqV a b = true → a = b := by
  intro a b h
  unfold beqV at h
  split at h
  · rw [Bool.and_eq_true] at h
    rw [kindEq_spec h.1]
    have := h.2
    rw [ieq_eq, beq_iff_eq] at this
    rw [this]
  · rw [beq_iff_eq.1 h]
  · rename_i x y
    have e := beq_iff_eq.1 h
    obtain ⟨⟨x⟩⟩ := x
    obtain ⟨⟨y⟩⟩ := y
    dsimp only at e
    rw [e]
  · rfl
  · rfl
  · rfl
  · simp only [Bool.and_eq_true, Nat.beq_eq] at h
    rw [h.1.1, h.1.2, h.2]
  · simp only [Bool.and_eq_true, Nat.beq_eq] at h
    rw [h.1, h.2]
  · simp only [Bool.and_eq_true, Nat.beq_eq] at h
    rw [h.1, beqVs_spec h.2]
  · rw [beqVs_spec h]
  · rw [beqVs_spec h]
  · rw [beqVs_spec h]
  · simp only [Bool.and_eq_true, Nat.beq_eq] at h
    rw [h.1.1, beqVs_spec h.1.2, beqVs_spec h.2]
  · simp only [Nat.beq_eq] at h
    rw [h]
  · rfl
  · rfl
  · rfl
  · cases h
theorem beqVs_spec : ∀ {a b : List AV}, beqVs a b = true → a = b
  | [], [], _ => rfl
  | a :: as, b :: bs, h => by
    simp only [beqVs, Bool.and_eq_true] at h
    rw [beqV_spec h.1, beqVs_spec h.2]
  | [], b :: bs, h => by simp [beqVs] at h
  | a :: as, [], h => by simp [beqVs] at h
end
theorem mapV_inj : ∀ {x y : List Value}, x.map AV.v = y.map AV.v → x = y
  | [], [], _ => rfl
  | [], b :: y, q => by simp at q
  | a :: x, [], q => by simp at q
  | a :: x, b :: y, q => by
    simp only [List.map_cons, List.cons.injEq, AV.v.injEq] at q
    rw [q.1, mapV_inj q.2]
theorem beqK_spec {a b : Value} (h : beqK a b = true) : a = b := by
  unfold beqK at h
  split at h
  · have := mapV_inj (beqVs_spec h)
    rw [Array.toList_inj.1 this]
  · have := beqV_spec h
    injection this
theorem beqKs_spec : ∀ {a b : List Value}, beqKs a b = true → a = b
  | [], [], _ => rfl
  | a :: as, b :: bs, h => by
    simp only [beqKs, Bool.and_eq_true] at h
    rw [beqK_spec h.1, beqKs_spec h.2]
  | [], b :: bs, h => by simp [beqKs] at h
  | a :: as, [], h => by simp [beqKs] at h
theorem beqO_spec {a b : AO} (h : beqO a b = true) : a = b := by
  unfold beqO at h
  split at h
  · simp only [Bool.and_eq_true, Nat.beq_eq] at h
    rw [h.1, beqVs_spec h.2]
  · simp only [Bool.and_eq_true, Nat.beq_eq] at h
    rw [h.1, beqVs_spec h.2]
  · rfl
  · simp only [Bool.and_eq_true, Nat.beq_eq] at h
    rw [h.1, beqVs_spec h.2]
  · simp only [Bool.and_eq_true, Nat.beq_eq] at h
    rw [h.1, beqVs_spec h.2]
  · rw [Bool.and_eq_true] at h
    rw [beqKs_spec h.1, beqVs_spec h.2]
  · cases h
end Go.Abs
