/- Part 5 of the texts that lead to stropheStanzasCard_holds. No condition. -/
import Derived.Test.YteoeioodocjbiaaGreatDoorH4
set_option linter.unusedSimpArgs false
set_option linter.unusedVariables false
set_option linter.unnecessarySimpa false
namespace Go.Abs
open Go
section
variable {P : Program} {I : Nat → Prop} {m : List Loc} {H : List AO} {w : World}
theorem run_fieldPlace {tf : TI} {fd : Field} (h : ti P fd.type = some tf) (h0 : tf.size ≠ 0) (b o : Nat) : (fieldPlace ⟨b, o, none⟩ fd).run P w = .ok ⟨b, o + fd.offset, none⟩ w := by
  simp only [fieldPlace, Sem.run_bind, run_sizeOf' h, Result.andThen_ok, Sem.run_ite]
  rw [if_neg h0, add_none]
  rfl
theorem evs_arr {g : List AV} {a : Act} (h : VRs I m w g a.tmps.toList) (xs : Array Operand) : VRs I m w (xs.toList.map (ev g)) (xs.map a.eval).toList := by
  rw [Array.toList_map]; exact evs_ok h xs.toList
theorem run_equal_slice {t e : TypeId} {d : TI} (hd : ti P t = some d) (hdd : d.desc = .slice e) (a : Addr) (l c : Nat) : (Op.equal t (.slice (some a) l c) (.slice none 0 0)).run P w = .ok false w := by
  have : ∀ k, (Op.equalIn (k + 1) t (.slice (some a) l c) (.slice none 0 0)).run P w = .ok false w := by
    intro k
    simp only [Op.equalIn, Sem.run_bind, run_underlying' hd, hdd, Result.andThen_ok]
    rfl
  exact this 9999
theorem run_equal_slice' {t e : TypeId} {d : TI} (hd : ti P t = some d) (hdd : d.desc = .slice e) (a : Option Addr) (l c : Nat) : (Op.equal t (.slice a l c) (.slice none 0 0)).run P w = .ok a.isNone w := by
  have : ∀ k, (Op.equalIn (k + 1) t (.slice a l c) (.slice none 0 0)).run P w = .ok a.isNone w := by
    intro k
    simp only [Op.equalIn, Sem.run_bind, run_underlying' hd, hdd, Result.andThen_ok]
    cases a <;> rfl
  exact this 9999
theorem run_equal_bool {t : TypeId} {d : TI} (hd : ti P t = some d) (hdd : d.desc = .bool) (a b : Bool) : (Op.equal t (.bool a) (.bool b)).run P w = .ok (a == b) w := by
  have : ∀ k, (Op.equalIn (k + 1) t (.bool a) (.bool b)).run P w = .ok (a == b) w := by
    intro k
    simp only [Op.equalIn, Sem.run_bind, run_underlying' hd, hdd, Result.andThen_ok]
    rfl
  exact this 9999
theorem opS_binOp (hr : HR I m H w) {g : List AV} {a : Act} (hg : VRs I m w g a.tmps.toList) {o : Oper} {op : BinOp} {t t2 : TypeId} {x y : Operand} (ho : o.op = .binOp op t x y t2) {v : AV} {H' : List AO} (h : aop P g H o.op = some (v, H')) : OpS P I m H w o a v H' := by
  have hx := VR.ev hg x
  have hy := VR.ev hg y
  have e0 : execOp a.eval o = (do pure (Next.value (← (do eqGuard op t x y (a.eval x) (a.eval y); Go.binOp op t (a.eval x) (a.eval y) : Sem Value)))) := by simp [execOp, ho]
  rw [ho] at h
  simp only [aop] at h
  split at h
  · rename_i p q e1 e2
    rw [e1] at hx; rw [e2] at hy
    simp only [VR] at hx hy
    split at h
    · rename_i q1 q2 q3 hd
      injection h with h
      obtain ⟨rfl, rfl⟩ := Prod.mk.inj h
      refine OpS.of_sok (SOK.same hr (y := .bool (p == q)) ?_ (by simp only [VR])) e0
      rw [hx, hy]
      simp only [Sem.run_bind, eqGuard_ok (a := .bool p) (by simp) rfl, Result.andThen_ok]
      simp [Go.binOp, run_equal_bool hd rfl]
    · rename_i q1 q2 q3 hd
      injection h with h
      obtain ⟨rfl, rfl⟩ := Prod.mk.inj h
      refine OpS.of_sok (SOK.same hr (y := .bool !(p == q)) ?_ (by simp only [VR])) e0
      rw [hx, hy]
      simp only [Sem.run_bind, eqGuard_ok (a := .bool p) (by simp) rfl, Result.andThen_ok]
      simp [Go.binOp, run_equal_bool hd rfl]
    · cases h
  · rename_i p q hno e1 e2
    rw [e1] at hx; rw [e2] at hy
    simp only [VR] at hx hy
    cases hr' : abin op p q with
    | none => rw [hr'] at h; simp at h
    | some r =>
      rw [hr'] at h
      simp only [Option.map_some] at h
      injection h with h
      obtain ⟨rfl, rfl⟩ := Prod.mk.inj h
      refine OpS.of_sok (SOK.same hr (y := r) ?_ (by simp only [VR])) e0
      rw [hx, hy]
      have hp : p ≠ .nilIface ∧ p.oneCell' = true := by
        unfold abin at hr'
        split at hr' <;> first | (cases hr'; done) | exact ⟨by simp, rfl⟩
      simp only [Sem.run_bind, eqGuard_ok hp.1 hp.2, Result.andThen_ok, abin_ok hr']
  · rename_i X X2 e2 hno
    rw [e2] at hy
    simp only [VR] at hy
    have key : ∀ (ad : Addr) (l c : Nat) (te : TypeId) (q1 q2 : Nat) (q3 : List Value) (r : Bool), a.eval x = .slice (some ad) l c → ti P t = some ⟨.slice te, q1, q2, q3⟩ → (op = .eql ∧ r = false ∨ op = .neq ∧ r = true) → OpS P I m H w o a (.v (.bool r)) H := fun ad l c te q1 q2 q3 r hxe hd hop => by
      refine OpS.of_sok (SOK.same hr (y := .bool r) ?_ (by simp only [VR])) e0
      rw [hxe, hy]
      rcases hop with ⟨rfl, rfl⟩ | ⟨rfl, rfl⟩ <;>
      · simp only [Sem.run_bind, eqGuard_ok (a := .slice (some ad) l c) (by simp) rfl, Result.andThen_ok]
        simp [Go.binOp, run_equal_slice hd rfl]
    have key2 : ∀ (ad : Option Addr) (l c : Nat) (te : TypeId) (q1 q2 : Nat) (q3 : List Value), a.eval x = .slice ad l c → ti P t = some ⟨.slice te, q1, q2, q3⟩ → (op = .eql ∨ op = .neq) → OpS P I m H w o a .nb H := fun ad l c te q1 q2 q3 hxe hd hop => by
      rcases hop with rfl | rfl
      · refine OpS.of_sok (SOK.same hr (y := .bool ad.isNone) ?_ (by simp only [VR]; exact ⟨_, rfl⟩)) e0
        rw [hxe, hy]
        simp only [Sem.run_bind, eqGuard_ok (a := .slice ad l c) (by simp) rfl, Result.andThen_ok]
        simp [Go.binOp, run_equal_slice' hd rfl]
      · refine OpS.of_sok (SOK.same hr (y := .bool !ad.isNone) ?_ (by simp only [VR]; exact ⟨_, rfl⟩)) e0
        rw [hxe, hy]
        simp only [Sem.run_bind, eqGuard_ok (a := .slice ad l c) (by simp) rfl, Result.andThen_ok]
        simp [Go.binOp, run_equal_slice' hd rfl]
    split at h
    · rename_i hd e1
      injection h with h
      obtain ⟨rfl, rfl⟩ := Prod.mk.inj h
      rw [e1] at hx
      simp only [VR] at hx
      obtain ⟨A, c, hx, _, h2⟩ := hx
      unfold nilV
      split
      · exact key2 _ _ _ _ _ _ _ hx hd (.inl rfl)
      · rename_i hn
        rcases h2 with h2 | ⟨b, q, rfl, _⟩
        · subst h2; exact absurd rfl hn
        · exact key _ _ _ _ _ _ _ _ hx hd (.inl ⟨rfl, rfl⟩)
    · rename_i hd e1
      injection h with h
      obtain ⟨rfl, rfl⟩ := Prod.mk.inj h
      rw [e1] at hx
      simp only [VR] at hx
      obtain ⟨A, c, hx, _, h2⟩ := hx
      unfold nilV
      split
      · exact key2 _ _ _ _ _ _ _ hx hd (.inr rfl)
      · rename_i hn
        rcases h2 with h2 | ⟨b, q, rfl, _⟩
        · subst h2; exact absurd rfl hn
        · exact key _ _ _ _ _ _ _ _ hx hd (.inr ⟨rfl, rfl⟩)
    · rename_i hd e1
      injection h with h
      obtain ⟨rfl, rfl⟩ := Prod.mk.inj h
      rw [e1] at hx
      simp only [VR] at hx
      obtain ⟨L, A, c, _, _, h7, h8, hx⟩ := hx
      unfold nilV
      split
      · exact key2 _ _ _ _ _ _ _ hx hd (.inl rfl)
      · rename_i hn
        rcases h8 with h8 | rfl
        · omega
        · exact key _ _ _ _ _ _ _ _ hx hd (.inl ⟨rfl, rfl⟩)
    · rename_i hd e1
      injection h with h
      obtain ⟨rfl, rfl⟩ := Prod.mk.inj h
      rw [e1] at hx
      simp only [VR] at hx
      obtain ⟨L, A, c, _, _, h7, h8, hx⟩ := hx
      unfold nilV
      split
      · exact key2 _ _ _ _ _ _ _ hx hd (.inr rfl)
      · rename_i hn
        rcases h8 with h8 | rfl
        · omega
        · exact key _ _ _ _ _ _ _ _ hx hd (.inr ⟨rfl, rfl⟩)
    · cases h
  · cases h
theorem opS_builtin (hr : HR I m H w) {g : List AV} {a : Act} (hg : VRs I m w g a.tmps.toList) {o : Oper} {b : Builtin} {args : Array Operand} {ats : Array TypeId} (ho : o.op = .call { callee := .builtin b, args := args, argTypes := ats }) {v : AV} {H' : List AO}
    (h : abuiltin P H b ats (args.toList.map (ev g)) = some (v, H')) : OpS P I m H w o a v H' := by
  have hv := evs_arr hg args
  have e0 : execOp a.eval o = invoke (.builtin b ats o.type (args.map fun | .const _ => true | _ => false)) (args.map a.eval) := by simp [execOp, ho, resolve]; rfl
  generalize hA : args.toList.map (ev g) = A at *
  generalize hX : args.map a.eval = X at *
  unfold abuiltin at h
  split at h
  · rename_i x
    simp only [VRs] at hv
    obtain ⟨y, zs, hX2, hy, rfl⟩ := hv
    obtain rfl : X = #[y] := by cases X; simp_all
    split at h
    case h_2 => cases h
    rename_i t ht
    split at h
    · rename_i e q1 q2 q3 hd
      have hlen : ∀ A n c, y = .slice A n c → (execOp a.eval o).run P w = .ok (.value (.int .i64 n)) w := fun A n c hy => by
        subst hy
        rw [e0]
        simp [invoke, builtin, Builtin.len_, ht, run_underlying' hd, goInt]
      split at h <;> first | (cases h; done) | (injection h with h; obtain ⟨rfl, rfl⟩ := Prod.mk.inj h)
      · simp only [VR] at hy; obtain ⟨A, c, hy, _⟩ := hy; exact OpS.of_value hr (by simp only [VR]) (hlen _ _ _ hy)
      · simp only [VR] at hy; obtain ⟨L, A, c, _, _, _, _, hy⟩ := hy; exact OpS.of_value hr (by simp only [VR]) (hlen _ _ _ hy)
      · simp only [VR] at hy; obtain ⟨A, hy⟩ := hy; exact OpS.of_value hr (by simp only [VR]; rfl) (hlen _ _ _ hy)
      · simp only [VR] at hy; exact OpS.of_value hr (by simp only [VR]) (hlen _ _ _ hy)
    · rename_i q1 q2 q3 hd
      split at h <;> first | (cases h; done) | (injection h with h; obtain ⟨rfl, rfl⟩ := Prod.mk.inj h)
      rename_i s
      simp only [VR] at hy
      subst hy
      refine OpS.of_value hr (y := .int .i64 s.size) (by simp only [VR]) ?_
      rw [e0]
      simp [invoke, builtin, Builtin.len_, ht, run_underlying' hd, goInt]
    · cases h
  · rename_i k p k' q
    injection h with h; obtain ⟨rfl, rfl⟩ := Prod.mk.inj h
    simp only [VRs, VR] at hv
    obtain ⟨y, zs, hX2, rfl, y2, zs2, rfl, rfl, rfl⟩ := hv
    obtain rfl : X = #[.int k p, .int k' q] := by cases X; simp_all
    refine OpS.of_value hr (y := .int k (if q < p then q else p)) (by simp only [VR]) ?_
    rw [e0]
    simp [invoke, builtin, Builtin.min_, Builtin.min2]
  · rename_i k p k' q
    injection h with h; obtain ⟨rfl, rfl⟩ := Prod.mk.inj h
    simp only [VRs, VR] at hv
    obtain ⟨y, zs, hX2, rfl, y2, zs2, rfl, rfl, rfl⟩ := hv
    obtain rfl : X = #[.int k p, .int k' q] := by cases X; simp_all
    refine OpS.of_value hr (y := .int k (if p < q then q else p)) (by simp only [VR]) ?_
    rw [e0]
    simp [invoke, builtin, Builtin.max_, Builtin.max2]
  · rename_i s x
    split at h
    case h_2 => cases h
    rename_i t u ht hu
    simp only [VRs] at hv
    obtain ⟨y, zs, hX2, hy, y2, zs2, rfl, hy2, rfl⟩ := hv
    obtain rfl : X = #[y, y2] := by cases X; simp_all
    have hk := aappend_ok (P := P) (ty := o.type) hr h hy hy2
    obtain ⟨r, w', m', h1, h2, h3, h4⟩ := hk
    refine ⟨r, w', m', .inl ?_, h2, h3, h4⟩
    have hats : Builtin.append_ ats o.type #[y, y2] = Builtin.append_ #[t, u] o.type #[y, y2] := by
      unfold Builtin.append_
      simp [ht, hu]
    rw [e0]
    simp only [invoke, builtin, Sem.run_bind, hats, h1, Result.andThen_ok, Sem.run_pure]
  · rename_i x
    simp only [VRs] at hv
    obtain ⟨y, zs, hX2, hy, rfl⟩ := hv
    obtain rfl : X = #[y] := by cases X; simp_all
    split at h
    case h_2 => cases h
    rename_i t ht
    split at h
    case h_2 => cases h
    rename_i e q1 q2 q3 hd
    split at h
    case h_2 => cases h
    rename_i te id off n hte
    split at h
    case h_2 => cases h
    rename_i sz cs hid
    split at h
    case isFalse => cases h
    rename_i hc
    injection h with h; obtain ⟨rfl, rfl⟩ := Prod.mk.inj h
    simp only [VR] at hy
    obtain ⟨L, A, c, hm, h7, h8, h9, rfl⟩ := hy
    replace hm := (lk_get hm).1
    have hz := ti_zero_len hte
    have hone : ((List.replicate n (te.zero.map AV.v)).flatten).all (·.one) = true := List.all_eq_true.2 fun c hc => by
      obtain ⟨l, hl, hx⟩ := List.mem_flatten.1 hc
      rw [(List.mem_replicate.1 hl).2] at hx
      exact List.all_eq_true.1 (map_v_one (ti_zero_one hte)) c hx
    have hnl : ((List.replicate n (te.zero.map AV.v)).flatten).length = n * te.size := by simp [hz]
    by_cases hn : n = 0
    · subst hn
      have hcs : setRange cs off ((List.replicate 0 (te.zero.map AV.v)).flatten) = cs := by simp [setRange]
      rw [hcs, set_self hid]
      refine ⟨.tuple #[], w, m, .inl ?_, by simp only [VR, VRs]; exact ⟨_, rfl, rfl⟩, by simpa using hr, Ext.refl _ _ _ _⟩
      rw [e0]
      cases A <;> simp [invoke, builtin, Builtin.clear_, ht, run_underlying' hd]
    · obtain ⟨hsz, hlen, hob⟩ := hr.ob id _ L hid hm
      have hc0 : c ≠ 0 := by omega
      have hA := h9.resolve_left hc0
      subst hA
      have hp : 0 < n * te.size := Nat.mul_pos (by omega) (by omega)
      have hL0 : L.cap ≠ 0 := by omega
      obtain ⟨zv, hz1, hz2, hz3⟩ := run_zeroValue' (w := w) hte
      have hzo := zeros_ok zv.cells (by omega) n
      rw [hz2] at hzo
      obtain ⟨w', g1, g2, g3⟩ := rowSet_ok (P := P) hr hid hm hL0 (VRs.flatten_v n te.zero) hone (by rw [hnl]; exact hc.2)
      refine ⟨.tuple #[], w', m, .inl ?_, by simp only [VR, VRs]; exact ⟨_, rfl, rfl⟩, g2, g3⟩
      rw [e0]
      simp only [invoke, builtin, Builtin.clear_, ht]
      simp only [Sem.run_bind, run_underlying' hd, Result.andThen_ok, hz1]
      replace hzo : (Builtin.zeroCells zv.cells n).toList = (List.replicate n te.zero).flatten := hzo
      cases n with
      | zero => contradiction
      | succ n =>
        simp [run_underlying' hd, hz1, hzo, g1]
  · cases h
theorem op_sound (hr : HR I m H w) {g : List AV} {a : Act} (hg : VRs I m w g a.tmps.toList) {o : Oper} {v : AV} {H' : List AO} (h : aop P g H o.op = some (v, H')) : OpS P I m H w o a v H' := by
  cases hop : o.op with
  | move x =>
    rw [hop] at h; simp only [aop] at h
    injection h with h; obtain ⟨rfl, rfl⟩ := Prod.mk.inj h
    exact OpS.of_value hr (VR.ev hg x) (by simp [execOp, hop])
  | assign x =>
    rw [hop] at h; simp only [aop] at h
    injection h with h; obtain ⟨rfl, rfl⟩ := Prod.mk.inj h
    exact OpS.of_value hr (VR.ev hg x) (by simp [execOp, hop])
  | pick c x y =>
    rw [hop] at h; simp only [aop] at h
    split at h
    · rename_i t hc
      injection h with h; obtain ⟨rfl, rfl⟩ := Prod.mk.inj h
      have h1 := VR.ev hg c
      rw [hc] at h1; simp only [VR] at h1
      refine OpS.of_value hr (y := if t then a.eval x else a.eval y) ?_ (by simp [execOp, hop, h1, asBool])
      cases t
      · exact VR.ev hg y
      · exact VR.ev hg x
    · cases h
  | extract t i =>
    rw [hop] at h; simp only [aop] at h
    split at h
    · rename_i vs ht
      cases hv : vs[i]? with
      | none => rw [hv] at h; simp at h
      | some v' =>
        rw [hv] at h; simp only [Option.map_some] at h
        injection h with h; obtain ⟨rfl, rfl⟩ := Prod.mk.inj h
        have h1 := VR.ev hg t
        rw [ht] at h1; simp only [VR] at h1
        obtain ⟨xs, hx, hxs⟩ := h1
        obtain ⟨y, hy, hvy⟩ := hxs.get i _ hv
        have hy' : xs[i]? = some y := by simpa using hy
        exact OpS.of_value hr hvy (by simp [execOp, hop, hx, Instr.extract, hy'])
    · cases h
  | field t x f =>
    rw [hop] at h; simp only [aop] at h
    split at h
    · rename_i fs q1 q2 q3 hd
      split at h
      · rename_i fd cs hf hx
        cases hp : apart P fd.type cs fd.offset with
        | none => rw [hp] at h; simp at h
        | some v' =>
          rw [hp] at h; simp only [Option.map_some] at h
          injection h with h; obtain ⟨rfl, rfl⟩ := Prod.mk.inj h
          have h1 := VR.ev hg x
          rw [hx] at h1; simp only [VR] at h1
          obtain ⟨xs, hx1, hxs⟩ := h1
          obtain ⟨y, hy, hvy⟩ := run_part' (P := P) hp hxs
          exact OpS.of_value hr hvy (by simp [execOp, hop, hx1, Instr.field, run_underlying' hd, hf, asAgg, hy])
      · cases h
    · cases h
  | load t x =>
    rw [hop] at h; simp only [aop] at h
    split at h
    · rename_i cs off hc
      cases hp : apart P t cs off with
      | none => rw [hp] at h; simp at h
      | some v' =>
        rw [hp] at h; simp only [Option.map_some] at h
        injection h with h; obtain ⟨rfl, rfl⟩ := Prod.mk.inj h
        obtain ⟨b, q, hx, hcs⟩ := acells_spec hr hc (VR.ev hg x)
        obtain ⟨y, hy, hvy⟩ := run_loadVar' (P := P) hp b q hcs
        exact OpS.of_value hr hvy (by simp [execOp, hop, hx, Instr.loadAt, Instr.sureAddr, hy])
    · cases h
  | store t x y =>
    rw [hop] at h; simp only [aop] at h
    split at h
    case h_2 => cases h
    rename_i id off hx
    split at h
    case h_2 => cases h
    rename_i sz cs hid
    split at h
    case h_2 => cases h
    rename_i i hi
    split at h
    case isFalse => cases h
    rename_i hc
    injection h with h; obtain ⟨rfl, rfl⟩ := Prod.mk.inj h
    have h1 := VR.ev hg x
    rw [hx] at h1
    obtain ⟨w', h2, h3, h4⟩ := store_ok (P := P) hr hi hid h1 (VR.ev hg y) hc.1 hc.2.1 hc.2.2
    exact ⟨undef, w', m, .inr ⟨by simp [execOp, hop, h2], rfl⟩, by simp only [VR], h3, h4⟩
  | box t x =>
    rw [hop] at h; simp only [aop] at h
    split at h
    case isFalse => cases h
    rename_i hc
    injection h with h; obtain ⟨rfl, rfl⟩ := Prod.mk.inj h
    exact OpS.of_sok (SOK.box hr t (VR.ev hg x) hc) (by simp [execOp, hop])
  | alloc t =>
    rw [hop] at h; simp only [aop] at h
    split at h
    case h_2 => cases h
    rename_i i hi
    injection h with h; obtain ⟨rfl, rfl⟩ := Prod.mk.inj h
    exact OpS.of_sok (SOK.alloc hr hi) (by simp [execOp, hop])
  | build t parts =>
    rw [hop] at h; simp only [aop] at h
    obtain ⟨hp1, hp2⟩ := parts_ok hg parts
    split at h
    · rename_i fs q1 q2 z hd
      split at h
      case isFalse => cases h
      rename_i hfs
      cases hf : afill (fieldPlaces P fs) (z.map .v) (parts.toList.map fun p => (p.1, ev g p.2)) with
      | none => rw [hf] at h; simp at h
      | some cs =>
        rw [hf] at h; simp only [Option.map_some] at h
        injection h with h; obtain ⟨rfl, rfl⟩ := Prod.mk.inj h
        exact OpS.of_sok (SOK.build_struct hr hd hfs hf hp1 hp2) (by simp [execOp, hop])
    · rename_i n e q1 q2 z hd
      split at h
      case h_2 => cases h
      rename_i te he
      cases hf : afill (fun i => some (i * te.size, te.size)) (z.map .v) (parts.toList.map fun p => (p.1, ev g p.2)) with
      | none => rw [hf] at h; simp at h
      | some cs =>
        rw [hf] at h; simp only [Option.map_some] at h
        injection h with h; obtain ⟨rfl, rfl⟩ := Prod.mk.inj h
        exact OpS.of_sok (SOK.build_array hr hd he hf hp1 hp2) (by simp [execOp, hop])
    · cases h
  | buildSlice t len parts =>
    rw [hop] at h; simp only [aop] at h
    obtain ⟨hp1, hp2⟩ := parts_ok hg parts
    split at h
    case h_2 => cases h
    rename_i e q1 q2 z hd
    split at h
    case h_2 => cases h
    rename_i te he
    split at h
    case isFalse => cases h
    rename_i hc
    split at h
    case h_2 => cases h
    rename_i cs hf
    split at h
    case isFalse => cases h
    rename_i hone
    injection h with h; obtain ⟨rfl, rfl⟩ := Prod.mk.inj h
    exact OpS.of_sok (SOK.buildSlice hr hd rfl he hc.1 hc.2 hf hp1 hp2 hone) (by simp [execOp, hop])
  | makeSlice t l c =>
    rw [hop] at h; simp only [aop] at h
    split at h
    case h_2 => cases h
    rename_i e q1 q2 z hd
    split at h
    case h_2 => cases h
    rename_i te he
    split at h
    case h_2 => cases h
    rename_i k n k' n' e1 e2
    split at h
    case isFalse => cases h
    rename_i hc
    obtain ⟨rfl, h0, hb, hn, hs⟩ := hc
    injection h with h; obtain ⟨rfl, rfl⟩ := Prod.mk.inj h
    have h1 := VR.ev hg l
    have h2 := VR.ev hg c
    rw [e1] at h1; rw [e2] at h2
    simp only [VR] at h1 h2
    exact OpS.of_sok (SOK.makeSlice (k := k) (k' := k') hr hd rfl he h0 hb hn hs) (by simp [execOp, hop, h1, h2])
  | slice t x lo hi mx =>
    rw [hop] at h; simp only [aop] at h
    cases hp : aslice P H t (ev g x) (lo.map (ev g)) (hi.map (ev g)) (mx.map (ev g)) with
    | none => rw [hp] at h; simp at h
    | some v' =>
      rw [hp] at h; simp only [Option.map_some] at h
      injection h with h; obtain ⟨rfl, rfl⟩ := Prod.mk.inj h
      obtain ⟨z, hz, hvz⟩ := aslice_ok (P := P) hr hp (VR.ev hg x) (opt_ok hg lo).1 (opt_ok hg lo).2 (opt_ok hg hi).1 (opt_ok hg hi).2 (opt_ok hg mx).1 (opt_ok hg mx).2
      exact OpS.of_value hr hvz (by simp [execOp, hop, hz])
  | fieldAddr t x f =>
    rw [hop] at h; simp only [aop] at h
    split at h
    case h_2 => cases h
    rename_i fs q1 q2 q3 hd
    split at h
    case h_2 => cases h
    rename_i fd hf
    split at h
    case h_2 => cases h
    rename_i tf htf
    split at h
    · cases h
    rename_i hs
    have h1 := VR.ev hg x
    split at h
    · rename_i id off hx
      injection h with h; obtain ⟨rfl, rfl⟩ := Prod.mk.inj h
      rw [hx] at h1; simp only [VR] at h1
      obtain ⟨L, hm, he⟩ := h1
      exact OpS.of_value hr (y := .pointer (some ⟨L.b, L.o + off + fd.offset, none⟩)) (by simp only [VR]; exact ⟨L, hm, by congr 3; omega⟩) (by simp [execOp, hop, he, Instr.fieldAt, run_underlying' hd, hf, Instr.sureAddr, run_fieldPlace htf hs])
    · rename_i cs hx
      split at h
      · rename_i hlt
        injection h with h; obtain ⟨rfl, rfl⟩ := Prod.mk.inj h
        rw [hx] at h1; simp only [VR] at h1
        obtain ⟨b, q, he, hb, hcs⟩ := h1
        exact OpS.of_value hr (y := .pointer (some ⟨b, q + fd.offset, none⟩)) (by simp only [VR]; exact ⟨b, _, rfl, hb, hcs.drop _⟩) (by simp [execOp, hop, he, Instr.fieldAt, run_underlying' hd, hf, Instr.sureAddr, run_fieldPlace htf hs])
      · cases h
    · cases h
  | indexAddr t x i =>
    rw [hop] at h; simp only [aop] at h
    split at h
    · rename_i k n hi
      cases hp : aindexAddr P t (ev g x) n with
      | none => rw [hp] at h; simp at h
      | some v' =>
        rw [hp] at h; simp only [Option.map_some] at h
        injection h with h; obtain ⟨rfl, rfl⟩ := Prod.mk.inj h
        have h1 := VR.ev hg i
        rw [hi] at h1; simp only [VR] at h1
        obtain ⟨z, hz, hvz⟩ := aindexAddr_ok (k := k) hp (VR.ev hg x)
        exact OpS.of_value hr hvz (by simp [execOp, hop, h1, hz])
    · cases h
  | index t x i =>
    rw [hop] at h; simp only [aop] at h
    have h1 := VR.ev hg x
    have h2 := VR.ev hg i
    split at h
    · rename_i q1 q2 q3 s k n hd hx hi
      split at h
      · rename_i h0
        cases hb : s[n.toNat]? with
        | none => rw [hb] at h; simp at h
        | some b =>
          rw [hb] at h; simp only [Option.map_some] at h
          injection h with h; obtain ⟨rfl, rfl⟩ := Prod.mk.inj h
          rw [hx] at h1; rw [hi] at h2; simp only [VR] at h1 h2
          exact OpS.of_value hr (y := .int .u8 b.toNat) (by simp only [VR]) (by simp [execOp, hop, h1, h2, Instr.index, asIntOf, run_underlying' hd, h0, hb])
      · cases h
    · rename_i len e q1 q2 q3 cs k n hd hx hi
      split at h
      · rename_i te he
        split at h
        · rename_i hc
          cases hp : apart P e cs (n.toNat * te.size) with
          | none => rw [hp] at h; simp at h
          | some v' =>
            rw [hp] at h; simp only [Option.map_some] at h
            injection h with h; obtain ⟨rfl, rfl⟩ := Prod.mk.inj h
            rw [hx] at h1; rw [hi] at h2; simp only [VR] at h1 h2
            obtain ⟨xs, hx1, hxs⟩ := h1
            obtain ⟨y, hy, hvy⟩ := run_part' (P := P) hp hxs
            exact OpS.of_value hr hvy (by simp [execOp, hop, hx1, h2, Instr.index, asIntOf, run_underlying' hd, hc, run_sizeOf' he, hy])
        · cases h
      · cases h
    · cases h
  | nilCheck x =>
    rw [hop] at h; simp only [aop] at h
    have h1 := VR.ev hg x
    split at h
    · rename_i id off hx
      injection h with h; obtain ⟨rfl, rfl⟩ := Prod.mk.inj h
      rw [hx] at h1
      refine OpS.of_value hr h1 ?_
      simp only [VR] at h1
      obtain ⟨L, _, he⟩ := h1
      simp [execOp, hop, he]
    · rename_i cs hx
      injection h with h; obtain ⟨rfl, rfl⟩ := Prod.mk.inj h
      rw [hx] at h1
      refine OpS.of_value hr h1 ?_
      simp only [VR] at h1
      obtain ⟨b, q, he, _⟩ := h1
      simp [execOp, hop, he]
    · rename_i f xs ys hx
      injection h with h; obtain ⟨rfl, rfl⟩ := Prod.mk.inj h
      rw [hx] at h1
      refine OpS.of_value hr h1 ?_
      simp only [VR] at h1
      obtain ⟨b, q, he, _⟩ := h1
      simp [execOp, hop, he]
    · cases h
  | unOp op t x =>
    rw [hop] at h; simp only [aop] at h
    have h1 := VR.ev hg x
    split at h
    · rename_i y hx
      cases hp : aun op y with
      | none => rw [hp] at h; simp at h
      | some r =>
        rw [hp] at h; simp only [Option.map_some] at h
        injection h with h; obtain ⟨rfl, rfl⟩ := Prod.mk.inj h
        rw [hx] at h1; simp only [VR] at h1
        exact OpS.of_value hr (y := r) (by simp only [VR]) (by simp [execOp, hop, h1, aun_ok hp])
    · rename_i hx
      split at h
      · injection h with h; obtain ⟨rfl, rfl⟩ := Prod.mk.inj h
        rw [hx] at h1; simp only [VR] at h1
        obtain ⟨b, h1⟩ := h1
        exact OpS.of_value hr (y := .bool !b) (by simp only [VR]; exact ⟨_, rfl⟩) (by simp [execOp, hop, h1, aun_ok (show aun .not (.bool b) = some (.bool !b) from rfl)])
      · cases h
    · cases h
  | binOp op t x y t2 => exact opS_binOp hr hg hop h
  | convert s d x => exact opS_convert hr hg hop h
  | makeFunc f xs ys =>
    rw [hop] at h; simp only [aop] at h
    injection h with h; obtain ⟨rfl, rfl⟩ := Prod.mk.inj h
    exact OpS.of_value hr (y := .func f (xs.map a.eval) (ys.map a.eval)) (by simp only [VR]; exact ⟨_, _, rfl, evs_arr hg xs, evs_arr hg ys⟩) (by simp [execOp, hop, Instr.makeFunc])
  | call c =>
    rw [hop] at h
    obtain ⟨callee, args, ats⟩ := c
    cases callee with
    | builtin b => simp only [aop] at h; exact opS_builtin hr hg hop h
    | value f => simp only [aop] at h; cases h
    | invoke r n => simp only [aop] at h; cases h
  | _ => rw [hop] at h; simp only [aop] at h; cases h
end
end Go.Abs
