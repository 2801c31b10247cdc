/- Part 23 of the texts that lead to stropheStanzasCard_holds. No condition. -/
import Derived.RangeFuncRecord
import Derived.Test.YteoeioodocjbiaaGreatDoorH22
set_option linter.unusedSimpArgs false
set_option linter.unusedVariables false
set_option linter.unnecessarySimpa false
namespace Go.Abs
open Go
section
variable {I I' : Nat → Prop} {m m' : List Loc} {H H' : List AO} {w w' : World}
theorem HR.aside (hr : HR I m H w) (hs : w.heap.size ≤ w'.heap.size) (hw : ∀ b, b < w.heap.size → (Own H m b ∨ I b) → w'.heap[b]? = w.heap[b]?) : HR I m H w' where
  len := hr.len
  ob := fun id o L h1 h2 => by
    have := OR.mono (nu := []) (I' := I) (w' := w') (fun _ h => h) (fun b hb => hw b (hr.ilt b hb) (.inr hb)) (fun ha hc => hw _ (hr.lt h1 ha h2 hc) (.inl ⟨id, o, L, h1, ha, h2, hc, rfl⟩)) (hr.ob id o L h1 h2)
    simpa using this
  inj := hr.inj
  imm := hr.imm
  ilt := fun b hb => Nat.lt_of_lt_of_le (hr.ilt b hb) hs
  gl := hr.gl.on (fun _ h => h) fun b hb => hw b (hr.ilt b hb) (.inr hb)
theorem VRs.aside (hr : HR I m H w) (hw : ∀ b, b < w.heap.size → (Own H m b ∨ I b) → w'.heap[b]? = w.heap[b]?) {cs : List AV} {xs : List Value} (k : VRs I m w cs xs) : VRs I m w' cs xs := by
  have := VRs.mono (nu := []) (I' := I) (w' := w') (fun _ h => h) (fun b hb => hw b (hr.ilt b hb) (.inr hb)) cs xs k
  simpa using this
structure At (l : Nat) (o : Obj) (I : Nat → Prop) (m : List Loc) (H : List AO) (w : World) : Prop where
  heap : w.heap[l]? = some o
  own : ¬ Own H m l
  imm : ¬ I l
theorem At.ex {l : Nat} {o : Obj} (h : At l o I m H w) (k : Ex I (Own H m) w I' (Own H' m') w') : At l o I' m' H' w' where
  heap := by rw [k.blk l (lt_of_heap h.heap) h.own]; exact h.heap
  own := fun q => (k.ow l q).elim h.own fun q => by have := lt_of_heap h.heap; omega
  imm := fun q => (k.inew l q).elim h.imm fun q => q.elim h.own fun q => by have := lt_of_heap h.heap; omega
theorem put_other {w : World} {l : Nat} {o : Obj} {b : Nat} (h : b ≠ l) : (w.putObj l o).heap[b]? = w.heap[b]? := World.putObj_heap_other h
theorem At.turn {l : Nat} {o : Obj} (h : At l o I m H w) (hr : HR I m H w) (o' : Obj) : HR I m H (w.putObj l o') ∧ At l o' I m H (w.putObj l o') ∧ ∀ {cs : List AV} {xs : List Value}, VRs I m w cs xs → VRs I m (w.putObj l o') cs xs := by
  have hl := lt_of_heap h.heap
  have ne : ∀ b, b < w.heap.size → (Own H m b ∨ I b) → (w.putObj l o').heap[b]? = w.heap[b]? := fun b _ q => put_other fun e => by
    subst e; exact q.elim h.own h.imm
  exact ⟨hr.aside (by simp) ne, ⟨World.putObj_heap_same hl, h.own, h.imm⟩, fun k => VRs.aside hr ne k⟩
end
structure Lp (l : Nat) (rec : Loop) (g0 : List AV) (I : Nat → Prop) (m : List Loc) (H : List AO) (w : World) : Prop where
  at' : At l (.loop rec) I m H w
  tmps : VRs I m w g0 rec.tmps.toList
theorem Lp.ext {l : Nat} {rec : Loop} {g0 : List AV} {I I' : Nat → Prop} {m m' : List Loc} {H H' : List AO} {w w' : World} (hr : HR I m H w) (h : Lp l rec g0 I m H w) (k : Ext I m (Own H m) w I' m' (Own H' m') w') : Lp l rec g0 I' m' H' w' :=
  ⟨h.at'.ex k.ex, Ext.vrs hr k h.tmps⟩
def YW (P : Program) (l : Nat) (rec : Loop) (g0 : List AV) (c : Code) (Q : Exit → List AV → List AO → Prop) (g : List AV) (H : List AO) : Prop :=
  ∀ (I : Nat → Prop) (m : List Loc) (a : Act) (w : World) (n : Nat), HR I m H w → VRs I m w g a.tmps.toList → a.defers = [] → Lp l rec g0 I m H w →
    c.wpIn (fR none) n P (fun e a' w' => ∃ g' H' I' m', Q e g' H' ∧ HR I' m' H' w' ∧ VRs I' m' w' g' a'.tmps.toList ∧ a'.defers = [] ∧ Ext I m (Own H m) w I' m' (Own H' m') w') a w
def RdC (P : Program) (l : Nat) (rec : Loop) (g0 : List AV) (args : List AV) (H H' : List AO) : Prop :=
  ∀ (I : Nat → Prop) (m : List Loc) (w : World) (xs : Array Value) (n : Nat), HR I m H w → VRs I m w args xs.toList → Lp l rec g0 I m H w →
    xs.size = rec.params.size ∧ RoundIn (fR none) n P l rec.fn ((rec.params.zip xs).foldl (fun t (p, v) => t.setIfInBounds p v) rec.tmps) rec.assign rec.body w
      (fun e w' => e = .returned (.bool true) ∧ ∃ I' m', HR I' m' H' w' ∧ Ext I m (Own H m) w I' m' (Own H' m') w')
section
variable {P : Program} {l : Nat} {rec : Loop} {g0 : List AV} {Q Q' : Exit → List AV → List AO → Prop} {g : List AV} {H : List AO}
theorem YW.of_AW {c : Code} (h : @AW noDefers P c Q g H) : YW P l rec g0 c Q g H := fun I m a w n h1 h2 h3 _ => h I m a w h1 h2 h3 none n
theorem YW_seq {x y : Code} (h : YW P l rec g0 x (thenA (YW P l rec g0 y Q) Q) g H) : YW P l rec g0 (.seq x y) Q g H := by
  intro I m a w n h1 h2 h3 h4
  refine wpIn_seq (wpIn_mono (h I m a w n h1 h2 h3 h4) ?_)
  rintro e a' w' ⟨g', H', I', m', k4, k5, k6, k7, k8⟩
  cases e with
  | normal =>
    refine wpIn_mono (k4 I' m' a' w' n k5 k6 k7 (h4.ext h1 k8)) ?_
    rintro e a2 w2 ⟨g2, H2, I2, m2, q1, q2, q3, q4, q5⟩
    exact ⟨g2, H2, I2, m2, q1, q2, q3, q4, k8.trans q5⟩
  | _ => exact ⟨g', H', I', m', k4, k5, k6, k7, k8⟩
theorem YW_cond {c : Operand} {x y : Code} {t : Bool} (hc : ev g c = .v (.bool t)) (h : YW P l rec g0 (if t then x else y) Q g H) : YW P l rec g0 (.cond c x y) Q g H := by
  intro I m a w n h1 h2 h3 h4
  have hv := VR.ev h2 c
  rw [hc] at hv
  simp only [VR] at hv
  exact wpIn_cond hv (h I m a w n h1 h2 h3 h4)
theorem YW_block {id : Nat} {c : Code} (h : YW P l rec g0 c (blockA id Q) g H) : YW P l rec g0 (.block id c) Q g H := by
  intro I m a w n h1 h2 h3 h4
  refine wpIn_block (wpIn_mono (h I m a w n h1 h2 h3 h4) ?_)
  rintro e a' w' ⟨g', H', I', m', k4, k5⟩
  cases e with
  | exit id' =>
    simp only [blockA] at k4
    simp only [Exit.inBlock]
    split at k4
    · rename_i hid; rw [if_pos hid]; exact ⟨g', H', I', m', k4, k5⟩
    · rename_i hid; rw [if_neg hid]; exact ⟨g', H', I', m', k4, k5⟩
  | _ => exact ⟨g', H', I', m', k4, k5⟩
theorem YW_loop {c : Code} (J : Nat → List AV → List AO → Prop) (k : Nat) (h0 : J k g H) (round : ∀ k g H, J k g H → YW P l rec g0 c (thenA (fun g' H' => ∃ k', k' < k ∧ J k' g' H') Q) g H) : YW P l rec g0 (.loop c) Q g H := by
  intro I m a w n h1 h2 h3 h4
  let Inv : Nat → Act → World → Prop := fun k a' w' => ∃ g' H' I' m', J k g' H' ∧ HR I' m' H' w' ∧ VRs I' m' w' g' a'.tmps.toList ∧ a'.defers = [] ∧ Ext I m (Own H m) w I' m' (Own H' m') w'
  refine wpIn_loop (fun a w => ∃ k, Inv k a w) (fun a w => leastOf fun k => Inv k a w) ⟨k, g, H, I, m, h0, h1, h2, h3, Ext.refl _ _ _ _⟩ fun a1 w1 hI => ?_
  obtain ⟨g1, H1, I1, m1, j1, j2, j3, j4, j5⟩ := (leastOf_spec hI).1
  refine wpIn_mono (round _ g1 H1 j1 I1 m1 a1 w1 n j2 j3 j4 (h4.ext h1 j5)) ?_
  rintro e a2 w2 ⟨g2, H2, I2, m2, k1, k2, k3, k4, k5⟩
  cases e with
  | normal =>
    obtain ⟨k', hlt, hj⟩ := k1
    have hi : Inv k' a2 w2 := ⟨g2, H2, I2, m2, hj, k2, k3, k4, j5.trans k5⟩
    exact ⟨⟨k', hi⟩, Nat.lt_of_le_of_lt ((leastOf_spec ⟨k', hi⟩).2 k' hi) hlt⟩
  | _ => exact ⟨g2, H2, I2, m2, k1, k2, k3, k4, j5.trans k5⟩
theorem aops_more {ops : Array Oper} {K : List AV → List AO → Prop} {Q : Exit → Act → World → Prop} {n : Nat} {rest : List Nat} : ∀ (os : List Oper) (k : Nat), (∀ j, j < os.length → os[j]? = ops[k + j]?) → ∀ {I : Nat → Prop} {m : List Loc} {H : List AO} {w : World} {g : List AV} {a : Act},
    HR I m H w → VRs I m w g a.tmps.toList → a.defers = [] → (∀ a' w', @Post noDefers P I m H w K a' w' → wpOpsIn (fR none) n P ops Q rest a' w') → AOps P ops K os g H → wpOpsIn (fR none) n P ops Q (List.range' k os.length ++ rest) a w
  | [], k, _, I, m, H, w, g, a, hr, hg, hd, hq, h => by
    simp only [List.length_nil, List.range'_zero, List.nil_append]
    exact hq a w ⟨g, H, I, m, h, hr, hg, hd, Ext.refl _ _ _ _⟩
  | o :: os, k, hl, I, m, H, w, g, a, hr, hg, hd, hq, h => by
    have h0 : ops[k]? = some o := by simpa using (hl 0 (by simp)).symm
    simp only [List.length_cons, List.range'_succ, List.cons_append, wpOpsIn_cons]
    refine wpOpIn_mono ?_ (wpOp_in (@aop_step P noDefers I m H w ops o k g a _ Q hr hg hd h0 h) none n)
    rintro a' w' ⟨g', H', I', m', h1, h2, h3, h4, h5⟩
    exact aops_more os (k + 1) (fun j hj => by have := hl (j + 1) (by simp; omega); simpa [Nat.add_assoc, Nat.add_comm 1 j] using this) h2 h3 h4 (fun a2 w2 hp => hq a2 w2 (@Post.trans P noDefers _ _ _ _ _ _ _ _ _ _ _ h5 hp)) h1
end
end Go.Abs
namespace Go.Abs
open Go
section
variable {P : Program} {l : Nat} {rec : Loop} {g0 : List AV} {Q : Exit → List AV → List AO → Prop} {g : List AV} {H : List AO}
theorem YW_region_y {id : Nat} {ops : Array Oper} (pre post : List Oper) (y : Oper) (f : Operand) (args : Array Operand) (ats : Array TypeId) (hops : ops.toList = pre ++ y :: post) (hy : y.op = .call ⟨.value f, args, ats⟩) (hgd : y.guard = none)
    (h : AOps P ops (fun g1 H1 => ev g1 f = .fn (.yield l) [] [] ∧ ∃ H2, RdC P l rec g0 (args.toList.map (ev g1)) H1 H2 ∧ AOps P ops (Q .normal) post (put g1 y.dst (.v (.bool true))) H2) pre g H) : YW P l rec g0 (.region id ops false) Q g H := by
  intro I m a w n hr hg hd hl
  have hsz : ops.size = pre.length + (1 + post.length) := by
    have := congrArg List.length hops
    simp only [Array.length_toList, List.length_append, List.length_cons] at this
    omega
  have hget : ∀ j, ops[j]? = (pre ++ y :: post)[j]? := fun j => by rw [← hops, Array.getElem?_toList]
  refine wpIn_region ?_
  have hrange : List.range ops.size = List.range' 0 pre.length ++ (pre.length :: List.range' (pre.length + 1) post.length) := by
    rw [List.range_eq_range', hsz, List.range'_append_1 .. |>.symm]
    congr 1
    rw [Nat.add_comm 1 post.length, List.range'_succ]
    simp
  rw [hrange]
  refine aops_more pre 0 (fun j hj => by rw [hget, Nat.zero_add, List.getElem?_append_left hj]) hr hg hd ?_ h
  rintro a1 w1 ⟨g1, H1, I1, m1, ⟨hf, H2, hrd, hpost⟩, k2, k3, k4, k5⟩
  rw [wpOpsIn_cons]
  unfold wpOpIn
  have hyo : ops[pre.length]? = some y := by rw [hget]; simp
  simp only [hyo]
  rw [if_pos (by unfold Region.wanted; rw [hgd])]
  refine ⟨fun _ _ => trivial, ?_⟩
  rw [Oper.semAt_eq _ _ _ (fun c e => by rw [hy] at e; cases e)]
  have hfv := VR.ev k3 f
  rw [hf] at hfv
  simp only [VR] at hfv
  obtain ⟨xs, ys, he, hxs, hys⟩ := hfv
  simp only [VRs] at hxs hys
  obtain rfl : xs = #[] := by simpa using hxs
  obtain rfl : ys = #[] := by simpa using hys
  have hargs := evs_arr k3 args
  have hl1 := hl.ext hr k5
  obtain ⟨hs, hround⟩ := hrd I1 m1 w1 (args.map a1.eval) (n - 1) k2 hargs hl1
  have e0 : (execOp a1.eval y).run P w1 = .ok (.round l rec.fn ((rec.params.zip (args.map a1.eval)).foldl (fun tmps (t, x) => tmps.setIfInBounds t x) rec.tmps) rec.assign rec.body) w1 := by
    have := run_yield (P := P) hl1.at'.heap hs
    rw [← this]
    simp [execOp, hy, resolve, he, Deferred.ofValue, invoke]
  rw [e0]
  rw [Oper.uponIn_round]
  refine ⟨fun q => (by cases q), hround.mono fun e w2 hq => ?_⟩
  obtain ⟨rfl, I2, m2, q1, q2⟩ := hq
  dsimp only
  have hg2 : VRs I2 m2 w2 (put g1 y.dst (.v (.bool true))) (a1.put y.dst (.bool true)).tmps.toList := put_ok (Ext.vrs k2 q2 k3) y.dst (by simp only [VR])
  have hd2 : (a1.put y.dst (.bool true)).defers = [] := put_defers k4
  have := aops_more (n := n) (rest := []) (Q := fun e a' w' => ∃ g' H' I' m', Q e g' H' ∧ HR I' m' H' w' ∧ VRs I' m' w' g' a'.tmps.toList ∧ a'.defers = [] ∧ Ext I m (Own H m) w I' m' (Own H' m') w') post (pre.length + 1)
    (fun j hj => by
      rw [hget, List.getElem?_append_right (by omega)]
      have : pre.length + 1 + j - pre.length = j + 1 := by omega
      rw [this]; simp) q1 hg2 hd2 (fun a' w' hp => by
      obtain ⟨g', H', I', m', p1, p2, p3, p4, p5⟩ := hp
      exact ⟨g', H', I', m', p1, p2, p3, p4, k5.trans (q2.trans p5)⟩) hpost
  simpa using this
end
def putAll : List AV → List Tmp → List AV → List AV
  | g, t :: ts, v :: vs => putAll (g.set t v) ts vs
  | g, _, _ => g
theorem putAll_ok {I : Nat → Prop} {m : List Loc} {w : World} : ∀ {ts : List Tmp} {vs : List AV} {xs : List Value} {g : List AV} {b : Array Value}, VRs I m w g b.toList → VRs I m w vs xs → VRs I m w (putAll g ts vs) ((ts.zip xs).foldl (fun b (p : Tmp × Value) => b.setIfInBounds p.1 p.2) b).toList
  | [], vs, xs, g, b, h, k => by simpa only [putAll, List.zip_nil_left, List.foldl_nil] using h
  | t :: ts, [], xs, g, b, h, k => by
    simp only [VRs] at k
    subst k
    simpa only [putAll, List.zip_nil_right, List.foldl_nil] using h
  | t :: ts, v :: vs, xs, g, b, h, k => by
    simp only [VRs] at k
    obtain ⟨y, ys, rfl, k1, k2⟩ := k
    simp only [putAll, List.zip_cons_cons, List.foldl_cons]
    exact putAll_ok (put_ok (a := { tmps := b, defers := [] }) h (some t) k1) k2
theorem putAll_arr {I : Nat → Prop} {m : List Loc} {w : World} {ps : Array Tmp} {vs : List AV} {xs : Array Value} {g : List AV} {b : Array Value} (h : VRs I m w g b.toList) (k : VRs I m w vs xs.toList) : VRs I m w (putAll g ps.toList vs) ((ps.zip xs).foldl (fun t (p, v) => t.setIfInBounds p v) b).toList := by
  have e : (ps.zip xs).foldl (fun t (p, v) => t.setIfInBounds p v) b = (ps.toList.zip xs.toList).foldl (fun b (p : Tmp × Value) => b.setIfInBounds p.1 p.2) b := by
    rw [← Array.foldl_toList, Array.toList_zip]
  rw [e]
  exact putAll_ok h k
def rdNext (k : List AV → HP → Option HP) : KR → Option HP
  | some (.normal, g, h) => k g h
  | _ => none
noncomputable def rdRun (P : Program) (call : CT) (dr : DT) (fuel : Nat) (g0 : List AV) (ps : Array Tmp) (assign body : Code) (args : List AV) (h : HP) : Option HP :=
  rdNext (fun g1 h1 => rdNext (fun _ h2 => some h2) (cC P call dr fuel body g1 h1)) (cC P call dr fuel assign (putAll g0 ps.toList args) h)
section
variable {P : Program} {call : CT} {dr : DT}
theorem RdC_of_run (hc : CTok P call) (hd : DTok P dr) {fuel : Nat} {l : Nat} {rec : Loop} {g0 : List AV} (hst : rec.state = .ready) (hpe : rec.pending = none) {args : List AV} {h h' : HP} (hk : h.ok) (ha : args.length = rec.params.size)
    (e : rdRun P call dr fuel g0 rec.params rec.assign rec.body args h = some h') : (h'.ok ∧ h.n ≤ h'.n) ∧ RdC P l rec g0 args h.L h'.L := by
  unfold rdRun at e
  cases ea : cC P call dr fuel rec.assign (putAll g0 rec.params.toList args) h with
  | none => rw [ea] at e; cases e
  | some r =>
    obtain ⟨e1, g1, h1⟩ := r
    rw [ea] at e
    have hx : e1 = .normal := by cases e1 <;> first | rfl | (cases e; done)
    subst hx
    simp only [rdNext] at e
    cases eb : cC P call dr fuel rec.body g1 h1 with
    | none => rw [eb] at e; cases e
    | some r =>
      obtain ⟨e2, g2, h2⟩ := r
      rw [eb] at e
      have hx : e2 = .normal := by cases e2 <;> first | rfl | (cases e; done)
      subst hx
      cases e
      obtain ⟨⟨k1, l1⟩, b1⟩ := @cC_ok _ _ _ noDefers hc hd fuel h.n rec.assign _ _ _ _ _ hk (Nat.le_refl _) ea
      obtain ⟨⟨k2, l2⟩, b2⟩ := @cC_ok _ _ _ noDefers hc hd fuel h.n rec.body _ _ _ _ _ k1 l1 eb
      refine ⟨⟨k2, Nat.le_trans l1 l2⟩, fun I m w xs n hr hv hl => ?_⟩
      have hs : xs.size = rec.params.size := by
        have := hv.len
        simp only [Array.length_toList] at this
        omega
      refine ⟨hs, roundIn_of_wpIn trivial ?_⟩
      have hg := putAll_arr (ps := rec.params) hl.tmps hv
      refine wpIn_mono (b1 I m { tmps := _, defers := [] } w hr hg rfl (some l) n) ?_
      rintro e a1 w1 ⟨_, _, I1, m1, ⟨rfl, rfl, rfl⟩, q2, q3, q4, q5, q6⟩
      have hat1 := hl.at'.ex q5
      refine ⟨_, run_beginRound hat1.heap hst, ?_⟩
      obtain ⟨t1, t2, t3⟩ := hat1.turn q2 (.loop { rec with state := .busy })
      refine wpIn_mono (b2 I1 m1 a1 _ t1 (t3 q3) q4 (some l) n) ?_
      rintro e a3 w3 ⟨_, _, I3, m3, ⟨rfl, rfl, rfl⟩, r2, r3, r4, r5, r6⟩
      have hat3 := t2.ex r5
      refine ⟨_, _, run_endRound none hat3.heap, rfl, I3, m3, ?_⟩
      obtain ⟨u1, u2, u3⟩ := hat3.turn r2 (.loop rec)
      have erec : ({ ({ rec with state := .busy } : Loop) with state := if (none : Option Code).isNone then .ready else .done, pending := none } : Loop) = rec := by
        cases rec
        simp only at hst hpe
        simp [hst, hpe]
      rw [erec]
      refine ⟨u1, ⟨?_, ?_, ?_, ?_, ?_, ?_, ?_, ?_, ?_⟩⟩
      · exact r5.os.trans q5.os
      · exact r5.tape.trans q5.tape
      · exact r5.output.trans q5.output
      · have h1 := r5.size
        have h2 := q5.size
        simp only [World.putObj_size] at h1 ⊢
        omega
      · intro b hb hn
        by_cases hbl : b = l
        · subst hbl
          rw [World.putObj_heap_same (lt_of_heap hat3.heap), hl.at'.heap]
        · rw [put_other hbl]
          have hb1 : b < w1.heap.size := Nat.lt_of_lt_of_le hb q5.size
          have hn1 : ¬ Own h1.L m1 b := fun q => (q5.ow b q).elim hn fun q => by omega
          rw [r5.blk b (by simpa using hb1) hn1, put_other hbl, q5.blk b hb hn]
      · exact fun b hb => r5.imm b (q5.imm b hb)
      · intro b hb
        rcases r5.ow b hb with q | q
        · exact q5.ow b q
        · simp only [World.putObj_size] at q
          exact .inr (Nat.le_trans q5.size q)
      · have hml : m.length = h.n := by rw [hr.len, HP.len hk]
        refine ⟨m3.drop m.length, ?_⟩
        have ht : m3.take m.length = m := by
          apply List.ext_getElem?
          intro i
          by_cases hi : i < m.length
          · rw [List.getElem?_take_of_lt hi, List.getElem?_eq_getElem hi]
            exact r6 i _ (by omega) (q6 i _ (by omega) (List.getElem?_eq_getElem hi))
          · rw [List.getElem?_eq_none (by simp; omega), List.getElem?_eq_none (by omega)]
        conv => lhs; rw [← List.take_append_drop m.length m3]
        rw [ht]
      · intro b hb
        rcases r5.inew b hb with q | q | q
        · exact q5.inew b q
        · exact .inr (q5.ow b q)
        · simp only [World.putObj_size] at q
          exact .inr (.inr (Nat.le_trans q5.size q))
end
end Go.Abs
namespace Go.Abs
open Go
def AOpsC (P : Program) (K : List AV → List AO → Prop) : List (Option Tmp × Op) → List AV → List AO → Prop
  | [], g, H => K g H
  | (d, op) :: os, g, H => ∃ v, aop P g H op = some (v, H) ∧ AOpsC P K os (put g d v) H
def core (o : Oper) : Option Tmp × Op × Option (Nat × Bool) := (o.dst, o.op, o.guard)
def plainC (l : List (Option Tmp × Op)) : List (Option Tmp × Op × Option (Nat × Bool)) := l.map fun p => (p.1, p.2, none)
theorem AOps_of {P : Program} {ops : Array Oper} {K : List AV → List AO → Prop} : ∀ {os : List Oper} {cs : List (Option Tmp × Op)} {g : List AV} {H : List AO}, os.map core = plainC cs → AOpsC P K cs g H → AOps P ops K os g H
  | [], [], g, H, _, h => h
  | [], _ :: _, g, H, e, _ => by simp [plainC] at e
  | _ :: _, [], g, H, e, _ => by simp [plainC] at e
  | o :: os, (d, op) :: cs, g, H, e, h => by
    simp only [List.map_cons, plainC, core, List.cons.injEq, Prod.mk.injEq] at e
    obtain ⟨⟨rfl, rfl, hg⟩, e2⟩ := e
    obtain ⟨v, h1, h2⟩ := h
    simp only [AOps, AOp]
    unfold AOpR
    have hw : wantA ops g o = some true := by unfold wantA; rw [hg]
    rw [hw]
    dsimp only
    unfold AExecR
    split
    · rename_i f args ats hop
      rw [hop] at h1
      simp [aop] at h1
    · exact .inl ⟨v, H, h1, AOps_of e2 h2⟩
theorem aop_load {P : Program} {g : List AV} {H : List AO} {t : TypeId} {a : Operand} {v : AV} (h : oLoad2 P t (acells H (ev g a)) = some v) : aop P g H (.load t a) = some (v, H) := by
  simp only [aop]
  cases hc : acells H (ev g a) with
  | none => rw [hc] at h; cases h
  | some x =>
    obtain ⟨cs, off⟩ := x
    rw [hc] at h
    simp only [oLoad2, fApart_eq] at h
    simp [h]
noncomputable def bwElem (P : Program) (tS tE : TypeId) (box : AV) (i : Nat) (h : HP) : Option AV := match oLoad2 P tS (fCells h box) with
  | none => none
  | some s => match aindexAddr P tS s (Int.ofNat i) with
    | none => none
    | some p => oLoad2 P tE (fCells h p)
def bwNext (k : HP → Option HP) : Option HP → Option HP
  | some h => k h
  | none => none
def bwOne (rd : List AV → HP → Option HP) (i : Nat) (h : HP) : Option AV → Option HP
  | some v => rd [.v (.int .i64 (Int.ofNat i)), v] h
  | none => none
noncomputable def bwLoop (P : Program) (tS tE : TypeId) (box : AV) (rd : List AV → HP → Option HP) (n : Nat) : HP → Option HP :=
  Nat.rec (motive := fun _ => HP → Option HP) (fun h => some h) (fun i ih h => bwNext ih (bwOne rd i h (bwElem P tS tE box i h))) n
def lenSl : AV → Option Nat
  | .v (.slice none n _) => some n
  | .em => some 0
  | .im n _ => some n
  | .sl _ _ n => some n
  | _ => none
def bwLen3 : Option TI → Option Nat → Option Nat
  | some ⟨.slice _, _, _, _⟩, some n => match Nat.ble n 9223372036854775807 with
    | true => some n
    | false => none
  | _, _ => none
noncomputable def bwLen (P : Program) (tS : TypeId) (box : AV) (h : HP) : Option Nat := match oLoad2 P tS (fCells h box) with
  | some s => bwLen3 (ti P tS) (lenSl s)
  | none => none
def bwGo (k : Nat → HP → Option HP) (h : HP) : Option Nat → Option HP
  | some n => k n h
  | none => none
noncomputable def bwRun (P : Program) (tS tE : TypeId) (box : AV) (rd : List AV → HP → Option HP) (h : HP) : Option HP := bwGo (bwLoop P tS tE box rd) h (bwLen P tS box h)
structure BwCode (c : Code) (tS tE : TypeId) : Prop where
  ex : ∃ (i0 i1 i2 i3 b b1 : Nat) (o0 o1 o2 o3 : Array Oper) (tI tJ tK tB : TypeId) (y : Oper) (z : List Oper),
    c = .seq (.region i0 o0 false) (.block b (.loop (.seq (.seq (.region i1 o1 false) (.cond (.tmp 8) .skip (.exit b))) (.seq (.block b1 (.seq (.region i3 o3 false) (.cond (.tmp 18) .ret .skip))) (.region i2 o2 false))))) ∧
    o0.toList.map core = plainC [(some 4, .load tS (.tmp 1)), (some 5, .call ⟨.builtin .len, #[.tmp 4], #[tS]⟩), (some 6, .binOp .sub tI (.tmp 5) (.const (.int .i64 1)) tJ), (some 3, .assign (.tmp 6))] ∧
    o1.toList.map core = plainC [(some 7, .move (.tmp 3)), (some 8, .binOp .geq tI (.tmp 7) (.const (.int .i64 0)) tJ)] ∧
    o3.toList = o3.toList.take 6 ++ y :: z ∧
    (o3.toList.take 6).map core = plainC [(some 11, .move (.tmp 0)), (some 12, .move (.tmp 3)), (some 13, .load tS (.tmp 1)), (some 14, .move (.tmp 3)), (some 15, .indexAddr tS (.tmp 13) (.tmp 14)), (some 16, .load tE (.tmp 15))] ∧
    (∃ ats2, y.op = .call ⟨.value (.tmp 11), #[.tmp 12, .tmp 16], ats2⟩) ∧ y.guard = none ∧ y.dst = some 17 ∧
    z.map core = plainC [(some 18, .unOp .not tB (.tmp 17))] ∧
    o2.toList.map core = plainC [(some 9, .move (.tmp 3)), (some 10, .binOp .sub tK (.tmp 9) (.const (.int .i64 1)) tJ), (some 3, .assign (.tmp 10))]
section
variable {P : Program} {l : Nat} {rec : Loop} {g0 : List AV} {tS tE : TypeId} {box : AV} {rd : List AV → HP → Option HP}
theorem bwElem_ok {i : Nat} {h : HP} (hk : h.ok) {v : AV} (e : bwElem P tS tE box i h = some v) : ∃ s p, oLoad2 P tS (acells h.L box) = some s ∧ aindexAddr P tS s (i : Int) = some p ∧ oLoad2 P tE (acells h.L p) = some v := by
  unfold bwElem at e
  rw [fCells_eq hk] at e
  split at e
  · cases e
  · rename_i s hs
    split at e
    · cases e
    · rename_i p hp
      rw [fCells_eq hk] at e
      exact ⟨s, p, hs, hp, e⟩
theorem len_ok {H : List AO} {s : AV} {n : Nat} {e : TypeId} {q : Nat × Nat × List Value} (ht : ti P tS = some ⟨.slice e, q.1, q.2.1, q.2.2⟩) (h : lenSl s = some n) : abuiltin P H .len #[tS] [s] = some (.v (.int .i64 n), H) := by
  unfold lenSl at h
  split at h <;> first | (cases h; done) | (injection h with h; subst h; simp [abuiltin, ht])
theorem YW_backward {c : Code} (hb : BwCode c tS tE) (hrd : ∀ i v (h h' : HP), h.ok → rd [.v (.int .i64 i), v] h = some h' → (h'.ok ∧ h.n ≤ h'.n) ∧ RdC P l rec g0 [.v (.int .i64 i), v] h.L h'.L) {h hE : HP} (hk : h.ok) (e : bwRun P tS tE box rd h = some hE) :
    YW P l rec g0 c (fun e g H => (e = .normal ∨ e = .ret) ∧ H = hE.L ∧ hE.ok ∧ h.n ≤ hE.n) ([.fn (.yield l) [] [], box] ++ List.replicate 17 (.v undef)) h.L := by
  obtain ⟨i0, i1, i2, i3, b, b1, o0, o1, o2, o3, tI, tJ, tK, tB, y, z, rfl, h0, ho1, h3a, h3b, ⟨ats2, hy⟩, hyg, hyd, hz, ho2⟩ := hb.ex
  obtain ⟨n, hlen, hrun, hn⟩ : ∃ n : Nat, (∃ s, oLoad2 P tS (acells h.L box) = some s ∧ abuiltin P h.L .len #[tS] [s] = some (.v (.int .i64 n), h.L)) ∧ bwLoop P tS tE box rd n h = some hE ∧ n ≤ 9223372036854775807 := by
    unfold bwRun bwLen at e
    rw [fCells_eq hk] at e
    cases hs : oLoad2 P tS (acells h.L box) with
    | none => rw [hs] at e; cases e
    | some s =>
      rw [hs] at e
      dsimp only at e
      unfold bwLen3 at e
      split at e
      · rename_i _ et _ _ _ n ht hl
        cases hn : Nat.ble n 9223372036854775807
        · rw [hn] at e; cases e
        · rw [hn] at e
          exact ⟨n, ⟨s, rfl, len_ok (q := (_, _, _)) ht hl⟩, e, by rwa [Nat.ble_eq] at hn⟩
      · cases e
  obtain ⟨s0, hs0, hl0⟩ := hlen
  have w1 : ∀ i : Nat, i ≤ 9223372036854775807 → IntKind.i64.wrap ((i : Int) - 1) = (i : Int) - 1 := fun i hi => by
    have := wrapF_eq .i64 ((i : Int) - 1)
    rw [← this]
    have hin : in64 ((i : Int) - 1) = true := by
      cases i with
      | zero => rfl
      | succ i =>
        have : ((i + 1 : Nat) : Int) - 1 = Int.ofNat i := by simp
        rw [this]
        simp only [in64, Nat.ble_eq]; omega
    rw [hin]; rfl
  refine YW_seq (YW.of_AW (AW_region ?_))
  refine AOps_of h0 ?_
  refine ⟨s0, aop_load hs0, .v (.int .i64 n), by simpa [aop, ev, put] using hl0, .v (.int .i64 ((n : Int) - 1)), by simp [aop, ev, put, abin, aint, lift, w1 n hn], _, rfl, ?_⟩
  show YW P l rec g0 _ _ _ _
  refine YW_block ?_
  refine YW_loop (fun i g H => g.length = 19 ∧ ev g (.tmp 0) = .fn (.yield l) [] [] ∧ ev g (.tmp 1) = box ∧ ev g (.tmp 3) = .v (.int .i64 ((i : Int) - 1)) ∧ i ≤ 9223372036854775807 ∧ ∃ h1 : HP, h1.ok ∧ h.n ≤ h1.n ∧ H = h1.L ∧ bwLoop P tS tE box rd i h1 = some hE) n ?_ ?_
  · refine ⟨by simp [put], by simp [ev, put], by simp [ev, put], by simp [ev, put], hn, h, hk, Nat.le_refl _, rfl, hrun⟩
  rintro i g _ ⟨gl, g0', g1', g3', hi, h1, k1, kn, rfl, hr⟩
  have evp : ∀ (g : List AV) (d t : Nat) (v : AV), g.length = 19 → d < 19 → ev (put g (some d) v) (.tmp t) = if d = t then v else ev g (.tmp t) := fun g d t v hl hd => by
    simp only [ev, put, List.getD_eq_getElem?_getD, List.getElem?_set]
    split
    · simp [hl, hd]
    · rfl
  have pl : ∀ (g : List AV) (d : Nat) (v : AV), (put g (some d) v).length = g.length := fun g d v => by simp [put]
  refine YW_seq ?_
  refine YW_seq ?_
  refine YW.of_AW (AW_region (AOps_of ho1 ?_))
  refine ⟨.v (.int .i64 ((i : Int) - 1)), by simp [aop, g3'], .v (.bool (decide (1 ≤ i))), ?_, ?_⟩
  · have e7 := evp g 7 7 (.v (.int .i64 ((i : Int) - 1))) gl (by omega)
    simp only [if_true] at e7
    simp only [aop, e7]
    simp [ev, lift, abin, aint]
    omega
  simp only [AOpsC, thenA]
  generalize hga : put (put g (some 7) (.v (.int .i64 ((i : Int) - 1)))) (some 8) (.v (.bool (decide (1 ≤ i)))) = ga
  have al : ga.length = 19 := by rw [← hga, pl, pl, gl]
  have a8 : ev ga (.tmp 8) = .v (.bool (decide (1 ≤ i))) := by rw [← hga, evp _ _ _ _ (by rw [pl, gl]) (by omega)]; simp
  have aK : ∀ t : Nat, t ≠ 7 → t ≠ 8 → ev ga (.tmp t) = ev g (.tmp t) := fun t q1 q2 => by
    rw [← hga, evp _ _ _ _ (by rw [pl, gl]) (by omega), if_neg (fun q => q2 q.symm), evp _ _ _ _ gl (by omega), if_neg (fun q => q1 q.symm)]
  refine YW_cond a8 ?_
  cases i with
  | zero =>
    simp only [show decide (1 ≤ 0) = false from rfl]
    cases hr
    refine YW.of_AW (AW_exit ?_)
    simp only [thenA, blockA, if_true]
    exact ⟨.inl (by trivial), (by trivial), k1, kn⟩
  | succ i =>
    have : decide (1 ≤ i + 1) = true := by simp
    rw [if_pos this]
    refine YW.of_AW (AW_skip ?_)
    simp only [thenA]
    have hr : bwNext (bwLoop P tS tE box rd i) (bwOne rd i h1 (bwElem P tS tE box i h1)) = some hE := hr
    cases he : bwElem P tS tE box i h1 with
    | none => rw [he] at hr; cases hr
    | some v =>
      rw [he] at hr
      simp only [bwOne] at hr
      cases hrr : rd [.v (.int .i64 (Int.ofNat i)), v] h1 with
      | none => rw [hrr] at hr; cases hr
      | some h2' =>
        rw [hrr] at hr
        simp only [bwNext] at hr
        obtain ⟨⟨k2, l2⟩, hrdc⟩ := hrd _ _ _ _ k1 hrr
        obtain ⟨s, p, p1, p2, p3⟩ := bwElem_ok k1 he
        have hi1 : (((i + 1 : Nat) : Int) - 1) = (i : Int) := by simp
        rw [hi1] at g3'
        refine YW_seq (YW_block (YW_seq ?_))
        have a0 : ev ga (.tmp 0) = .fn (.yield l) [] [] := by rw [aK 0 (by decide) (by decide)]; exact g0'
        have a1 : ev ga (.tmp 1) = box := by rw [aK 1 (by decide) (by decide)]; exact g1'
        have a3 : ev ga (.tmp 3) = .v (.int .i64 i) := by rw [aK 3 (by decide) (by decide)]; exact g3'
        refine YW_region_y (o3.toList.take 6) z y (.tmp 11) _ ats2 h3a hy hyg (AOps_of h3b ?_)
        refine ⟨_, rfl, _, rfl, s, ?_, _, rfl, p, ?_, v, ?_, ?_⟩
        · refine aop_load ?_
          rw [evp _ _ _ _ (by rw [pl, al]) (by omega), if_neg (by omega), evp _ _ _ _ al (by omega), if_neg (by omega), a1]
          exact p1
        · have q1 : ev (put (put (put (put ga (some 11) (ev ga (.tmp 0))) (some 12) (ev (put ga (some 11) (ev ga (.tmp 0))) (.tmp 3))) (some 13) s) (some 14) (ev (put (put (put ga (some 11) (ev ga (.tmp 0))) (some 12) (ev (put ga (some 11) (ev ga (.tmp 0))) (.tmp 3))) (some 13) s) (.tmp 3))) (.tmp 14) = .v (.int .i64 i) := by
            rw [evp _ _ _ _ (by rw [pl, pl, pl, al]) (by omega), if_pos rfl, evp _ _ _ _ (by rw [pl, pl, al]) (by omega), if_neg (by omega), evp _ _ _ _ (by rw [pl, al]) (by omega), if_neg (by omega), evp _ _ _ _ al (by omega), if_neg (by omega), a3]
          simp only [aop, q1]
          rw [evp _ _ _ _ (by rw [pl, pl, pl, al]) (by omega), if_neg (by omega), evp _ _ _ _ (by rw [pl, pl, al]) (by omega), if_pos rfl, p2]
          rfl
        · refine aop_load ?_
          rw [evp _ _ _ _ (by rw [pl, pl, pl, pl, al]) (by omega), if_pos rfl]
          exact p3
        · simp only [AOpsC]
          generalize hgb : put (put (put (put (put (put ga (some 11) _) (some 12) _) (some 13) s) (some 14) _) (some 15) p) (some 16) v = gb
          have bl : gb.length = 19 := by rw [← hgb, pl, pl, pl, pl, pl, pl, al]
          have bK : ∀ t : Nat, t < 11 → ev gb (.tmp t) = ev ga (.tmp t) := fun t ht => by
            rw [← hgb, evp _ _ _ _ (by rw [pl, pl, pl, pl, pl, al]) (by omega), if_neg (by omega), evp _ _ _ _ (by rw [pl, pl, pl, pl, al]) (by omega), if_neg (by omega), evp _ _ _ _ (by rw [pl, pl, pl, al]) (by omega), if_neg (by omega),
              evp _ _ _ _ (by rw [pl, pl, al]) (by omega), if_neg (by omega), evp _ _ _ _ (by rw [pl, al]) (by omega), if_neg (by omega), evp _ _ _ _ al (by omega), if_neg (by omega)]
          have b11 : ev gb (.tmp 11) = .fn (.yield l) [] [] := by
            rw [← hgb, evp _ _ _ _ (by rw [pl, pl, pl, pl, pl, al]) (by omega), if_neg (by omega), evp _ _ _ _ (by rw [pl, pl, pl, pl, al]) (by omega), if_neg (by omega), evp _ _ _ _ (by rw [pl, pl, pl, al]) (by omega), if_neg (by omega),
              evp _ _ _ _ (by rw [pl, pl, al]) (by omega), if_neg (by omega), evp _ _ _ _ (by rw [pl, al]) (by omega), if_neg (by omega), evp _ _ _ _ al (by omega), if_pos rfl, a0]
          have b12 : ev gb (.tmp 12) = .v (.int .i64 i) := by
            rw [← hgb, evp _ _ _ _ (by rw [pl, pl, pl, pl, pl, al]) (by omega), if_neg (by omega), evp _ _ _ _ (by rw [pl, pl, pl, pl, al]) (by omega), if_neg (by omega), evp _ _ _ _ (by rw [pl, pl, pl, al]) (by omega), if_neg (by omega),
              evp _ _ _ _ (by rw [pl, pl, al]) (by omega), if_neg (by omega), evp _ _ _ _ (by rw [pl, al]) (by omega), if_pos rfl, evp _ _ _ _ al (by omega), if_neg (by omega), a3]
          have b16 : ev gb (.tmp 16) = v := by
            rw [← hgb, evp _ _ _ _ (by rw [pl, pl, pl, pl, pl, al]) (by omega), if_pos rfl]
          have eargs : ([Operand.tmp 12, Operand.tmp 16]).map (ev gb) = [.v (.int .i64 i), v] := by simp [b12, b16]
          refine ⟨b11, h2'.L, ?_, ?_⟩
          · show RdC P l rec g0 ([Operand.tmp 12, Operand.tmp 16].map (ev gb)) h1.L h2'.L
            rw [eargs]; exact hrdc
          · rw [hyd]
            refine AOps_of hz ⟨.v (.bool false), ?_, ?_⟩
            · have : ev (put gb (some 17) (.v (.bool true))) (.tmp 17) = .v (.bool true) := by rw [evp _ _ _ _ bl (by omega), if_pos rfl]
              simp [aop, this, aun]
            simp only [AOpsC, thenA]
            generalize hgc : put (put gb (some 17) (.v (.bool true))) (some 18) (.v (.bool false)) = gc
            have cl : gc.length = 19 := by rw [← hgc, pl, pl, bl]
            have c18 : ev gc (.tmp 18) = .v (.bool false) := by rw [← hgc, evp _ _ _ _ (by rw [pl, bl]) (by omega), if_pos rfl]
            have cK : ∀ t : Nat, t < 11 → ev gc (.tmp t) = ev ga (.tmp t) := fun t ht => by
              rw [← hgc, evp _ _ _ _ (by rw [pl, bl]) (by omega), if_neg (by omega), evp _ _ _ _ bl (by omega), if_neg (by omega), bK t ht]
            refine YW_cond c18 (YW.of_AW ?_)
            rw [if_neg (by simp)]
            refine AW_skip ?_
            simp only [blockA, thenA]
            refine YW.of_AW (AW_region (AOps_of ho2 ?_))
            have c3 : ev gc (.tmp 3) = .v (.int .i64 i) := by rw [cK 3 (by omega)]; exact a3
            refine ⟨_, rfl, .v (.int .i64 ((i : Int) - 1)), ?_, _, rfl, ?_⟩
            · have e9 : ev (put gc (some 9) (ev gc (.tmp 3))) (.tmp 9) = .v (.int .i64 i) := by rw [evp _ _ _ _ cl (by omega), if_pos rfl, c3]
              simp only [aop, e9]
              simp [ev, lift, abin, aint, w1 i (by omega)]
            simp only [AOpsC, thenA]
            refine ⟨i, Nat.lt_succ_self i, ?_, ?_, ?_, ?_, by omega, h2', k2, Nat.le_trans kn l2, rfl, hr⟩
            · rw [pl, pl, pl, cl]
            · rw [evp _ _ _ _ (by rw [pl, pl, cl]) (by omega), if_neg (by omega), evp _ _ _ _ (by rw [pl, cl]) (by omega), if_neg (by omega), evp _ _ _ _ cl (by omega), if_neg (by omega), cK 0 (by omega), a0]
            · rw [evp _ _ _ _ (by rw [pl, pl, cl]) (by omega), if_neg (by omega), evp _ _ _ _ (by rw [pl, cl]) (by omega), if_neg (by omega), evp _ _ _ _ cl (by omega), if_neg (by omega), cK 1 (by omega), a1]
            · rw [evp _ _ _ _ (by rw [pl, pl, cl]) (by omega), if_pos rfl, evp _ _ _ _ (by rw [pl, cl]) (by omega), if_pos rfl]
end
end Go.Abs
namespace Go.Abs
open Go
def mkMark (b : Nat) : Deferred := { target := .collected b, args := #[] }
def Marks (N : Nat) (O I : Nat → Prop) (w : World) (ds : List Deferred) : Prop :=
  ∃ bs : List Nat, ds = bs.map mkMark ∧ bs.Nodup ∧ ∀ b ∈ bs, N ≤ b ∧ w.heap[b]? = some (.deferred (some [])) ∧ ¬ O b ∧ ¬ I b
theorem Marks.ex {N : Nat} {O I O' I' : Nat → Prop} {w w' : World} {ds : List Deferred} (h : Marks N O I w ds) (k : Ex I O w I' O' w') : Marks N O' I' w' ds := by
  obtain ⟨bs, h1, h2, h3⟩ := h
  refine ⟨bs, h1, h2, fun b hb => ?_⟩
  obtain ⟨q0, q1, q2, q3⟩ := h3 b hb
  have hl := lt_of_heap q1
  refine ⟨q0, ?_, fun q => ?_, fun q => ?_⟩
  · rw [k.blk b hl q2]; exact q1
  · rcases k.ow b q with q | q
    · exact q2 q
    · omega
  · rcases k.inew b q with q | q | q
    · exact q3 q
    · exact q2 q
    · omega
def BT (P : Program) (k : Nat) (c : Code) (Q : Exit → List AV → List AO → Prop) (g : List AV) (H : List AO) : Prop :=
  ∀ (I : Nat → Prop) (m : List Loc) (a : Act) (w : World) (n N : Nat), HR I m H w → VRs I m w g a.tmps.toList → N ≤ w.heap.size → Marks N (Own H m) I w a.defers →
    c.wpIn (fR none) n P (fun e a' w' => ∃ g' H' I' m', Q e g' H' ∧ HR I' m' H' w' ∧ VRs I' m' w' g' a'.tmps.toList ∧ Marks N (Own H' m') I' w' a'.defers ∧ Ex I (Own H m) w I' (Own H' m') w' ∧ Kp k m m') a w
section
variable {P : Program} {k : Nat} {Q Q' : Exit → List AV → List AO → Prop} {g : List AV} {H : List AO}
theorem BT.of_BW {c : Code} (h : ∀ D : DSt, @BW D P k c Q g H) : BT P k c Q g H := fun I m a w n N h1 h2 hN h3 =>
  wpIn_mono (h ⟨a.defers⟩ I m a w h1 h2 rfl none n) fun e a' w' ⟨g', H', I', m', q1, q2, q3, q4, q5, q6⟩ => ⟨g', H', I', m', q1, q2, q3, by rw [q4]; exact h3.ex q5, q5, q6⟩
theorem BT.mono {c : Code} (h : BT P k c Q g H) (hq : ∀ e g H, Q e g H → Q' e g H) : BT P k c Q' g H := fun I m a w n N h1 h2 hN h3 =>
  wpIn_mono (h I m a w n N h1 h2 hN h3) fun e a' w' ⟨g', H', I', m', q, q2⟩ => ⟨g', H', I', m', hq _ _ _ q, q2⟩
theorem BT_seq {x y : Code} (h : BT P k x (thenA (BT P k y Q) Q) g H) : BT P k (.seq x y) Q g H := by
  intro I m a w n N h1 h2 hN h3
  refine wpIn_seq (wpIn_mono (h I m a w n N h1 h2 hN h3) ?_)
  rintro e a' w' ⟨g', H', I', m', k4, k5, k6, k7, k8, k9⟩
  cases e with
  | normal =>
    refine wpIn_mono (k4 I' m' a' w' n N k5 k6 (Nat.le_trans hN k8.size) k7) ?_
    rintro e a2 w2 ⟨g2, H2, I2, m2, q1, q2, q3, q4, q5, q6⟩
    exact ⟨g2, H2, I2, m2, q1, q2, q3, q4, k8.trans q5, k9.trans q6⟩
  | _ => exact ⟨g', H', I', m', k4, k5, k6, k7, k8, k9⟩
theorem BT_block {id : Nat} {c : Code} (h : BT P k c (blockA id Q) g H) : BT P k (.block id c) Q g H := by
  intro I m a w n N h1 h2 hN h3
  refine wpIn_block (wpIn_mono (h I m a w n N h1 h2 hN h3) ?_)
  rintro e a' w' ⟨g', H', I', m', k4, k5⟩
  cases e with
  | exit id' =>
    simp only [blockA] at k4
    simp only [Exit.inBlock]
    split at k4
    · rename_i hid; rw [if_pos hid]; exact ⟨g', H', I', m', k4, k5⟩
    · rename_i hid; rw [if_neg hid]; exact ⟨g', H', I', m', k4, k5⟩
  | _ => exact ⟨g', H', I', m', k4, k5⟩
end
def BwFn (P : Program) (n : FuncId) (tS tE : TypeId) : Prop :=
  ∃ (fn : Func) (c : Code), P.funcs[n]? = some fn ∧ fn.body = some c ∧ BwCode c tS tE ∧ fn.ntmps = 19 ∧ fn.results = #[] ∧ (fn.name == "runtime.NumGoroutine") = false
theorem alloc_old {w : World} {o : Obj} {b : Nat} (h : b < w.heap.size) : (w.alloc o).heap[b]? = w.heap[b]? := by
  show (w.heap.push o)[b]? = _
  rw [Array.getElem?_push, if_neg (by omega)]
section
variable {P : Program} {call : CT} {dr : DT}
theorem BT_range (hc : CTok P call) (hd : DTok P dr) {fuel k : Nat} {f : Operand} {ps : Array Tmp} {assign body : Code} {g : List AV} {h hE : HP} {nf : FuncId} {tS tE : TypeId} {box : AV} (hk : h.ok) (hkn : k ≤ h.n) (hf : ev g f = .fn (.func nf) [] [box]) (hfn : BwFn P nf tS tE) (hps : ps.size = 2)
    (e : bwRun P tS tE box (rdRun P call dr fuel g ps assign body) h = some hE) : (hE.ok ∧ h.n ≤ hE.n) ∧ BT P k (.rangeFunc f ps assign body) (PostC .normal g hE.L) g h.L := by
  obtain ⟨fn, cb, q1, q2, q3, q4, q5, q6⟩ := hfn
  have hrd : ∀ (l : Nat) (rec : Loop), rec.state = .ready → rec.pending = none → rec.params = ps → rec.assign = assign → rec.body = body → ∀ i v (h h' : HP), h.ok → rdRun P call dr fuel g ps assign body [.v (.int .i64 i), v] h = some h' → (h'.ok ∧ h.n ≤ h'.n) ∧ RdC P l rec g [.v (.int .i64 i), v] h.L h'.L := by
    intro l rec r1 r2 r3 r4 r5 i v h h' hk e
    subst r3; subst r4; subst r5
    exact RdC_of_run hc hd r1 r2 hk (by simp [hps]) e
  have hsz : hE.ok ∧ h.n ≤ hE.n := by
    have grow : ∀ (n : Nat) (h : HP), h.ok → bwLoop P tS tE box (rdRun P call dr fuel g ps assign body) n h = some hE → hE.ok ∧ h.n ≤ hE.n := by
      intro n
      induction n with
      | zero => intro h hk e; cases e; exact ⟨hk, Nat.le_refl _⟩
      | succ n ih =>
        intro h hk e
        have e : bwNext (bwLoop P tS tE box (rdRun P call dr fuel g ps assign body) n) (bwOne (rdRun P call dr fuel g ps assign body) n h (bwElem P tS tE box n h)) = some hE := e
        cases he : bwElem P tS tE box n h with
        | none => rw [he] at e; cases e
        | some v =>
          rw [he] at e
          simp only [bwOne] at e
          cases hr : rdRun P call dr fuel g ps assign body [.v (.int .i64 (Int.ofNat n)), v] h with
          | none => rw [hr] at e; cases e
          | some h2 =>
            rw [hr] at e
            obtain ⟨⟨p1, p2⟩, _⟩ := hrd 0 { state := .ready, pending := none, fn := 0, tmps := #[], params := ps, assign, body, defers := 0 } rfl rfl rfl rfl rfl _ _ _ _ hk hr
            obtain ⟨p3, p4⟩ := ih h2 p1 e
            exact ⟨p3, Nat.le_trans p2 p4⟩
    unfold bwRun bwGo at e
    split at e
    · exact grow _ h hk e
    · cases e
  refine ⟨hsz, fun I m a w n N hr hg hN hm => ?_⟩
  have hfv := VR.ev hg f
  rw [hf] at hfv
  simp only [VR] at hfv
  obtain ⟨xs, ys, he, hxs, hys⟩ := hfv
  simp only [VRs] at hxs hys
  obtain rfl : xs = #[] := by simpa using hxs
  obtain ⟨bx, _, hys, hbx, rfl⟩ := hys
  obtain rfl : ys = #[bx] := by apply Array.ext'; simpa using hys
  refine wpIn_rangeFunc fun fn' _ => ?_
  let rc : Loop := { state := .ready, pending := none, fn := fn', tmps := a.tmps, params := ps, assign, body, defers := w.heap.size }
  let w0 : World := w.alloc (.deferred (some []))
  let w1 : World := w0.alloc (.loop rc)
  let l := w.heap.size + 1
  have s0 : w0.heap.size = w.heap.size + 1 := World.size_alloc _ _
  have s1 : w1.heap.size = w.heap.size + 2 := (World.size_alloc _ _).trans (by rw [s0])
  have old : ∀ b, b < w.heap.size → w1.heap[b]? = w.heap[b]? := fun b hb => (alloc_old (by omega)).trans (alloc_old hb)
  have hr1 : HR I m h.L w1 := hr.aside (by omega) fun b hb _ => old b hb
  have hown : ∀ b, w.heap.size ≤ b → ¬ Own h.L m b := fun b hb ⟨id, o, L, p1, p2, p3, p4, p5⟩ => by
    have := hr.lt p1 p2 p3 p4
    omega
  have himm : ∀ b, w.heap.size ≤ b → ¬ I b := fun b hb p => by have := hr.ilt b p; omega
  have hlp : Lp l rc g I m h.L w1 := ⟨⟨by
    have := World.alloc_heap_new w0 (.loop rc)
    rw [s0] at this; exact this, hown l (by omega), himm l (by omega)⟩, VRs.aside hr (fun b hb _ => old b hb) hg⟩
  have hmk : At w.heap.size (.deferred (some [])) I m h.L w1 := ⟨(alloc_old (by omega)).trans (World.alloc_heap_new w _), hown _ (Nat.le_refl _), himm _ (Nat.le_refl _)⟩
  have hres : ∃ d, (resolve a.eval (rangeCall f l) 0).run P w1 = .ok d w1 ∧ (invoke d.target d.args).run P w1 = .ok (.enter nf #[.func (.yield l) #[] #[], bx]) w1 := by
    have hcst : a.eval (.const (.func (.yield l) #[] #[])) = .func (.yield l) #[] #[] := rfl
    refine ⟨{ target := .fn (.func nf) #[bx], args := #[.func (.yield l) #[] #[]] }, by simp [rangeCall, resolve, he, Deferred.ofValue, hcst], ?_⟩
    simp [invoke, callFunc, q1, q2]
    intro hh
    simp [hh] at q6
  obtain ⟨d, d1, d2⟩ := hres
  refine ⟨l, _, w1, d, w1, nf, _, w1, run_enterLoop_outer fn' a.tmps ps assign body, d1, fun _ _ => trivial, d2, fun q => (by cases q), ?_⟩
  have hY := YW_backward (l := l) (rec := rc) (g0 := g) q3 (hrd l rc rfl rfl rfl rfl rfl) hk e
  refine callsIn_of_wp q1 q2 trivial (wpIn_mono (hY I m { tmps := #[.func (.yield l) #[] #[], bx] ++ Array.replicate (fn.ntmps - 2) undef, defers := [] } w1 (n - 1) hr1 ?_ rfl hlp) ?_)
  · rw [q4]
    simp only [Array.toList_append, Array.toList_replicate]
    have hu : ∀ k, VRs I m w1 (List.replicate k (.v undef)) (List.replicate k undef) := fun k => by
      induction k with
      | zero => simp [VRs]
      | succ k ih => simp only [List.replicate_succ, VRs]; exact ⟨_, _, rfl, by simp only [VR], ih⟩
    refine VRs.append (I := I) ?_ (hu 17)
    simp only [VRs]
    refine ⟨_, _, rfl, ?_, bx, [], rfl, ?_, rfl⟩
    · simp only [VR]
      exact ⟨#[], #[], rfl, by simp [VRs], by simp [VRs]⟩
    · have := VRs.aside hr (w' := w1) (fun b hb _ => old b hb) (cs := [box]) (xs := [bx]) (by simp only [VRs]; exact ⟨_, _, rfl, hbx, rfl⟩)
      simp only [VRs] at this
      obtain ⟨_, _, t, t2, _⟩ := this
      obtain ⟨rfl, _⟩ := List.cons.inj t
      exact t2
  rintro ex a3 w3 ⟨g3, _, I3, m3, ⟨hex, rfl, _, _⟩, r2, r3, r4, r5⟩
  have hlp3 := hlp.ext hr1 r5
  have hm3 : At w.heap.size (.deferred (some [])) I3 m3 hE.L w3 := hmk.ex r5.ex
  obtain ⟨t1, t2, t3⟩ := hlp3.at'.turn r2 (.loop { rc with state := .exhausted })
  have key : a3.defers = [] ∧ ∃ v, (results fn a3.tmps).run P w3 = .ok v w3 ∧ rangePost (fR none) n P l (fun e a' w' => ∃ g' H' I' m', PostC .normal g hE.L e g' H' ∧ HR I' m' H' w' ∧ VRs I' m' w' g' a'.tmps.toList ∧ Marks N (Own H' m') I' w' a'.defers ∧ Ex I (Own h.L m) w I' (Own H' m') w' ∧ Kp k m m')
      { a with defers := [{ target := .collected w.heap.size, args := #[] }] ++ a.defers } (.returned v) w3 := by
    refine ⟨r4, .tuple #[], by simp [results, q5], none, _, run_endLoop hlp3.at'.heap (by simp [rc]), g, hE.L, I3, m3, ⟨rfl, rfl, rfl⟩, t1, t3 hlp3.tmps, ?_, ?_, ?_⟩
    · obtain ⟨bs, b1, b2, b3⟩ := hm
      refine ⟨w.heap.size :: bs, by simp [b1, mkMark], List.nodup_cons.2 ⟨fun q => ?_, b2⟩, fun b hb => ?_⟩
      · have := lt_of_heap (b3 _ q).2.1; omega
      · rcases List.mem_cons.1 hb with rfl | hb
        · refine ⟨hN, ?_, hm3.own, hm3.imm⟩
          rw [put_other (by omega)]; exact hm3.heap
        · obtain ⟨p0, p1, p2, p3⟩ := b3 b hb
          have hbl := lt_of_heap p1
          have hat : At b (.deferred (some [])) I m h.L w1 := ⟨(old b hbl).trans p1, p2, p3⟩
          have hat3 := hat.ex r5.ex
          refine ⟨p0, ?_, hat3.own, hat3.imm⟩
          rw [put_other (by omega)]; exact hat3.heap
    · refine ⟨r5.os, r5.tape, r5.output, ?_, fun b hb hn => ?_, r5.imm, fun b hb => ?_, fun b hb => ?_⟩
      · have := r5.size
        simp only [World.putObj_size]; omega
      · rw [put_other (by omega), r5.blk b (by omega) hn, old b hb]
      · rcases r5.ow b hb with q | q
        · exact .inl q
        · exact .inr (by omega)
      · rcases r5.inew b hb with q | q | q
        · exact .inl q
        · exact .inr (.inl q)
        · exact .inr (.inr (by omega))
    · exact Kp.pre r5.pre
  cases ex with
  | normal => exact key
  | ret => exact key
  | _ => rcases hex with hex | hex <;> cases hex
end
end Go.Abs
