/- Part 15 of the texts that lead to repairNearestCard_holds. No condition. -/
import Derived.RangeFuncRecord
import Derived.Test.YtcjckmnhlfbdlaaGreatDoorH14
set_option linter.all false
namespace Go.Abs
open Go
section
variable {I I' : Nat → Prop} {m m' : List Loc} {H H' : List AO} {w w' : World}
theorem HR.aside (hr : HR I m H w) (hs : w.heap.size ≤ w'.heap.size) (hw : ∀ b, b < w.heap.size → (Own H m b ∨ I b) → w'.heap[b]? = w.heap[b]?) : HR I m H w' where
 len := hr.len
 ob := fun id o L h1 h2 => by
  have := OR.mono (nu := []) (I' := I) (w' := w') (fun _ h => h) (fun b hb => hw b (hr.ilt b hb) (.inr hb)) (fun ha hc => hw _ (hr.lt h1 ha h2 hc) (.inl ⟨id, o, L, h1, ha, h2, hc, rfl⟩)) (hr.ob id o L h1 h2)
  simpa using this
 inj := hr.inj
 imm := hr.imm
 ilt := fun b hb => Nat.lt_of_lt_of_le (hr.ilt b hb) hs
 gl := hr.gl.on (fun _ h => h) fun b hb => hw b (hr.ilt b hb) (.inr hb)
theorem VRs.aside (hr : HR I m H w) (hw : ∀ b, b < w.heap.size → (Own H m b ∨ I b) → w'.heap[b]? = w.heap[b]?) {cs : List AV} {xs : List Value} (k : VRs I m w cs xs) : VRs I m w' cs xs := by
 have := VRs.mono (nu := []) (I' := I) (w' := w') (fun _ h => h) (fun b hb => hw b (hr.ilt b hb) (.inr hb)) cs xs k
 simpa using this
structure At (l : Nat) (o : Obj) (I : Nat → Prop) (m : List Loc) (H : List AO) (w : World) : Prop where
  heap : w.heap[l]? = some o
  own : ¬ Own H m l
  imm : ¬ I l
theorem At.ex {l : Nat} {o : Obj} (h : At l o I m H w) (k : Ex I (Own H m) w I' (Own H' m') w') : At l o I' m' H' w' where
 heap := by rw [k.blk l (lt_of_heap h.heap) h.own]; exact h.heap
 own := fun q => (k.ow l q).elim h.own fun q => by have := lt_of_heap h.heap; omega
 imm := fun q => (k.inew l q).elim h.imm fun q => q.elim h.own fun q => by have := lt_of_heap h.heap; omega
theorem put_other {w : World} {l : Nat} {o : Obj} {b : Nat} (h : b ≠ l) : (w.putObj l o).heap[b]? = w.heap[b]? := World.putObj_heap_other h
theorem At.turn {l : Nat} {o : Obj} (h : At l o I m H w) (hr : HR I m H w) (o' : Obj) : HR I m H (w.putObj l o') ∧ At l o' I m H (w.putObj l o') ∧ ∀ {cs : List AV} {xs : List Value}, VRs I m w cs xs → VRs I m (w.putObj l o') cs xs := by
 have hl := lt_of_heap h.heap
 have ne : ∀ b, b < w.heap.size → (Own H m b ∨ I b) → (w.putObj l o').heap[b]? = w.heap[b]? := fun b _ q => put_other fun e => by
  subst e; exact q.elim h.own h.imm
 exact ⟨hr.aside (by simp) ne, ⟨World.putObj_heap_same hl, h.own, h.imm⟩, fun k => VRs.aside hr ne k⟩
end
structure Lp (l : Nat) (rec : Loop) (g0 : List AV) (I : Nat → Prop) (m : List Loc) (H : List AO) (w : World) : Prop where
  at' : At l (.loop rec) I m H w
  tmps : VRs I m w g0 rec.tmps.toList
theorem Lp.ext {l : Nat} {rec : Loop} {g0 : List AV} {I I' : Nat → Prop} {m m' : List Loc} {H H' : List AO} {w w' : World} (hr : HR I m H w) (h : Lp l rec g0 I m H w) (k : Ext I m (Own H m) w I' m' (Own H' m') w') : Lp l rec g0 I' m' H' w' :=
 ⟨h.at'.ex k.ex, Ext.vrs hr k h.tmps⟩
def YW (P : Program) (l : Nat) (rec : Loop) (g0 : List AV) (c : Code) (Q : Exit → List AV → List AO → Prop) (g : List AV) (H : List AO) : Prop :=
 ∀ (I : Nat → Prop) (m : List Loc) (a : Act) (w : World) (n : Nat), HR I m H w → VRs I m w g a.tmps.toList → a.defers = [] → Lp l rec g0 I m H w →
  c.wpIn (fR none) n P (fun e a' w' => ∃ g' H' I' m', Q e g' H' ∧ HR I' m' H' w' ∧ VRs I' m' w' g' a'.tmps.toList ∧ a'.defers = [] ∧ Ext I m (Own H m) w I' m' (Own H' m') w') a w
def RdC (P : Program) (l : Nat) (rec : Loop) (g0 : List AV) (args : List AV) (H H' : List AO) : Prop :=
 ∀ (I : Nat → Prop) (m : List Loc) (w : World) (xs : Array Value) (n : Nat), HR I m H w → VRs I m w args xs.toList → Lp l rec g0 I m H w →
  xs.size = rec.params.size ∧ RoundIn (fR none) n P l rec.fn ((rec.params.zip xs).foldl (fun t (p, v) => t.setIfInBounds p v) rec.tmps) rec.assign rec.body w
   (fun e w' => e = .returned (.bool true) ∧ ∃ I' m', HR I' m' H' w' ∧ Ext I m (Own H m) w I' m' (Own H' m') w')
section
variable {P : Program} {l : Nat} {rec : Loop} {g0 : List AV} {Q Q' : Exit → List AV → List AO → Prop} {g : List AV} {H : List AO}
theorem YW.of_AW {c : Code} (h : @AW noDefers P c Q g H) : YW P l rec g0 c Q g H := fun I m a w n h1 h2 h3 _ => h I m a w h1 h2 h3 none n
theorem YW_seq {x y : Code} (h : YW P l rec g0 x (thenA (YW P l rec g0 y Q) Q) g H) : YW P l rec g0 (.seq x y) Q g H := by
 intro I m a w n h1 h2 h3 h4
 refine wpIn_seq (wpIn_mono (h I m a w n h1 h2 h3 h4) ?_)
 rintro e a' w' ⟨g', H', I', m', k4, k5, k6, k7, k8⟩
 cases e with
 | normal =>
  refine wpIn_mono (k4 I' m' a' w' n k5 k6 k7 (h4.ext h1 k8)) ?_
  rintro e a2 w2 ⟨g2, H2, I2, m2, q1, q2, q3, q4, q5⟩
  exact ⟨g2, H2, I2, m2, q1, q2, q3, q4, k8.trans q5⟩
 | _ => exact ⟨g', H', I', m', k4, k5, k6, k7, k8⟩
theorem YW_cond {c : Operand} {x y : Code} {t : Bool} (hc : ev g c = .v (.bool t)) (h : YW P l rec g0 (if t then x else y) Q g H) : YW P l rec g0 (.cond c x y) Q g H := by
 intro I m a w n h1 h2 h3 h4
 have hv := VR.ev h2 c
 rw [hc] at hv
 simp only [VR] at hv
 exact wpIn_cond hv (h I m a w n h1 h2 h3 h4)
theorem YW_block {id : Nat} {c : Code} (h : YW P l rec g0 c (blockA id Q) g H) : YW P l rec g0 (.block id c) Q g H := by
 intro I m a w n h1 h2 h3 h4
 refine wpIn_block (wpIn_mono (h I m a w n h1 h2 h3 h4) ?_)
 rintro e a' w' ⟨g', H', I', m', k4, k5⟩
 cases e with
 | exit id' =>
  simp only [blockA] at k4
  simp only [Exit.inBlock]
  split at k4
  ·rename_i hid; rw [if_pos hid]; exact ⟨g', H', I', m', k4, k5⟩
  ·rename_i hid; rw [if_neg hid]; exact ⟨g', H', I', m', k4, k5⟩
 | _ => exact ⟨g', H', I', m', k4, k5⟩
theorem YW_loop {c : Code} (J : Nat → List AV → List AO → Prop) (k : Nat) (h0 : J k g H) (round : ∀ k g H, J k g H → YW P l rec g0 c (thenA (fun g' H' => ∃ k', k' < k ∧ J k' g' H') Q) g H) : YW P l rec g0 (.loop c) Q g H := by
 intro I m a w n h1 h2 h3 h4
 let Inv : Nat → Act → World → Prop := fun k a' w' => ∃ g' H' I' m', J k g' H' ∧ HR I' m' H' w' ∧ VRs I' m' w' g' a'.tmps.toList ∧ a'.defers = [] ∧ Ext I m (Own H m) w I' m' (Own H' m') w'
 refine wpIn_loop (fun a w => ∃ k, Inv k a w) (fun a w => leastOf fun k => Inv k a w) ⟨k, g, H, I, m, h0, h1, h2, h3, Ext.refl _ _ _ _⟩ fun a1 w1 hI => ?_
 obtain ⟨g1, H1, I1, m1, j1, j2, j3, j4, j5⟩ := (leastOf_spec hI).1
 refine wpIn_mono (round _ g1 H1 j1 I1 m1 a1 w1 n j2 j3 j4 (h4.ext h1 j5)) ?_
 rintro e a2 w2 ⟨g2, H2, I2, m2, k1, k2, k3, k4, k5⟩
 cases e with
 | normal =>
  obtain ⟨k', hlt, hj⟩ := k1
  have hi : Inv k' a2 w2 := ⟨g2, H2, I2, m2, hj, k2, k3, k4, j5.trans k5⟩
  exact ⟨⟨k', hi⟩, Nat.lt_of_le_of_lt ((leastOf_spec ⟨k', hi⟩).2 k' hi) hlt⟩
 | _ => exact ⟨g2, H2, I2, m2, k1, k2, k3, k4, j5.trans k5⟩
theorem aops_more {ops : Array Oper} {K : List AV → List AO → Prop} {Q : Exit → Act → World → Prop} {n : Nat} {rest : List Nat} : ∀ (os : List Oper) (k : Nat), (∀ j, j < os.length → os[j]? = ops[k + j]?) → ∀ {I : Nat → Prop} {m : List Loc} {H : List AO} {w : World} {g : List AV} {a : Act},
 HR I m H w → VRs I m w g a.tmps.toList → a.defers = [] → (∀ a' w', @Post noDefers P I m H w K a' w' → wpOpsIn (fR none) n P ops Q rest a' w') → AOps P ops K os g H → wpOpsIn (fR none) n P ops Q (List.range' k os.length ++ rest) a w
 | [], k, _, I, m, H, w, g, a, hr, hg, hd, hq, h => by
  simp only [List.length_nil, List.range'_zero, List.nil_append]
  exact hq a w ⟨g, H, I, m, h, hr, hg, hd, Ext.refl _ _ _ _⟩
 | o :: os, k, hl, I, m, H, w, g, a, hr, hg, hd, hq, h => by
  have h0 : ops[k]? = some o := by simpa using (hl 0 (by simp)).symm
  simp only [List.length_cons, List.range'_succ, List.cons_append, wpOpsIn_cons]
  refine wpOpIn_mono ?_ (wpOp_in (@aop_step P noDefers I m H w ops o k g a _ Q hr hg hd h0 h) none n)
  rintro a' w' ⟨g', H', I', m', h1, h2, h3, h4, h5⟩
  exact aops_more os (k + 1) (fun j hj => by have := hl (j + 1) (by simp; omega); simpa [Nat.add_assoc, Nat.add_comm 1 j] using this) h2 h3 h4 (fun a2 w2 hp => hq a2 w2 (@Post.trans P noDefers _ _ _ _ _ _ _ _ _ _ _ h5 hp)) h1
end
end Go.Abs
namespace Go.Abs
open Go
section
variable {P : Program} {l : Nat} {rec : Loop} {g0 : List AV} {Q : Exit → List AV → List AO → Prop} {g : List AV} {H : List AO}
theorem YW_region_y {id : Nat} {ops : Array Oper} (pre post : List Oper) (y : Oper) (f : Operand) (args : Array Operand) (ats : Array TypeId) (hops : ops.toList = pre ++ y :: post) (hy : y.op = .call ⟨.value f, args, ats⟩) (hgd : y.guard = none)
 (h : AOps P ops (fun g1 H1 => ev g1 f = .fn (.yield l) [] [] ∧ ∃ H2, RdC P l rec g0 (args.toList.map (ev g1)) H1 H2 ∧ AOps P ops (Q .normal) post (put g1 y.dst (.v (.bool true))) H2) pre g H) : YW P l rec g0 (.region id ops false) Q g H := by
 intro I m a w n hr hg hd hl
 have hsz : ops.size = pre.length + (1 + post.length) := by
  have := congrArg List.length hops
  simp only [Array.length_toList, List.length_append, List.length_cons] at this
  omega
 have hget : ∀ j, ops[j]? = (pre ++ y :: post)[j]? := fun j => by rw [← hops, Array.getElem?_toList]
 refine wpIn_region ?_
 have hrange : List.range ops.size = List.range' 0 pre.length ++ (pre.length :: List.range' (pre.length + 1) post.length) := by
  rw [List.range_eq_range', hsz, List.range'_append_1 .. |>.symm]
  congr 1
  rw [Nat.add_comm 1 post.length, List.range'_succ]
  simp
 rw [hrange]
 refine aops_more pre 0 (fun j hj => by rw [hget, Nat.zero_add, List.getElem?_append_left hj]) hr hg hd ?_ h
 rintro a1 w1 ⟨g1, H1, I1, m1, ⟨hf, H2, hrd, hpost⟩, k2, k3, k4, k5⟩
 rw [wpOpsIn_cons]
 unfold wpOpIn
 have hyo : ops[pre.length]? = some y := by rw [hget]; simp
 simp only [hyo]
 rw [if_pos (by unfold Region.wanted; rw [hgd])]
 refine ⟨fun _ _ => trivial, ?_⟩
 rw [Oper.semAt_eq _ _ _ (fun c e => by rw [hy] at e; cases e)]
 have hfv := VR.ev k3 f
 rw [hf] at hfv
 simp only [VR] at hfv
 obtain ⟨xs, ys, he, hxs, hys⟩ := hfv
 simp only [VRs] at hxs hys
 obtain rfl : xs = #[] := by simpa using hxs
 obtain rfl : ys = #[] := by simpa using hys
 have hargs := evs_arr k3 args
 have hl1 := hl.ext hr k5
 obtain ⟨hs, hround⟩ := hrd I1 m1 w1 (args.map a1.eval) (n - 1) k2 hargs hl1
 have e0 : (execOp a1.eval y).run P w1 = .ok (.round l rec.fn ((rec.params.zip (args.map a1.eval)).foldl (fun tmps (t, x) => tmps.setIfInBounds t x) rec.tmps) rec.assign rec.body) w1 := by
  have := run_yield (P := P) hl1.at'.heap hs
  rw [← this]
  simp [execOp, hy, resolve, he, Deferred.ofValue, invoke]
 rw [e0]
 rw [Oper.uponIn_round]
 refine ⟨fun q => (by cases q), hround.mono fun e w2 hq => ?_⟩
 obtain ⟨rfl, I2, m2, q1, q2⟩ := hq
 dsimp only
 have hg2 : VRs I2 m2 w2 (put g1 y.dst (.v (.bool true))) (a1.put y.dst (.bool true)).tmps.toList := put_ok (Ext.vrs k2 q2 k3) y.dst (by simp only [VR])
 have hd2 : (a1.put y.dst (.bool true)).defers = [] := put_defers k4
 have := aops_more (n := n) (rest := []) (Q := fun e a' w' => ∃ g' H' I' m', Q e g' H' ∧ HR I' m' H' w' ∧ VRs I' m' w' g' a'.tmps.toList ∧ a'.defers = [] ∧ Ext I m (Own H m) w I' m' (Own H' m') w') post (pre.length + 1)
  (fun j hj => by
   rw [hget, List.getElem?_append_right (by omega)]
   have : pre.length + 1 + j - pre.length = j + 1 := by omega
   rw [this]; simp) q1 hg2 hd2 (fun a' w' hp => by
   obtain ⟨g', H', I', m', p1, p2, p3, p4, p5⟩ := hp
   exact ⟨g', H', I', m', p1, p2, p3, p4, k5.trans (q2.trans p5)⟩) hpost
 simpa using this
end
def putAll : List AV → List Tmp → List AV → List AV
 | g, t :: ts, v :: vs => putAll (g.set t v) ts vs
 | g, _, _ => g
theorem putAll_ok {I : Nat → Prop} {m : List Loc} {w : World} : ∀ {ts : List Tmp} {vs : List AV} {xs : List Value} {g : List AV} {b : Array Value}, VRs I m w g b.toList → VRs I m w vs xs → VRs I m w (putAll g ts vs) ((ts.zip xs).foldl (fun b (p : Tmp × Value) => b.setIfInBounds p.1 p.2) b).toList
 | [], vs, xs, g, b, h, k => by simpa only [putAll, List.zip_nil_left, List.foldl_nil] using h
 | t :: ts, [], xs, g, b, h, k => by
  simp only [VRs] at k
  subst k
  simpa only [putAll, List.zip_nil_right, List.foldl_nil] using h
 | t :: ts, v :: vs, xs, g, b, h, k => by
  simp only [VRs] at k
  obtain ⟨y, ys, rfl, k1, k2⟩ := k
  simp only [putAll, List.zip_cons_cons, List.foldl_cons]
  exact putAll_ok (put_ok (a := { tmps := b, defers := [] }) h (some t) k1) k2
theorem putAll_arr {I : Nat → Prop} {m : List Loc} {w : World} {ps : Array Tmp} {vs : List AV} {xs : Array Value} {g : List AV} {b : Array Value} (h : VRs I m w g b.toList) (k : VRs I m w vs xs.toList) : VRs I m w (putAll g ps.toList vs) ((ps.zip xs).foldl (fun t (p, v) => t.setIfInBounds p v) b).toList := by
 have e : (ps.zip xs).foldl (fun t (p, v) => t.setIfInBounds p v) b = (ps.toList.zip xs.toList).foldl (fun b (p : Tmp × Value) => b.setIfInBounds p.1 p.2) b := by
  rw [← Array.foldl_toList, Array.toList_zip]
 rw [e]
 exact putAll_ok h k
def rdNext (k : List AV → HP → Option HP) : KR → Option HP
 | some (.normal, g, h) => k g h
 | _ => none
noncomputable def rdRun (P : Program) (call : CT) (dr : DT) (fuel : Nat) (g0 : List AV) (ps : Array Tmp) (assign body : Code) (args : List AV) (h : HP) : Option HP :=
 rdNext (fun g1 h1 => rdNext (fun _ h2 => some h2) (cC P call dr fuel body g1 h1)) (cC P call dr fuel assign (putAll g0 ps.toList args) h)
section
variable {P : Program} {call : CT} {dr : DT}
theorem RdC_of_run (hc : CTok P call) (hd : DTok P dr) {fuel : Nat} {l : Nat} {rec : Loop} {g0 : List AV} (hst : rec.state = .ready) (hpe : rec.pending = none) {args : List AV} {h h' : HP} (hk : h.ok) (ha : args.length = rec.params.size)
 (e : rdRun P call dr fuel g0 rec.params rec.assign rec.body args h = some h') : (h'.ok ∧ h.n ≤ h'.n) ∧ RdC P l rec g0 args h.L h'.L := by
 unfold rdRun at e
 cases ea : cC P call dr fuel rec.assign (putAll g0 rec.params.toList args) h with
 | none => rw [ea] at e; cases e
 | some r =>
  obtain ⟨e1, g1, h1⟩ := r
  rw [ea] at e
  have hx : e1 = .normal := by cases e1 <;> first | rfl | (cases e; done)
  subst hx
  simp only [rdNext] at e
  cases eb : cC P call dr fuel rec.body g1 h1 with
  | none => rw [eb] at e; cases e
  | some r =>
   obtain ⟨e2, g2, h2⟩ := r
   rw [eb] at e
   have hx : e2 = .normal := by cases e2 <;> first | rfl | (cases e; done)
   subst hx
   cases e
   obtain ⟨⟨k1, l1⟩, b1⟩ := @cC_ok _ _ _ noDefers hc hd fuel h.n rec.assign _ _ _ _ _ hk (Nat.le_refl _) ea
   obtain ⟨⟨k2, l2⟩, b2⟩ := @cC_ok _ _ _ noDefers hc hd fuel h.n rec.body _ _ _ _ _ k1 l1 eb
   refine ⟨⟨k2, Nat.le_trans l1 l2⟩, fun I m w xs n hr hv hl => ?_⟩
   have hs : xs.size = rec.params.size := by
    have := hv.len
    simp only [Array.length_toList] at this
    omega
   refine ⟨hs, roundIn_of_wpIn trivial ?_⟩
   have hg := putAll_arr (ps := rec.params) hl.tmps hv
   refine wpIn_mono (b1 I m { tmps := _, defers := [] } w hr hg rfl (some l) n) ?_
   rintro e a1 w1 ⟨_, _, I1, m1, ⟨rfl, rfl, rfl⟩, q2, q3, q4, q5, q6⟩
   have hat1 := hl.at'.ex q5
   refine ⟨_, run_beginRound hat1.heap hst, ?_⟩
   obtain ⟨t1, t2, t3⟩ := hat1.turn q2 (.loop { rec with state := .busy })
   refine wpIn_mono (b2 I1 m1 a1 _ t1 (t3 q3) q4 (some l) n) ?_
   rintro e a3 w3 ⟨_, _, I3, m3, ⟨rfl, rfl, rfl⟩, r2, r3, r4, r5, r6⟩
   have hat3 := t2.ex r5
   refine ⟨_, _, run_endRound none hat3.heap, rfl, I3, m3, ?_⟩
   obtain ⟨u1, u2, u3⟩ := hat3.turn r2 (.loop rec)
   have erec : ({ ({ rec with state := .busy } : Loop) with state := if (none : Option Code).isNone then .ready else .done, pending := none } : Loop) = rec := by
    cases rec
    simp only at hst hpe
    simp [hst, hpe]
   rw [erec]
   refine ⟨u1, ⟨?_, ?_, ?_, ?_, ?_, ?_, ?_, ?_, ?_⟩⟩
   ·exact r5.os.trans q5.os
   ·exact r5.tape.trans q5.tape
   ·exact r5.output.trans q5.output
   ·have h1 := r5.size
    have h2 := q5.size
    simp only [World.putObj_size] at h1 ⊢
    omega
   ·intro b hb hn
    by_cases hbl : b = l
    ·subst hbl
     rw [World.putObj_heap_same (lt_of_heap hat3.heap), hl.at'.heap]
    ·rw [put_other hbl]
     have hb1 : b < w1.heap.size := Nat.lt_of_lt_of_le hb q5.size
     have hn1 : ¬ Own h1.L m1 b := fun q => (q5.ow b q).elim hn fun q => by omega
     rw [r5.blk b (by simpa using hb1) hn1, put_other hbl, q5.blk b hb hn]
   ·exact fun b hb => r5.imm b (q5.imm b hb)
   ·intro b hb
    rcases r5.ow b hb with q | q
    ·exact q5.ow b q
    ·simp only [World.putObj_size] at q
     exact .inr (Nat.le_trans q5.size q)
   ·have hml : m.length = h.n := by rw [hr.len, HP.len hk]
    refine ⟨m3.drop m.length, ?_⟩
    have ht : m3.take m.length = m := by
     apply List.ext_getElem?
     intro i
     by_cases hi : i < m.length
     ·rw [List.getElem?_take_of_lt hi, List.getElem?_eq_getElem hi]
      exact r6 i _ (by omega) (q6 i _ (by omega) (List.getElem?_eq_getElem hi))
     ·rw [List.getElem?_eq_none (by simp; omega), List.getElem?_eq_none (by omega)]
    conv => lhs; rw [← List.take_append_drop m.length m3]
    rw [ht]
   ·intro b hb
    rcases r5.inew b hb with q | q | q
    ·exact q5.inew b q
    ·exact .inr (q5.ow b q)
    ·simp only [World.putObj_size] at q
     exact .inr (.inr (Nat.le_trans q5.size q))
end
end Go.Abs
namespace Go.Abs
open Go
def AOpsC (P : Program) (K : List AV → List AO → Prop) : List (Option Tmp × Op) → List AV → List AO → Prop
 | [], g, H => K g H
 | (d, op) :: os, g, H => ∃ v, aop P g H op = some (v, H) ∧ AOpsC P K os (put g d v) H
def core (o : Oper) : Option Tmp × Op × Option (Nat × Bool) := (o.dst, o.op, o.guard)
def plainC (l : List (Option Tmp × Op)) : List (Option Tmp × Op × Option (Nat × Bool)) := l.map fun p => (p.1, p.2, none)
theorem AOps_of {P : Program} {ops : Array Oper} {K : List AV → List AO → Prop} : ∀ {os : List Oper} {cs : List (Option Tmp × Op)} {g : List AV} {H : List AO}, os.map core = plainC cs → AOpsC P K cs g H → AOps P ops K os g H
 | [], [], g, H, _, h => h
 | [], _ :: _, g, H, e, _ => by simp [plainC] at e
 | _ :: _, [], g, H, e, _ => by simp [plainC] at e
 | o :: os, (d, op) :: cs, g, H, e, h => by
  simp only [List.map_cons, plainC, core, List.cons.injEq, Prod.mk.injEq] at e
  obtain ⟨⟨rfl, rfl, hg⟩, e2⟩ := e
  obtain ⟨v, h1, h2⟩ := h
  simp only [AOps, AOp]
  unfold AOpR
  have hw : wantA ops g o = some true := by unfold wantA; rw [hg]
  rw [hw]
  dsimp only
  unfold AExecR
  split
  ·rename_i f args ats hop
   rw [hop] at h1
   simp [aop] at h1
  ·exact .inl ⟨v, H, h1, AOps_of e2 h2⟩
theorem aop_load {P : Program} {g : List AV} {H : List AO} {t : TypeId} {a : Operand} {v : AV} (h : oLoad2 P t (acells H (ev g a)) = some v) : aop P g H (.load t a) = some (v, H) := by
 simp only [aop]
 cases hc : acells H (ev g a) with
 | none => rw [hc] at h; cases h
 | some x =>
  obtain ⟨cs, off⟩ := x
  rw [hc] at h
  simp only [oLoad2, fApart_eq] at h
  simp [h]
noncomputable def bwElem (P : Program) (tS tE : TypeId) (box : AV) (i : Nat) (h : HP) : Option AV := match oLoad2 P tS (fCells h box) with
 | none => none
 | some s => match aindexAddr P tS s (Int.ofNat i) with
  | none => none
  | some p => oLoad2 P tE (fCells h p)
def bwNext (k : HP → Option HP) : Option HP → Option HP
 | some h => k h
 | none => none
def bwOne (rd : List AV → HP → Option HP) (i : Nat) (h : HP) : Option AV → Option HP
 | some v => rd [.v (.int .i64 (Int.ofNat i)), v] h
 | none => none
noncomputable def bwLoop (P : Program) (tS tE : TypeId) (box : AV) (rd : List AV → HP → Option HP) (n : Nat) : HP → Option HP :=
 Nat.rec (motive := fun _ => HP → Option HP) (fun h => some h) (fun i ih h => bwNext ih (bwOne rd i h (bwElem P tS tE box i h))) n
def lenSl : AV → Option Nat
 | .v (.slice none n _) => some n
 | .em => some 0
 | .im n _ => some n
 | .sl _ _ n => some n
 | _ => none
def bwLen3 : Option TI → Option Nat → Option Nat
 | some ⟨.slice _, _, _, _⟩, some n => match Nat.ble n 9223372036854775807 with
  | true => some n
  | false => none
 | _, _ => none
noncomputable def bwLen (P : Program) (tS : TypeId) (box : AV) (h : HP) : Option Nat := match oLoad2 P tS (fCells h box) with
 | some s => bwLen3 (ti P tS) (lenSl s)
 | none => none
def bwGo (k : Nat → HP → Option HP) (h : HP) : Option Nat → Option HP
 | some n => k n h
 | none => none
noncomputable def bwRun (P : Program) (tS tE : TypeId) (box : AV) (rd : List AV → HP → Option HP) (h : HP) : Option HP := bwGo (bwLoop P tS tE box rd) h (bwLen P tS box h)
structure BwCode (c : Code) (tS tE : TypeId) : Prop where
  ex : ∃ (i0 i1 i2 i3 b b1 : Nat) (o0 o1 o2 o3 : Array Oper) (tI tJ tK tB : TypeId) (y : Oper) (z : List Oper),
    c = .seq (.region i0 o0 false) (.block b (.loop (.seq (.seq (.region i1 o1 false) (.cond (.tmp 8) .skip (.exit b))) (.seq (.block b1 (.seq (.region i3 o3 false) (.cond (.tmp 18) .ret .skip))) (.region i2 o2 false))))) ∧
    o0.toList.map core = plainC [(some 4, .load tS (.tmp 1)), (some 5, .call ⟨.builtin .len, #[.tmp 4], #[tS]⟩), (some 6, .binOp .sub tI (.tmp 5) (.const (.int .i64 1)) tJ), (some 3, .assign (.tmp 6))] ∧
    o1.toList.map core = plainC [(some 7, .move (.tmp 3)), (some 8, .binOp .geq tI (.tmp 7) (.const (.int .i64 0)) tJ)] ∧
    o3.toList = o3.toList.take 6 ++ y :: z ∧
    (o3.toList.take 6).map core = plainC [(some 11, .move (.tmp 0)), (some 12, .move (.tmp 3)), (some 13, .load tS (.tmp 1)), (some 14, .move (.tmp 3)), (some 15, .indexAddr tS (.tmp 13) (.tmp 14)), (some 16, .load tE (.tmp 15))] ∧
    (∃ ats2, y.op = .call ⟨.value (.tmp 11), #[.tmp 12, .tmp 16], ats2⟩) ∧ y.guard = none ∧ y.dst = some 17 ∧
    z.map core = plainC [(some 18, .unOp .not tB (.tmp 17))] ∧
    o2.toList.map core = plainC [(some 9, .move (.tmp 3)), (some 10, .binOp .sub tK (.tmp 9) (.const (.int .i64 1)) tJ), (some 3, .assign (.tmp 10))]
section
variable {P : Program} {l : Nat} {rec : Loop} {g0 : List AV} {tS tE : TypeId} {box : AV} {rd : List AV → HP → Option HP}
theorem bwElem_ok {i : Nat} {h : HP} (hk : h.ok) {v : AV} (e : bwElem P tS tE box i h = some v) : ∃ s p, oLoad2 P tS (acells h.L box) = some s ∧ aindexAddr P tS s (i : Int) = some p ∧ oLoad2 P tE (acells h.L p) = some v := by
 unfold bwElem at e
 rw [fCells_eq hk] at e
 split at e
 ·cases e
 ·rename_i s hs
  split at e
  ·cases e
  ·rename_i p hp
   rw [fCells_eq hk] at e
   exact ⟨s, p, hs, hp, e⟩
theorem len_ok {H : List AO} {s : AV} {n : Nat} {e : TypeId} {q : Nat × Nat × List Value} (ht : ti P tS = some ⟨.slice e, q.1, q.2.1, q.2.2⟩) (h : lenSl s = some n) : abuiltin P H .len #[tS] [s] = some (.v (.int .i64 n), H) := by
 unfold lenSl at h
 split at h <;> first | (cases h; done) | (injection h with h; subst h; simp [abuiltin, ht])
theorem YW_backward {c : Code} (hb : BwCode c tS tE) (hrd : ∀ i v (h h' : HP), h.ok → rd [.v (.int .i64 i), v] h = some h' → (h'.ok ∧ h.n ≤ h'.n) ∧ RdC P l rec g0 [.v (.int .i64 i), v] h.L h'.L) {h hE : HP} (hk : h.ok) (e : bwRun P tS tE box rd h = some hE) :
 YW P l rec g0 c (fun e g H => (e = .normal ∨ e = .ret) ∧ H = hE.L ∧ hE.ok ∧ h.n ≤ hE.n) ([.fn (.yield l) [] [], box] ++ List.replicate 17 (.v undef)) h.L := by
 obtain ⟨i0, i1, i2, i3, b, b1, o0, o1, o2, o3, tI, tJ, tK, tB, y, z, rfl, h0, ho1, h3a, h3b, ⟨ats2, hy⟩, hyg, hyd, hz, ho2⟩ := hb.ex
 obtain ⟨n, hlen, hrun, hn⟩ : ∃ n : Nat, (∃ s, oLoad2 P tS (acells h.L box) = some s ∧ abuiltin P h.L .len #[tS] [s] = some (.v (.int .i64 n), h.L)) ∧ bwLoop P tS tE box rd n h = some hE ∧ n ≤ 9223372036854775807 := by
  unfold bwRun bwLen at e
  rw [fCells_eq hk] at e
  cases hs : oLoad2 P tS (acells h.L box) with
  | none => rw [hs] at e; cases e
  | some s =>
   rw [hs] at e
   dsimp only at e
   unfold bwLen3 at e
   split at e
   ·rename_i _ et _ _ _ n ht hl
    cases hn : Nat.ble n 9223372036854775807
    ·rw [hn] at e; cases e
    ·rw [hn] at e
     exact ⟨n, ⟨s, rfl, len_ok (q := (_, _, _)) ht hl⟩, e, by rwa [Nat.ble_eq] at hn⟩
   ·cases e
 obtain ⟨s0, hs0, hl0⟩ := hlen
 have w1 : ∀ i : Nat, i ≤ 9223372036854775807 → IntKind.i64.wrap ((i : Int) - 1) = (i : Int) - 1 := fun i hi => by
  have := wrapF_eq .i64 ((i : Int) - 1)
  rw [← this]
  have hin : in64 ((i : Int) - 1) = true := by
   cases i with
   | zero => rfl
   | succ i =>
    have : ((i + 1 : Nat) : Int) - 1 = Int.ofNat i := by simp
    rw [this]
    simp only [in64, Nat.ble_eq]; omega
  rw [hin]; rfl
 refine YW_seq (YW.of_AW (AW_region ?_))
 refine AOps_of h0 ?_
 refine ⟨s0, aop_load hs0, .v (.int .i64 n), by simpa [aop, ev, put] using hl0, .v (.int .i64 ((n : Int) - 1)), by simp [aop, ev, put, abin, aint, lift, w1 n hn], _, rfl, ?_⟩
 show YW P l rec g0 _ _ _ _
 refine YW_block ?_
 refine YW_loop (fun i g H => g.length = 19 ∧ ev g (.tmp 0) = .fn (.yield l) [] [] ∧ ev g (.tmp 1) = box ∧ ev g (.tmp 3) = .v (.int .i64 ((i : Int) - 1)) ∧ i ≤ 9223372036854775807 ∧ ∃ h1 : HP, h1.ok ∧ h.n ≤ h1.n ∧ H = h1.L ∧ bwLoop P tS tE box rd i h1 = some hE) n ?_ ?_
 ·refine ⟨by simp [put], by simp [ev, put], by simp [ev, put], by simp [ev, put], hn, h, hk, Nat.le_refl _, rfl, hrun⟩
 rintro i g _ ⟨gl, g0', g1', g3', hi, h1, k1, kn, rfl, hr⟩
 have evp : ∀ (g : List AV) (d t : Nat) (v : AV), g.length = 19 → d < 19 → ev (put g (some d) v) (.tmp t) = if d = t then v else ev g (.tmp t) := fun g d t v hl hd => by
  simp only [ev, put, List.getD_eq_getElem?_getD, List.getElem?_set]
  split
  ·simp [hl, hd]
  ·rfl
 have pl : ∀ (g : List AV) (d : Nat) (v : AV), (put g (some d) v).length = g.length := fun g d v => by simp [put]
 refine YW_seq ?_
 refine YW_seq ?_
 refine YW.of_AW (AW_region (AOps_of ho1 ?_))
 refine ⟨.v (.int .i64 ((i : Int) - 1)), by simp [aop, g3'], .v (.bool (decide (1 ≤ i))), ?_, ?_⟩
 ·have e7 := evp g 7 7 (.v (.int .i64 ((i : Int) - 1))) gl (by omega)
  simp only [if_true] at e7
  simp only [aop, e7]
  simp [ev, lift, abin, aint]
  omega
 simp only [AOpsC, thenA]
 generalize hga : put (put g (some 7) (.v (.int .i64 ((i : Int) - 1)))) (some 8) (.v (.bool (decide (1 ≤ i)))) = ga
 have al : ga.length = 19 := by rw [← hga, pl, pl, gl]
 have a8 : ev ga (.tmp 8) = .v (.bool (decide (1 ≤ i))) := by rw [← hga, evp _ _ _ _ (by rw [pl, gl]) (by omega)]; simp
 have aK : ∀ t : Nat, t ≠ 7 → t ≠ 8 → ev ga (.tmp t) = ev g (.tmp t) := fun t q1 q2 => by
  rw [← hga, evp _ _ _ _ (by rw [pl, gl]) (by omega), if_neg (fun q => q2 q.symm), evp _ _ _ _ gl (by omega), if_neg (fun q => q1 q.symm)]
 refine YW_cond a8 ?_
 cases i with
 | zero =>
  simp only [show decide (1 ≤ 0) = false from rfl]
  cases hr
  refine YW.of_AW (AW_exit ?_)
  simp only [thenA, blockA, if_true]
  exact ⟨.inl (by trivial), (by trivial), k1, kn⟩
 | succ i =>
  have : decide (1 ≤ i + 1) = true := by simp
  rw [if_pos this]
  refine YW.of_AW (AW_skip ?_)
  simp only [thenA]
  have hr : bwNext (bwLoop P tS tE box rd i) (bwOne rd i h1 (bwElem P tS tE box i h1)) = some hE := hr
  cases he : bwElem P tS tE box i h1 with
  | none => rw [he] at hr; cases hr
  | some v =>
   rw [he] at hr
   simp only [bwOne] at hr
   cases hrr : rd [.v (.int .i64 (Int.ofNat i)), v] h1 with
   | none => rw [hrr] at hr; cases hr
   | some h2' =>
    rw [hrr] at hr
    simp only [bwNext] at hr
    obtain ⟨⟨k2, l2⟩, hrdc⟩ := hrd _ _ _ _ k1 hrr
    obtain ⟨s, p, p1, p2, p3⟩ := bwElem_ok k1 he
    have hi1 : (((i + 1 : Nat) : Int) - 1) = (i : Int) := by simp
    rw [hi1] at g3'
    refine YW_seq (YW_block (YW_seq ?_))
    have a0 : ev ga (.tmp 0) = .fn (.yield l) [] [] := by rw [aK 0 (by decide) (by decide)]; exact g0'
    have a1 : ev ga (.tmp 1) = box := by rw [aK 1 (by decide) (by decide)]; exact g1'
    have a3 : ev ga (.tmp 3) = .v (.int .i64 i) := by rw [aK 3 (by decide) (by decide)]; exact g3'
    refine YW_region_y (o3.toList.take 6) z y (.tmp 11) _ ats2 h3a hy hyg (AOps_of h3b ?_)
    refine ⟨_, rfl, _, rfl, s, ?_, _, rfl, p, ?_, v, ?_, ?_⟩
    ·refine aop_load ?_
     rw [evp _ _ _ _ (by rw [pl, al]) (by omega), if_neg (by omega), evp _ _ _ _ al (by omega), if_neg (by omega), a1]
     exact p1
    ·have q1 : ev (put (put (put (put ga (some 11) (ev ga (.tmp 0))) (some 12) (ev (put ga (some 11) (ev ga (.tmp 0))) (.tmp 3))) (some 13) s) (some 14) (ev (put (put (put ga (some 11) (ev ga (.tmp 0))) (some 12) (ev (put ga (some 11) (ev ga (.tmp 0))) (.tmp 3))) (some 13) s) (.tmp 3))) (.tmp 14) = .v (.int .i64 i) := by
      rw [evp _ _ _ _ (by rw [pl, pl, pl, al]) (by omega), if_pos rfl, evp _ _ _ _ (by rw [pl, pl, al]) (by omega), if_neg (by omega), evp _ _ _ _ (by rw [pl, al]) (by omega), if_neg (by omega), evp _ _ _ _ al (by omega), if_neg (by omega), a3]
     simp only [aop, q1]
     rw [evp _ _ _ _ (by rw [pl, pl, pl, al]) (by omega), if_neg (by omega), evp _ _ _ _ (by rw [pl, pl, al]) (by omega), if_pos rfl, p2]
     rfl
    ·refine aop_load ?_
     rw [evp _ _ _ _ (by rw [pl, pl, pl, pl, al]) (by omega), if_pos rfl]
     exact p3
    ·simp only [AOpsC]
     generalize hgb : put (put (put (put (put (put ga (some 11) _) (some 12) _) (some 13) s) (some 14) _) (some 15) p) (some 16) v = gb
     have bl : gb.length = 19 := by rw [← hgb, pl, pl, pl, pl, pl, pl, al]
     have bK : ∀ t : Nat, t < 11 → ev gb (.tmp t) = ev ga (.tmp t) := fun t ht => by
      rw [← hgb, evp _ _ _ _ (by rw [pl, pl, pl, pl, pl, al]) (by omega), if_neg (by omega), evp _ _ _ _ (by rw [pl, pl, pl, pl, al]) (by omega), if_neg (by omega), evp _ _ _ _ (by rw [pl, pl, pl, al]) (by omega), if_neg (by omega),
       evp _ _ _ _ (by rw [pl, pl, al]) (by omega), if_neg (by omega), evp _ _ _ _ (by rw [pl, al]) (by omega), if_neg (by omega), evp _ _ _ _ al (by omega), if_neg (by omega)]
     have b11 : ev gb (.tmp 11) = .fn (.yield l) [] [] := by
      rw [← hgb, evp _ _ _ _ (by rw [pl, pl, pl, pl, pl, al]) (by omega), if_neg (by omega), evp _ _ _ _ (by rw [pl, pl, pl, pl, al]) (by omega), if_neg (by omega), evp _ _ _ _ (by rw [pl, pl, pl, al]) (by omega), if_neg (by omega),
       evp _ _ _ _ (by rw [pl, pl, al]) (by omega), if_neg (by omega), evp _ _ _ _ (by rw [pl, al]) (by omega), if_neg (by omega), evp _ _ _ _ al (by omega), if_pos rfl, a0]
     have b12 : ev gb (.tmp 12) = .v (.int .i64 i) := by
      rw [← hgb, evp _ _ _ _ (by rw [pl, pl, pl, pl, pl, al]) (by omega), if_neg (by omega), evp _ _ _ _ (by rw [pl, pl, pl, pl, al]) (by omega), if_neg (by omega), evp _ _ _ _ (by rw [pl, pl, pl, al]) (by omega), if_neg (by omega),
       evp _ _ _ _ (by rw [pl, pl, al]) (by omega), if_neg (by omega), evp _ _ _ _ (by rw [pl, al]) (by omega), if_pos rfl, evp _ _ _ _ al (by omega), if_neg (by omega), a3]
     have b16 : ev gb (.tmp 16) = v := by
      rw [← hgb, evp _ _ _ _ (by rw [pl, pl, pl, pl, pl, al]) (by omega), if_pos rfl]
     have eargs : ([Operand.tmp 12, Operand.tmp 16]).map (ev gb) = [.v (.int .i64 i), v] := by simp [b12, b16]
     refine ⟨b11, h2'.L, ?_, ?_⟩
     ·show RdC P l rec g0 ([Operand.tmp 12, Operand.tmp 16].map (ev gb)) h1.L h2'.L
      rw [eargs]; exact hrdc
     ·rw [hyd]
      refine AOps_of hz ⟨.v (.bool false), ?_, ?_⟩
      ·have : ev (put gb (some 17) (.v (.bool true))) (.tmp 17) = .v (.bool true) := by rw [evp _ _ _ _ bl (by omega), if_pos rfl]
       simp [aop, this, aun]
      simp only [AOpsC, thenA]
      generalize hgc : put (put gb (some 17) (.v (.bool true))) (some 18) (.v (.bool false)) = gc
      have cl : gc.length = 19 := by rw [← hgc, pl, pl, bl]
      have c18 : ev gc (.tmp 18) = .v (.bool false) := by rw [← hgc, evp _ _ _ _ (by rw [pl, bl]) (by omega), if_pos rfl]
      have cK : ∀ t : Nat, t < 11 → ev gc (.tmp t) = ev ga (.tmp t) := fun t ht => by
       rw [← hgc, evp _ _ _ _ (by rw [pl, bl]) (by omega), if_neg (by omega), evp _ _ _ _ bl (by omega), if_neg (by omega), bK t ht]
      refine YW_cond c18 (YW.of_AW ?_)
      rw [if_neg (by simp)]
      refine AW_skip ?_
      simp only [blockA, thenA]
      refine YW.of_AW (AW_region (AOps_of ho2 ?_))
      have c3 : ev gc (.tmp 3) = .v (.int .i64 i) := by rw [cK 3 (by omega)]; exact a3
      refine ⟨_, rfl, .v (.int .i64 ((i : Int) - 1)), ?_, _, rfl, ?_⟩
      ·have e9 : ev (put gc (some 9) (ev gc (.tmp 3))) (.tmp 9) = .v (.int .i64 i) := by rw [evp _ _ _ _ cl (by omega), if_pos rfl, c3]
       simp only [aop, e9]
       simp [ev, lift, abin, aint, w1 i (by omega)]
      simp only [AOpsC, thenA]
      refine ⟨i, Nat.lt_succ_self i, ?_, ?_, ?_, ?_, by omega, h2', k2, Nat.le_trans kn l2, rfl, hr⟩
      ·rw [pl, pl, pl, cl]
      ·rw [evp _ _ _ _ (by rw [pl, pl, cl]) (by omega), if_neg (by omega), evp _ _ _ _ (by rw [pl, cl]) (by omega), if_neg (by omega), evp _ _ _ _ cl (by omega), if_neg (by omega), cK 0 (by omega), a0]
      ·rw [evp _ _ _ _ (by rw [pl, pl, cl]) (by omega), if_neg (by omega), evp _ _ _ _ (by rw [pl, cl]) (by omega), if_neg (by omega), evp _ _ _ _ cl (by omega), if_neg (by omega), cK 1 (by omega), a1]
      ·rw [evp _ _ _ _ (by rw [pl, pl, cl]) (by omega), if_pos rfl, evp _ _ _ _ (by rw [pl, cl]) (by omega), if_pos rfl]
end
end Go.Abs
namespace Go.Abs
open Go
def mkMark (b : Nat) : Deferred := { target := .collected b, args := #[] }
def Marks (N : Nat) (O I : Nat → Prop) (w : World) (ds : List Deferred) : Prop :=
 ∃ bs : List Nat, ds = bs.map mkMark ∧ bs.Nodup ∧ ∀ b ∈ bs, N ≤ b ∧ w.heap[b]? = some (.deferred (some [])) ∧ ¬ O b ∧ ¬ I b
theorem Marks.ex {N : Nat} {O I O' I' : Nat → Prop} {w w' : World} {ds : List Deferred} (h : Marks N O I w ds) (k : Ex I O w I' O' w') : Marks N O' I' w' ds := by
 obtain ⟨bs, h1, h2, h3⟩ := h
 refine ⟨bs, h1, h2, fun b hb => ?_⟩
 obtain ⟨q0, q1, q2, q3⟩ := h3 b hb
 have hl := lt_of_heap q1
 refine ⟨q0, ?_, fun q => ?_, fun q => ?_⟩
 ·rw [k.blk b hl q2]; exact q1
 ·rcases k.ow b q with q | q
  ·exact q2 q
  ·omega
 ·rcases k.inew b q with q | q | q
  ·exact q3 q
  ·exact q2 q
  ·omega
def BT (P : Program) (k : Nat) (c : Code) (Q : Exit → List AV → List AO → Prop) (g : List AV) (H : List AO) : Prop :=
 ∀ (I : Nat → Prop) (m : List Loc) (a : Act) (w : World) (n N : Nat), HR I m H w → VRs I m w g a.tmps.toList → N ≤ w.heap.size → Marks N (Own H m) I w a.defers →
  c.wpIn (fR none) n P (fun e a' w' => ∃ g' H' I' m', Q e g' H' ∧ HR I' m' H' w' ∧ VRs I' m' w' g' a'.tmps.toList ∧ Marks N (Own H' m') I' w' a'.defers ∧ Ex I (Own H m) w I' (Own H' m') w' ∧ Kp k m m') a w
section
variable {P : Program} {k : Nat} {Q Q' : Exit → List AV → List AO → Prop} {g : List AV} {H : List AO}
theorem BT.of_BW {c : Code} (h : ∀ D : DSt, @BW D P k c Q g H) : BT P k c Q g H := fun I m a w n N h1 h2 hN h3 =>
 wpIn_mono (h ⟨a.defers⟩ I m a w h1 h2 rfl none n) fun e a' w' ⟨g', H', I', m', q1, q2, q3, q4, q5, q6⟩ => ⟨g', H', I', m', q1, q2, q3, by rw [q4]; exact h3.ex q5, q5, q6⟩
theorem BT.mono {c : Code} (h : BT P k c Q g H) (hq : ∀ e g H, Q e g H → Q' e g H) : BT P k c Q' g H := fun I m a w n N h1 h2 hN h3 =>
 wpIn_mono (h I m a w n N h1 h2 hN h3) fun e a' w' ⟨g', H', I', m', q, q2⟩ => ⟨g', H', I', m', hq _ _ _ q, q2⟩
theorem BT_seq {x y : Code} (h : BT P k x (thenA (BT P k y Q) Q) g H) : BT P k (.seq x y) Q g H := by
 intro I m a w n N h1 h2 hN h3
 refine wpIn_seq (wpIn_mono (h I m a w n N h1 h2 hN h3) ?_)
 rintro e a' w' ⟨g', H', I', m', k4, k5, k6, k7, k8, k9⟩
 cases e with
 | normal =>
  refine wpIn_mono (k4 I' m' a' w' n N k5 k6 (Nat.le_trans hN k8.size) k7) ?_
  rintro e a2 w2 ⟨g2, H2, I2, m2, q1, q2, q3, q4, q5, q6⟩
  exact ⟨g2, H2, I2, m2, q1, q2, q3, q4, k8.trans q5, k9.trans q6⟩
 | _ => exact ⟨g', H', I', m', k4, k5, k6, k7, k8, k9⟩
theorem BT_block {id : Nat} {c : Code} (h : BT P k c (blockA id Q) g H) : BT P k (.block id c) Q g H := by
 intro I m a w n N h1 h2 hN h3
 refine wpIn_block (wpIn_mono (h I m a w n N h1 h2 hN h3) ?_)
 rintro e a' w' ⟨g', H', I', m', k4, k5⟩
 cases e with
 | exit id' =>
  simp only [blockA] at k4
  simp only [Exit.inBlock]
  split at k4
  ·rename_i hid; rw [if_pos hid]; exact ⟨g', H', I', m', k4, k5⟩
  ·rename_i hid; rw [if_neg hid]; exact ⟨g', H', I', m', k4, k5⟩
 | _ => exact ⟨g', H', I', m', k4, k5⟩
end
def BwFn (P : Program) (n : FuncId) (tS tE : TypeId) : Prop :=
 ∃ (fn : Func) (c : Code), P.funcs[n]? = some fn ∧ fn.body = some c ∧ BwCode c tS tE ∧ fn.ntmps = 19 ∧ fn.results = #[] ∧ (fn.name == "runtime.NumGoroutine") = false
theorem alloc_old {w : World} {o : Obj} {b : Nat} (h : b < w.heap.size) : (w.alloc o).heap[b]? = w.heap[b]? := by
 show (w.heap.push o)[b]? = _
 rw [Array.getElem?_push, if_neg (by omega)]
section
variable {P : Program} {call : CT} {dr : DT}
theorem BT_range (hc : CTok P call) (hd : DTok P dr) {fuel k : Nat} {f : Operand} {ps : Array Tmp} {assign body : Code} {g : List AV} {h hE : HP} {nf : FuncId} {tS tE : TypeId} {box : AV} (hk : h.ok) (hkn : k ≤ h.n) (hf : ev g f = .fn (.func nf) [] [box]) (hfn : BwFn P nf tS tE) (hps : ps.size = 2)
 (e : bwRun P tS tE box (rdRun P call dr fuel g ps assign body) h = some hE) : (hE.ok ∧ h.n ≤ hE.n) ∧ BT P k (.rangeFunc f ps assign body) (PostC .normal g hE.L) g h.L := by
 obtain ⟨fn, cb, q1, q2, q3, q4, q5, q6⟩ := hfn
 have hrd : ∀ (l : Nat) (rec : Loop), rec.state = .ready → rec.pending = none → rec.params = ps → rec.assign = assign → rec.body = body → ∀ i v (h h' : HP), h.ok → rdRun P call dr fuel g ps assign body [.v (.int .i64 i), v] h = some h' → (h'.ok ∧ h.n ≤ h'.n) ∧ RdC P l rec g [.v (.int .i64 i), v] h.L h'.L := by
  intro l rec r1 r2 r3 r4 r5 i v h h' hk e
  subst r3; subst r4; subst r5
  exact RdC_of_run hc hd r1 r2 hk (by simp [hps]) e
 have hsz : hE.ok ∧ h.n ≤ hE.n := by
  have grow : ∀ (n : Nat) (h : HP), h.ok → bwLoop P tS tE box (rdRun P call dr fuel g ps assign body) n h = some hE → hE.ok ∧ h.n ≤ hE.n := by
   intro n
   induction n with
   | zero => intro h hk e; cases e; exact ⟨hk, Nat.le_refl _⟩
   | succ n ih =>
    intro h hk e
    have e : bwNext (bwLoop P tS tE box (rdRun P call dr fuel g ps assign body) n) (bwOne (rdRun P call dr fuel g ps assign body) n h (bwElem P tS tE box n h)) = some hE := e
    cases he : bwElem P tS tE box n h with
    | none => rw [he] at e; cases e
    | some v =>
     rw [he] at e
     simp only [bwOne] at e
     cases hr : rdRun P call dr fuel g ps assign body [.v (.int .i64 (Int.ofNat n)), v] h with
     | none => rw [hr] at e; cases e
     | some h2 =>
      rw [hr] at e
      obtain ⟨⟨p1, p2⟩, _⟩ := hrd 0 { state := .ready, pending := none, fn := 0, tmps := #[], params := ps, assign, body, defers := 0 } rfl rfl rfl rfl rfl _ _ _ _ hk hr
      obtain ⟨p3, p4⟩ := ih h2 p1 e
      exact ⟨p3, Nat.le_trans p2 p4⟩
  unfold bwRun bwGo at e
  split at e
  ·exact grow _ h hk e
  ·cases e
 refine ⟨hsz, fun I m a w n N hr hg hN hm => ?_⟩
 have hfv := VR.ev hg f
 rw [hf] at hfv
 simp only [VR] at hfv
 obtain ⟨xs, ys, he, hxs, hys⟩ := hfv
 simp only [VRs] at hxs hys
 obtain rfl : xs = #[] := by simpa using hxs
 obtain ⟨bx, _, hys, hbx, rfl⟩ := hys
 obtain rfl : ys = #[bx] := by apply Array.ext'; simpa using hys
 refine wpIn_rangeFunc fun fn' _ => ?_
 let rc : Loop := { state := .ready, pending := none, fn := fn', tmps := a.tmps, params := ps, assign, body, defers := w.heap.size }
 let w0 : World := w.alloc (.deferred (some []))
 let w1 : World := w0.alloc (.loop rc)
 let l := w.heap.size + 1
 have s0 : w0.heap.size = w.heap.size + 1 := World.size_alloc _ _
 have s1 : w1.heap.size = w.heap.size + 2 := (World.size_alloc _ _).trans (by rw [s0])
 have old : ∀ b, b < w.heap.size → w1.heap[b]? = w.heap[b]? := fun b hb => (alloc_old (by omega)).trans (alloc_old hb)
 have hr1 : HR I m h.L w1 := hr.aside (by omega) fun b hb _ => old b hb
 have hown : ∀ b, w.heap.size ≤ b → ¬ Own h.L m b := fun b hb ⟨id, o, L, p1, p2, p3, p4, p5⟩ => by
  have := hr.lt p1 p2 p3 p4
  omega
 have himm : ∀ b, w.heap.size ≤ b → ¬ I b := fun b hb p => by have := hr.ilt b p; omega
 have hlp : Lp l rc g I m h.L w1 := ⟨⟨by
  have := World.alloc_heap_new w0 (.loop rc)
  rw [s0] at this; exact this, hown l (by omega), himm l (by omega)⟩, VRs.aside hr (fun b hb _ => old b hb) hg⟩
 have hmk : At w.heap.size (.deferred (some [])) I m h.L w1 := ⟨(alloc_old (by omega)).trans (World.alloc_heap_new w _), hown _ (Nat.le_refl _), himm _ (Nat.le_refl _)⟩
 have hres : ∃ d, (resolve a.eval (rangeCall f l) 0).run P w1 = .ok d w1 ∧ (invoke d.target d.args).run P w1 = .ok (.enter nf #[.func (.yield l) #[] #[], bx]) w1 := by
  have hcst : a.eval (.const (.func (.yield l) #[] #[])) = .func (.yield l) #[] #[] := rfl
  refine ⟨{ target := .fn (.func nf) #[bx], args := #[.func (.yield l) #[] #[]] }, by simp [rangeCall, resolve, he, Deferred.ofValue, hcst], ?_⟩
  simp [invoke, callFunc, q1, q2]
  intro hh
  simp [hh] at q6
 obtain ⟨d, d1, d2⟩ := hres
 refine ⟨l, _, w1, d, w1, nf, _, w1, run_enterLoop_outer fn' a.tmps ps assign body, d1, fun _ _ => trivial, d2, fun q => (by cases q), ?_⟩
 have hY := YW_backward (l := l) (rec := rc) (g0 := g) q3 (hrd l rc rfl rfl rfl rfl rfl) hk e
 refine callsIn_of_wp q1 q2 trivial (wpIn_mono (hY I m { tmps := #[.func (.yield l) #[] #[], bx] ++ Array.replicate (fn.ntmps - 2) undef, defers := [] } w1 (n - 1) hr1 ?_ rfl hlp) ?_)
 ·rw [q4]
  simp only [Array.toList_append, Array.toList_replicate]
  have hu : ∀ k, VRs I m w1 (List.replicate k (.v undef)) (List.replicate k undef) := fun k => by
   induction k with
   | zero => simp [VRs]
   | succ k ih => simp only [List.replicate_succ, VRs]; exact ⟨_, _, rfl, by simp only [VR], ih⟩
  refine VRs.append (I := I) ?_ (hu 17)
  simp only [VRs]
  refine ⟨_, _, rfl, ?_, bx, [], rfl, ?_, rfl⟩
  ·simp only [VR]
   exact ⟨#[], #[], rfl, by simp [VRs], by simp [VRs]⟩
  ·have := VRs.aside hr (w' := w1) (fun b hb _ => old b hb) (cs := [box]) (xs := [bx]) (by simp only [VRs]; exact ⟨_, _, rfl, hbx, rfl⟩)
   simp only [VRs] at this
   obtain ⟨_, _, t, t2, _⟩ := this
   obtain ⟨rfl, _⟩ := List.cons.inj t
   exact t2
 rintro ex a3 w3 ⟨g3, _, I3, m3, ⟨hex, rfl, _, _⟩, r2, r3, r4, r5⟩
 have hlp3 := hlp.ext hr1 r5
 have hm3 : At w.heap.size (.deferred (some [])) I3 m3 hE.L w3 := hmk.ex r5.ex
 obtain ⟨t1, t2, t3⟩ := hlp3.at'.turn r2 (.loop { rc with state := .exhausted })
 have key : a3.defers = [] ∧ ∃ v, (results fn a3.tmps).run P w3 = .ok v w3 ∧ rangePost (fR none) n P l (fun e a' w' => ∃ g' H' I' m', PostC .normal g hE.L e g' H' ∧ HR I' m' H' w' ∧ VRs I' m' w' g' a'.tmps.toList ∧ Marks N (Own H' m') I' w' a'.defers ∧ Ex I (Own h.L m) w I' (Own H' m') w' ∧ Kp k m m')
  { a with defers := [{ target := .collected w.heap.size, args := #[] }] ++ a.defers } (.returned v) w3 := by
  refine ⟨r4, .tuple #[], by simp [results, q5], none, _, run_endLoop hlp3.at'.heap (by simp [rc]), g, hE.L, I3, m3, ⟨rfl, rfl, rfl⟩, t1, t3 hlp3.tmps, ?_, ?_, ?_⟩
  ·obtain ⟨bs, b1, b2, b3⟩ := hm
   refine ⟨w.heap.size :: bs, by simp [b1, mkMark], List.nodup_cons.2 ⟨fun q => ?_, b2⟩, fun b hb => ?_⟩
   ·have := lt_of_heap (b3 _ q).2.1; omega
   ·rcases List.mem_cons.1 hb with rfl | hb
    ·refine ⟨hN, ?_, hm3.own, hm3.imm⟩
     rw [put_other (by omega)]; exact hm3.heap
    ·obtain ⟨p0, p1, p2, p3⟩ := b3 b hb
     have hbl := lt_of_heap p1
     have hat : At b (.deferred (some [])) I m h.L w1 := ⟨(old b hbl).trans p1, p2, p3⟩
     have hat3 := hat.ex r5.ex
     refine ⟨p0, ?_, hat3.own, hat3.imm⟩
     rw [put_other (by omega)]; exact hat3.heap
  ·refine ⟨r5.os, r5.tape, r5.output, ?_, fun b hb hn => ?_, r5.imm, fun b hb => ?_, fun b hb => ?_⟩
   ·have := r5.size
    simp only [World.putObj_size]; omega
   ·rw [put_other (by omega), r5.blk b (by omega) hn, old b hb]
   ·rcases r5.ow b hb with q | q
    ·exact .inl q
    ·exact .inr (by omega)
   ·rcases r5.inew b hb with q | q | q
    ·exact .inl q
    ·exact .inr (.inl q)
    ·exact .inr (.inr (by omega))
  ·exact Kp.pre r5.pre
 cases ex with
 | normal => exact key
 | ret => exact key
 | _ => rcases hex with hex | hex <;> cases hex
end
end Go.Abs
namespace Go.Abs
open Go
theorem VS_list {k : Nat} {g g' : List AV} {H H' : List AO} (h : VS k [.tu g] H [.tu g'] H') : VS k g H g' H' := by
 intro I m w xs hr hx
 obtain ⟨I2, m2, k1, k2, k3⟩ := h I m w [.tuple xs.toArray] hr (by simp only [VRs, VR]; exact ⟨_, _, rfl, ⟨_, rfl, hx⟩, rfl⟩)
 refine ⟨I2, m2, k1, ?_, k3⟩
 simp only [VRs, VR] at k2
 obtain ⟨y, ys, e, ⟨zs, e2, k2⟩, _⟩ := k2
 injection e with e e3
 rw [← e] at e2
 injection e2 with e2
 rw [← e2] at k2
 exact k2
abbrev GH := List AV × HP
noncomputable def gcPut (g : List AV) (h : HP) (ids : List Nat) : GH := (rens (posN ids) g, ⟨ids.length, (ids.map (objN h (posN ids))).reverse⟩)
def gcIf (a b : GH) : Bool → GH
 | true => a
 | false => b
def gcAnd : Bool → Bool → Bool
 | true, b => b
 | false, _ => false
noncomputable def gcTry (k : Nat) (g : List AV) (h : HP) (ids : List Nat) : GH := gcIf (gcPut g h ids) (g, h) (gcAnd (closedN h ids [.tu g]) (firstN k ids))
noncomputable def gcL (k : Nat) (g : List AV) (h : HP) : GH := gcTry k g h (newIds k h (.tu g))
theorem gcTry_ok {k : Nat} {g : List AV} {h : HP} (hk : h.ok) (hn : k ≤ h.n) (ids : List Nat) : (gcTry k g h ids).2.ok ∧ k ≤ (gcTry k g h ids).2.n ∧ VS k g h.L (gcTry k g h ids).1 (gcTry k g h ids).2.L := by
 unfold gcTry
 cases hq : gcAnd (closedN h ids [.tu g]) (firstN k ids)
 ·exact ⟨hk, hn, VS.refl _ _ _⟩
 ·have ha : closedN h ids [.tu g] = true := by
   cases hc : closedN h ids [.tu g]
   ·rw [hc] at hq; cases hq
   ·rfl
  have hb : firstN k ids = true := by rw [ha] at hq; exact hq
  obtain ⟨c1, c2, c3, c4⟩ := closedN_spec ha
  simp only [okVs, Bool.and_true] at c3
  have key := VS_keep (k := k) (v := .tu g) (H := h.L) ids (posN ids) (fun j => memN j ids) (fun j hj => posN_get hj) (firstN_spec hb) c1 (fun j hj => by rw [HP.len hk]; exact c2 j hj) c3 (fun j o hj ho => by
   have := c4 j hj
   unfold okAt at this
   rw [rGet_eq hk, ho] at this
   exact this)
  simp only [AV.ren] at key
  have eL : (⟨ids.length, (ids.map (objN h (posN ids))).reverse⟩ : HP).L = ids.map fun j => (h.L.getD j .dead).ren (posN ids) := by
   show ((ids.map (objN h (posN ids))).reverse).reverse = _
   rw [List.reverse_reverse]
   refine List.map_congr_left fun j _ => ?_
   unfold objN
   rw [rGet_eq hk, List.getD_eq_getElem?_getD]
   cases h.L[j]? <;> rfl
  refine ⟨?_, ?_, ?_⟩
  ·show ((ids.map (objN h (posN ids))).reverse).length = ids.length
   simp
  ·show k ≤ ids.length
   by_cases hz : k = 0
   ·omega
   ·have := firstN_spec hb (k - 1) (by omega)
    have := (List.getElem?_eq_some_iff.1 this).1
    omega
  ·show VS k g h.L (rens (posN ids) g) (⟨ids.length, (ids.map (objN h (posN ids))).reverse⟩ : HP).L
   rw [eL]
   exact VS_list key
noncomputable def lGo (k : Nat) (f : Nat → List AV → HP → KR) : GH → KR
 | (g, h) => f (Nat.add h.n (Nat.add 32 (Nat.sub h.n k))) g h
noncomputable def lHead (k m : Nat) (f : Nat → List AV → HP → KR) (g : List AV) (h : HP) : Bool → KR
 | true => lGo k f (gcL k g h)
 | false => f m g h
noncomputable def lThen (k m : Nat) (f : Nat → List AV → HP → KR) : KR → KR
 | some (.normal, g, h) => lHead k m f g h (Nat.ble m h.n)
 | r => r
noncomputable def hintN (P : Program) (g : List AV) : Op → Option Nat
 | .slice t x lo hi (some mx) => match evF g x with
  | .sl id _ _ => some id
  | _ => none
 | _ => none
noncomputable def hintStep (ih : List AV → HP → Option Nat) (put : AV → List AV) (stuck : Option Nat) : OR2 → Option Nat
 | some (v, h') => ih (put v) h'
 | none => stuck
noncomputable def hint (P : Program) (call : CT) (ops l : List Oper) : List AV → HP → Option Nat :=
 List.rec (motive := fun _ => List AV → HP → Option Nat) (fun _ _ => none)
  (fun o _ ih g h => hintStep ih (fun v => putF g v o.dst) (hintN P g o.op) (cStep P call g h o.op (gWant ops g o.guard))) l
noncomputable def lIce2 (P : Program) (call : CT) (ops : List Oper) (g : List AV) (h : HP) (id : Nat) : Option AO → KR
 | some (.cells sz cs) => cReg (cOps P call ops ops g (rSet h id (.ice sz cs)))
 | _ => none
noncomputable def lIce (P : Program) (call : CT) (ops : List Oper) (g : List AV) (h : HP) : Option Nat → KR
 | some id => lIce2 P call ops g h id (rGet h id)
 | none => none
noncomputable def lReg (P : Program) (call : CT) (ops : List Oper) (g : List AV) (h : HP) : Option (List AV × HP) → KR
 | some r => cReg (some r)
 | none => lIce P call ops g h (hint P call ops ops g h)
noncomputable def lIceD2 (dr : DT) (ops : Array Oper) (g : List AV) (h : HP) (id : Nat) : Option AO → KR
 | some (.cells sz cs) => cReg (dr ops g (rSet h id (.ice sz cs)))
 | _ => none
noncomputable def lIceD (dr : DT) (ops : Array Oper) (g : List AV) (h : HP) : Option Nat → KR
 | some id => lIceD2 dr ops g h id (rGet h id)
 | none => none
noncomputable def lRegD (P : Program) (call : CT) (dr : DT) (ops : Array Oper) (g : List AV) (h : HP) : Option (List AV × HP) → KR
 | some r => cReg (some r)
 | none => lIceD dr ops g h (hint P call ops.toList ops.toList g h)
noncomputable def lCode (P : Program) (call : CT) (dr : DT) (k : Nat) (ih : Nat → Code → List AV → HP → KR) (m : Nat) (g : List AV) (h : HP) : Code → KR
 | .skip => some (.normal, g, h)
 | .ret => some (.ret, g, h)
 | .exit i => some (.exit i, g, h)
 | .seq a b => cThen (ih m b) (ih m a g h)
 | .cond x a b => cCond (ih m a g h) (ih m b g h) (evF g x)
 | .block i b => cBlk i (ih m b g h)
 | .loop b => lThen k m (fun m g h => ih m (.loop b) g h) (ih m b g h)
 | .region _ ops false => lReg P call ops.toList g h (cOps P call ops.toList ops.toList g h)
 | .region _ ops true => lRegD P call dr ops g h (dr ops g h)
 | _ => none
noncomputable def cL (P : Program) (call : CT) (dr : DT) (k : Nat) (n : Nat) : Nat → Code → List AV → HP → KR :=
 Nat.rec (motive := fun _ => Nat → Code → List AV → HP → KR) (fun _ _ _ _ => none) (fun _ ih m c g h => lCode P call dr k ih m g h c) n
section
variable {P : Program} {call : CT} {dr : DT}
theorem lHead_ok {k m : Nat} {f : Nat → List AV → HP → KR} {g : List AV} {h : HP} {b : Bool} (hk : h.ok) (hn : k ≤ h.n) {r : Exit × List AV × HP} (e : lHead k m f g h b = some r) : ∃ m2 g2 h2, h2.ok ∧ k ≤ h2.n ∧ VS k g h.L g2 h2.L ∧ f m2 g2 h2 = some r := by
 cases b
 ·exact ⟨m, g, h, hk, hn, VS.refl _ _ _, e⟩
 ·obtain ⟨q1, q2, q3⟩ := gcTry_ok (g := g) hk hn (newIds k h (.tu g))
  exact ⟨_, _, _, q1, q2, q3, e⟩
theorem cL_ok [DSt] (hc : CTok P call) (hd : DTok P dr) (k : Nat) : ∀ (n m : Nat) (c : Code) {g : List AV} {h : HP} {e : Exit} {g' : List AV} {h' : HP}, h.ok → k ≤ h.n → cL P call dr k n m c g h = some (e, g', h') → (h'.ok ∧ k ≤ h'.n) ∧ BW P k c (PostC e g' h'.L) g h.L
 | 0, m, c, g, h, e, g', h', hk, hn, he => by cases he
 | n + 1, m, c, g, h, e, g', h', hk, hn, he => by
  have he : lCode P call dr k (cL P call dr k n) m g h c = some (e, g', h') := he
  have ih := @cL_ok _ hc hd k n m
  cases c with
  | skip => cases he; exact ⟨⟨hk, hn⟩, BW.of_AW (AW_skip ⟨rfl, rfl, rfl⟩)⟩
  | ret => cases he; exact ⟨⟨hk, hn⟩, BW.of_AW (AW_ret ⟨rfl, rfl, rfl⟩)⟩
  | exit i => cases he; exact ⟨⟨hk, hn⟩, BW.of_AW (AW_exit ⟨rfl, rfl, rfl⟩)⟩
  | seq a b =>
   simp only [lCode] at he
   cases ha : cL P call dr k n m a g h with
   | none => rw [ha] at he; cases he
   | some r =>
    obtain ⟨e1, g1, h1⟩ := r
    rw [ha] at he
    obtain ⟨⟨k1, l1⟩, b1⟩ := ih a hk hn ha
    by_cases hx : e1 = .normal
    ·subst hx
     obtain ⟨⟨k2, l2⟩, b2⟩ := ih b k1 l1 he
     refine ⟨⟨k2, l2⟩, BW_seq (b1.mono ?_)⟩
     rintro _ _ _ ⟨rfl, rfl, rfl⟩
     exact b2
    ·have hq : (some (e1, g1, h1) : KR) = some (e, g', h') := by cases e1 <;> first | exact he | exact absurd rfl hx
     cases hq
     refine ⟨⟨k1, l1⟩, BW_seq (b1.mono ?_)⟩
     rintro ex _ _ ⟨rfl, rfl, rfl⟩
     cases ex <;> first | exact ⟨rfl, rfl, rfl⟩ | exact absurd rfl hx
  | cond x a b =>
   simp only [lCode, evF_eq] at he
   generalize hv : ev g x = v at he
   cases v <;> first | (cases he; done) | skip
   rename_i y
   cases y <;> first | (cases he; done) | skip
   rename_i t
   cases t
   ·obtain ⟨k1, b1⟩ := ih b hk hn he
    exact ⟨k1, BW_cond hv b1⟩
   ·obtain ⟨k1, b1⟩ := ih a hk hn he
    exact ⟨k1, BW_cond hv b1⟩
  | block i b =>
   simp only [lCode] at he
   cases hb : cL P call dr k n m b g h with
   | none => rw [hb] at he; cases he
   | some r =>
    obtain ⟨e1, g1, h1⟩ := r
    rw [hb] at he
    obtain ⟨k1, b1⟩ := ih b hk hn hb
    refine ⟨?_, BW_block (b1.mono ?_)⟩
    ·cases e1 <;> first | (cases he; exact k1) | skip
     simp only [cBlk] at he
     split at he <;> (cases he; exact k1)
    ·rintro ex _ _ ⟨rfl, rfl, rfl⟩
     cases ex <;> first | (cases he; exact ⟨rfl, rfl, rfl⟩) | skip
     rename_i j
     simp only [cBlk] at he
     simp only [blockA]
     cases hj : Nat.beq j i
     ·rw [hj] at he
      rw [if_neg (by intro q; subst q; simp at hj)]
      cases he; exact ⟨rfl, rfl, rfl⟩
     ·rw [hj] at he
      rw [if_pos (Nat.eq_of_beq_eq_true hj)]
      cases he; exact ⟨rfl, rfl, rfl⟩
  | loop b =>
   have key : ∀ (j : Nat), j ≤ n + 1 → ∀ {m : Nat} {g : List AV} {h : HP}, h.ok → k ≤ h.n → cL P call dr k j m (.loop b) g h = some (e, g', h') → h'.ok ∧ k ≤ h'.n := by
    intro j
    induction j with
    | zero => intro _ _ _ _ _ _ q; cases q
    | succ j ihj =>
     intro hj m g h hk hn q
     have q : lThen k m (fun m g h => cL P call dr k j m (.loop b) g h) (cL P call dr k j m b g h) = some (e, g', h') := q
     cases hb : cL P call dr k j m b g h with
     | none => rw [hb] at q; cases q
     | some r =>
      obtain ⟨e1, g1, h1⟩ := r
      rw [hb] at q
      obtain ⟨⟨k1, l1⟩, _⟩ := @cL_ok _ hc hd k j m b g h e1 g1 h1 hk hn hb
      by_cases hx : e1 = .normal
      ·subst hx
       obtain ⟨m2, g2, h2, t1, t2, _, t4⟩ := lHead_ok k1 l1 q
       exact ihj (by omega) t1 t2 t4
      ·have hq : (some (e1, g1, h1) : KR) = some (e, g', h') := by cases e1 <;> first | exact q | exact absurd rfl hx
       cases hq
       exact ⟨k1, l1⟩
   have he0 : cL P call dr k (n + 1) m (.loop b) g h = some (e, g', h') := he
   refine ⟨key (n + 1) (Nat.le_refl _) hk hn he0, ?_⟩
   refine BW_loop (fun j g1 H1 => ∃ (h1 : HP) (m1 : Nat), h1.ok ∧ k ≤ h1.n ∧ H1 = h1.L ∧ j ≤ n + 1 ∧ cL P call dr k j m1 (.loop b) g1 h1 = some (e, g', h')) (n + 1) ⟨h, m, hk, hn, rfl, Nat.le_refl _, he0⟩ ?_
   rintro j g1 _ ⟨h1, m1, k1, n1, rfl, hj, q⟩
   cases j with
   | zero => cases q
   | succ j =>
    have q : lThen k m1 (fun m g h => cL P call dr k j m (.loop b) g h) (cL P call dr k j m1 b g1 h1) = some (e, g', h') := q
    cases hb : cL P call dr k j m1 b g1 h1 with
    | none => rw [hb] at q; cases q
    | some r =>
     obtain ⟨e1, g2, h2⟩ := r
     rw [hb] at q
     obtain ⟨⟨k2, l2⟩, b2⟩ := @cL_ok _ hc hd k j m1 b g1 h1 e1 g2 h2 k1 n1 hb
     by_cases hx : e1 = .normal
     ·subst hx
      obtain ⟨m3, g3, h3, t1, t2, t3, t4⟩ := lHead_ok k2 l2 q
      refine b2.mono ?_
      rintro _ _ _ ⟨rfl, rfl, rfl⟩
      exact ⟨j, _, _, Nat.lt_succ_self _, ⟨h3, m3, t1, t2, rfl, by omega, t4⟩, t3⟩
     ·have hq : (some (e1, g2, h2) : KR) = some (e, g', h') := by cases e1 <;> first | exact q | exact absurd rfl hx
      cases hq
      refine b2.mono ?_
      rintro ex _ _ ⟨rfl, rfl, rfl⟩
      cases ex <;> first | exact ⟨rfl, rfl, rfl⟩ | exact absurd rfl hx
  | region id ops dw =>
   cases dw
   ·simp only [lCode] at he
    cases hr : cOps P call ops.toList ops.toList g h with
    | none =>
     rw [hr] at he
     simp only [lReg] at he
     generalize hint P call ops.toList ops.toList g h = oid at he
     unfold lIce at he
     split at he
     case h_2 => cases he
     rename_i hid
     unfold lIce2 at he
     split at he
     case h_2 => cases he
     rename_i sz cs hg
     have hlt := rGet_lt hg
     rw [rGet_eq hk] at hg
     have hk2 := rSet_ok hk hid (.ice sz cs)
     cases hr2 : cOps P call ops.toList ops.toList g (rSet h hid (.ice sz cs)) with
     | none => rw [hr2] at he; cases he
     | some r =>
      obtain ⟨g1, h1⟩ := r
      rw [hr2] at he
      cases he
      obtain ⟨k1, a1⟩ := cOps_ok hc _ hk2 hr2
      refine ⟨⟨k1.1, Nat.le_trans hn k1.2⟩, BW.vs (VS_ice hid hg) ?_⟩
      rw [← rSet_eq hk hlt]
      exact .of_AW (AW_region (AOps.imp (fun g H q => ⟨rfl, q.1, q.2⟩) _ a1))
    | some r =>
     obtain ⟨g1, h1⟩ := r
     rw [hr] at he
     cases he
     obtain ⟨k1, a1⟩ := cOps_ok hc _ hk hr
     exact ⟨⟨k1.1, Nat.le_trans hn k1.2⟩, .of_AW (AW_region (AOps.imp (fun g H q => ⟨rfl, q.1, q.2⟩) _ a1))⟩
   ·simp only [lCode] at he
    cases hr : dr ops g h with
    | none =>
     rw [hr] at he
     simp only [lRegD] at he
     generalize hint P call ops.toList ops.toList g h = oid at he
     unfold lIceD at he
     split at he
     case h_2 => cases he
     rename_i hid
     unfold lIceD2 at he
     split at he
     case h_2 => cases he
     rename_i sz cs hg
     have hlt := rGet_lt hg
     rw [rGet_eq hk] at hg
     have hk2 := rSet_ok hk hid (.ice sz cs)
     cases hr2 : dr ops g (rSet h hid (.ice sz cs)) with
     | none => rw [hr2] at he; cases he
     | some r =>
      obtain ⟨g1, h1⟩ := r
      rw [hr2] at he
      cases he
      obtain ⟨k1, a1⟩ := hd _ _ _ _ _ hk2 hr2
      refine ⟨⟨k1.1, Nat.le_trans hn k1.2⟩, BW.vs (VS_ice hid hg) ?_⟩
      rw [← rSet_eq hk hlt]
      exact a1 _ k id hn
    | some r =>
     obtain ⟨g1, h1⟩ := r
     rw [hr] at he
     cases he
     obtain ⟨k1, a1⟩ := hd _ _ _ _ _ hk hr
     exact ⟨⟨k1.1, Nat.le_trans hn k1.2⟩, a1 _ k id hn⟩
  | _ => cases he
termination_by n => n
end
end Go.Abs
namespace Go.Abs
open Go
theorem leaves_marks {F : Fence} {n : Nat} {P : Program} {fn : Func} {tmps : Array Value} {R : Ending → World → Prop} : ∀ (bs : List Nat) (w : World), bs.Nodup → (∀ b ∈ bs, w.heap[b]? = some (.deferred (some []))) →
 (∀ wE : World, wE.heap.size = w.heap.size → wE.os = w.os → wE.tape = w.tape → wE.output = w.output → (∀ b, b ∉ bs → wE.heap[b]? = w.heap[b]?) → ∃ v, (results fn tmps).run P wE = .ok v wE ∧ R (.returned v) wE) → LeavesInM F n P fn tmps R (bs.map mkMark) .returning w
 | [], w, _, _, h => h w rfl rfl rfl rfl fun _ _ => rfl
 | b :: bs, w, hn, hb, h => by
  have hn' := List.nodup_cons.1 hn
  refine ⟨by simp, .inl ⟨b, w.putObj b (.deferred none), rfl, run_takeDeferred (hb b (List.mem_cons_self ..)), leaves_marks bs _ hn'.2 (fun c hc => ?_) fun wE k1 k2 k3 k4 k5 => ?_⟩⟩
  ·rw [put_other fun e => hn'.1 (by rw [← e]; exact hc)]
   exact hb c (List.mem_cons_of_mem _ hc)
  ·refine h wE (by rw [k1]; simp) k2 k3 k4 fun c hc => ?_
   rw [k5 c fun q => hc (List.mem_cons_of_mem _ q), put_other fun e => hc (by rw [e]; exact List.mem_cons_self ..)]
theorem AFn_of_BT {P : Program} {k : Nat} {n : FuncId} {fn : Func} {c : Code} {args : List AV} {Hi : List AO} {R : AV → List AO → Prop} (hf : P.funcs[n]? = some fn) (hb : fn.body = some c) (hn : (fn.name == "runtime.NumGoroutine") = false)
 (h : BT P k c (endM P k fn.results.toList R) (args ++ List.replicate (fn.ntmps - args.length) (.v undef)) Hi) : AFn P n k args Hi R := by
 intro I m w xs hr hv
 have hl := hv.len
 rw [Array.length_toList] at hl
 have e0 : (callFunc n xs).run P w = .ok (.enter n xs) w := by
  simp [callFunc, hf, hn, hb]
  intro hh
  simp [hh] at hn
 unfold CallsFn
 rw [e0]
 refine fR_callsOut (r := none) (n := 0) (callsIn_of_wp_marks hf hb trivial (wpIn_mono (h I m { tmps := xs ++ Array.replicate (fn.ntmps - xs.size) undef, defers := [] } w 0 w.heap.size hr ?_ (Nat.le_refl _) ⟨[], rfl, List.nodup_nil, fun b hb => by cases hb⟩) ?_))
 ·simp only [Array.toList_append, Array.toList_replicate, hl]
  refine hv.append ?_
  generalize fn.ntmps - args.length = k
  induction k with
  | zero => simp [VRs]
  | succ k ih => simp only [List.replicate_succ, VRs]; exact ⟨_, _, rfl, by simp only [VR], ih⟩
 ·rintro e a' w' ⟨g', H', I', m', h1, h2, h3, ⟨bs, b1, b2, b3⟩, h5, h6⟩
  have key : (match resAll P g' H' fn.results.toList with
   | some vs => Fin k (result vs) H' R
   | none => False) → LeavesInM (fR none) 0 P fn a'.tmps (fun e w' => ∃ v', e = .returned v' ∧ ∃ r Ho I' m', R r Ho ∧ VR I' m' w' r v' ∧ HR I' m' Ho w' ∧ Ex I (Own Hi m) w I' (Own Ho m') w' ∧ Kp k m m') a'.defers .returning w' := by
   intro h1
   rw [b1]
   refine leaves_marks bs w' b2 (fun b hb => (b3 b hb).2.1) fun wE k1 k2 k3 k4 k5 => ?_
   have same : ∀ b, b < w'.heap.size → (Own H' m' b ∨ I' b) → wE.heap[b]? = w'.heap[b]? := fun b _ q => k5 b fun hb => q.elim (b3 b hb).2.2.1 (b3 b hb).2.2.2
   have hE := h2.aside (w' := wE) (by omega) same
   have vE := VRs.aside h2 same h3
   have xE : Ex I (Own Hi m) w I' (Own H' m') wE := ⟨k2.trans h5.os, k3.trans h5.tape, k4.trans h5.output, by have := h5.size; omega, fun b hb hnb => by
    rw [k5 b fun hm => by have := (b3 b hm).1; omega]
    exact h5.blk b hb hnb, h5.imm, h5.ow, h5.inew⟩
   split at h1
   ·rename_i vs k1
    obtain ⟨r, Ho, k2, hvs⟩ := h1
    obtain ⟨ys, k3, k4⟩ := resAll_ok hE vE k1
    have k5 : (results fn a'.tmps).run P wE = .ok (if h : ys.toArray.size = 1 then ys.toArray[0] else .tuple ys.toArray) wE := by
     unfold results
     simp only [Array.mapM_eq_mapM_toList, Sem.run_bind, Sem.run_map]
     erw [k3]
     simp
    have k6 : VR I' m' wE (result vs) (if h : ys.toArray.size = 1 then ys.toArray[0] else .tuple ys.toArray) := by
     have kl := k4.len
     match vs, ys, k4, kl with
     | [v], [y], k4, _ =>
      simp only [VRs] at k4
      obtain ⟨y', zs, e, k6, _⟩ := k4
      obtain ⟨rfl, rfl⟩ := List.cons.inj e
      simpa [result] using k6
     | [], [], k4, _ => simp [result, VR, VRs]
     | v :: v2 :: vs, y :: y2 :: ys, k4, _ =>
      simp only [result]
      rw [dif_neg (by simp)]
      simp only [VR]
      exact ⟨_, rfl, k4⟩
    obtain ⟨I2, m2, q1, q2, q3, q4, q5, q6⟩ := hvs I' m' wE [_] hE (by simp only [VRs]; exact ⟨_, _, rfl, k6, rfl⟩)
    simp only [VRs] at q2
    obtain ⟨y', zs, e, q2, _⟩ := q2
    obtain ⟨rfl, rfl⟩ := List.cons.inj e
    exact ⟨_, k5, _, rfl, r, Ho, I2, m2, k2, q2, q1, xE.trans (VS.ex q3 q4 q5), h6.trans q6⟩
   ·exact h1.elim
  cases e with
  | normal => exact key h1
  | ret => exact key h1
  | _ => exact h1.elim
abbrev BWT := FuncId → Option (TypeId × TypeId)
def BWok (P : Program) (bwt : BWT) : Prop := ∀ nf tS tE, bwt nf = some (tS, tE) → BwFn P nf tS tE
def tEnd (g : List AV) : Option HP → KR
 | some h => some (.normal, g, h)
 | none => none
noncomputable def tR3 (P : Program) (call : CT) (dr : DT) (fuel : Nat) (ps : Array Tmp) (a b : Code) (g : List AV) (h : HP) (box : AV) : Option (TypeId × TypeId) → KR
 | some (tS, tE) => match Nat.beq ps.size 2 with
  | true => tEnd g (bwRun P tS tE box (rdRun P call dr fuel g ps a b) h)
  | false => none
 | none => none
noncomputable def tR2 (P : Program) (bwt : BWT) (call : CT) (dr : DT) (fuel : Nat) (ps : Array Tmp) (a b : Code) (g : List AV) (h : HP) : AV → KR
 | .fn (.func nf) [] [box] => tR3 P call dr fuel ps a b g h box (bwt nf)
 | _ => none
noncomputable def tCode (P : Program) (bwt : BWT) (call : CT) (dr : DT) (fuel k : Nat) (ih : Code → List AV → HP → KR) (g : List AV) (h : HP) : Code → KR
 | .seq a b => cThen (ih b) (ih a g h)
 | .block i b => cBlk i (ih b g h)
 | .rangeFunc f ps a b => tR2 P bwt call dr fuel ps a b g h (evF g f)
 | c => cL P call dr k fuel (Nat.add h.n 48) c g h
noncomputable def cT (P : Program) (bwt : BWT) (call : CT) (dr : DT) (fuel k n : Nat) : Code → List AV → HP → KR :=
 Nat.rec (motive := fun _ => Code → List AV → HP → KR) (fun _ _ _ => none) (fun _ ih c g h => tCode P bwt call dr fuel k ih g h c) n
section
variable {P : Program} {bwt : BWT} {call : CT} {dr : DT}
theorem cT_ok (hB : BWok P bwt) (hc : CTok P call) (hd : DTok P dr) (fuel k : Nat) : ∀ (n : Nat) (c : Code) {g : List AV} {h : HP} {e : Exit} {g' : List AV} {h' : HP}, h.ok → k ≤ h.n → cT P bwt call dr fuel k n c g h = some (e, g', h') → (h'.ok ∧ k ≤ h'.n) ∧ BT P k c (PostC e g' h'.L) g h.L
 | 0, c, g, h, e, g', h', hk, hn, he => by cases he
 | n + 1, c, g, h, e, g', h', hk, hn, he => by
  have he : tCode P bwt call dr fuel k (cT P bwt call dr fuel k n) g h c = some (e, g', h') := he
  have ih := cT_ok hB hc hd fuel k n
  have base : cL P call dr k fuel (Nat.add h.n 48) c g h = some (e, g', h') → (h'.ok ∧ k ≤ h'.n) ∧ BT P k c (PostC e g' h'.L) g h.L := fun q =>
   ⟨(@cL_ok _ _ _ noDefers hc hd k fuel _ c _ _ _ _ _ hk hn q).1, BT.of_BW fun D => (@cL_ok _ _ _ D hc hd k fuel _ c _ _ _ _ _ hk hn q).2⟩
  cases c with
  | seq a b =>
   simp only [tCode] at he
   cases ha : cT P bwt call dr fuel k n a g h with
   | none => rw [ha] at he; cases he
   | some r =>
    obtain ⟨e1, g1, h1⟩ := r
    rw [ha] at he
    obtain ⟨⟨k1, l1⟩, b1⟩ := ih a hk hn ha
    by_cases hx : e1 = .normal
    ·subst hx
     obtain ⟨⟨k2, l2⟩, b2⟩ := ih b k1 l1 he
     refine ⟨⟨k2, l2⟩, BT_seq (b1.mono ?_)⟩
     rintro _ _ _ ⟨rfl, rfl, rfl⟩
     exact b2
    ·have hq : (some (e1, g1, h1) : KR) = some (e, g', h') := by cases e1 <;> first | exact he | exact absurd rfl hx
     cases hq
     refine ⟨⟨k1, l1⟩, BT_seq (b1.mono ?_)⟩
     rintro ex _ _ ⟨rfl, rfl, rfl⟩
     cases ex <;> first | exact ⟨rfl, rfl, rfl⟩ | exact absurd rfl hx
  | block i b =>
   simp only [tCode] at he
   cases hb : cT P bwt call dr fuel k n b g h with
   | none => rw [hb] at he; cases he
   | some r =>
    obtain ⟨e1, g1, h1⟩ := r
    rw [hb] at he
    obtain ⟨k1, b1⟩ := ih b hk hn hb
    refine ⟨?_, BT_block (b1.mono ?_)⟩
    ·cases e1 <;> first | (cases he; exact k1) | skip
     simp only [cBlk] at he
     split at he <;> (cases he; exact k1)
    ·rintro ex _ _ ⟨rfl, rfl, rfl⟩
     cases ex <;> first | (cases he; exact ⟨rfl, rfl, rfl⟩) | skip
     rename_i j
     simp only [cBlk] at he
     simp only [blockA]
     cases hj : Nat.beq j i
     ·rw [hj] at he
      rw [if_neg (by intro q; subst q; simp at hj)]
      cases he; exact ⟨rfl, rfl, rfl⟩
     ·rw [hj] at he
      rw [if_pos (Nat.eq_of_beq_eq_true hj)]
      cases he; exact ⟨rfl, rfl, rfl⟩
  | rangeFunc f ps a b =>
   simp only [tCode, evF_eq] at he
   generalize hv : ev g f = v at he
   unfold tR2 at he
   split at he
   ·rename_i nf box
    cases hb : bwt nf with
    | none => rw [hb] at he; cases he
    | some t =>
     obtain ⟨tS, tE⟩ := t
     rw [hb] at he
     simp only [tR3] at he
     cases hp : Nat.beq ps.size 2
     ·rw [hp] at he; cases he
     ·rw [hp] at he
      dsimp only at he
      cases hr : bwRun P tS tE box (rdRun P call dr fuel g ps a b) h with
      | none => rw [hr] at he; cases he
      | some hE =>
       rw [hr] at he
       cases he
       obtain ⟨t1, t2⟩ := BT_range hc hd hk hn hv (hB _ _ _ hb) (Nat.eq_of_beq_eq_true hp) hr
       exact ⟨⟨t1.1, Nat.le_trans hn t1.2⟩, t2⟩
   ·cases he
  | _ => exact base he
end
abbrev KM := FuncId → List AV → HP → OR2
def KMok (P : Program) (km : KM) : Prop := ∀ f args h v h', h.ok → km f args h = some (v, h') → (h'.ok ∧ h.n ≤ h'.n) ∧ ACall P f args h.L (fun v1 H1 => v1 = v ∧ H1 = h'.L)
noncomputable def eFn2 (P : Program) (bwt : BWT) (call : CT) (dr : DT) (fuel : Nat) (args : List AV) (h : HP) (fn : Func) : Option Code → OR2
 | some c => cEnd P h.n fn.results.toList (cT P bwt call dr fuel h.n fuel c (args ++ List.replicate (fn.ntmps - args.length) (.v undef)) h)
 | none => none
noncomputable def eFn (P : Program) (bwt : BWT) (call : CT) (dr : DT) (fuel : Nat) (args : List AV) (h : HP) : Option Func → OR2
 | some fn => eFn2 P bwt call dr fuel args h fn fn.body
 | none => none
noncomputable def eDisp (P : Program) (bwt : BWT) (call : CT) (dr : DT) (fuel : Nat) (f : FuncId) (args : List AV) (h : HP) : OR2 → OR2
 | some r => some r
 | none => eFn P bwt call dr fuel args h (P.funcs[f]?)
noncomputable def eF (P : Program) (bwt : BWT) (km : KM) (dr : CT → DT) (fuel : Nat) (n : Nat) : CT :=
 Nat.rec (motive := fun _ => CT) (fun _ _ _ => none) (fun _ ih f args h => eDisp P bwt ih (dr ih) fuel f args h (km f args h)) n
theorem eFn_ok {P : Program} {bwt : BWT} {call : CT} {dr : DT} (hN : namesOK P = true) (hB : BWok P bwt) (hc : CTok P call) (hd : DTok P dr) {fuel : Nat} {f : FuncId} {args : List AV} {h : HP} (hk : h.ok) {v : AV} {h' : HP}
 (e : eFn P bwt call dr fuel args h (P.funcs[f]?) = some (v, h')) : (h'.ok ∧ h.n ≤ h'.n) ∧ AFn P f h.n args h.L (fun v1 H1 => v1 = v ∧ H1 = h'.L) := by
 cases hfn : P.funcs[f]? with
 | none => rw [hfn] at e; cases e
 | some fn =>
  rw [hfn] at e
  simp only [eFn] at e
  cases hb : fn.body with
  | none => rw [hb] at e; cases e
  | some c =>
   rw [hb] at e
   simp only [eFn2] at e
   have hname : (fn.name == "runtime.NumGoroutine") = false := by
    unfold namesOK at hN
    have := List.all_eq_true.1 hN fn (by rw [Array.mem_toList_iff]; exact Array.mem_of_getElem? hfn)
    simpa using this
   cases hcc : cT P bwt call dr fuel h.n fuel c (args ++ List.replicate (fn.ntmps - args.length) (.v undef)) h with
   | none => rw [hcc] at e; cases e
   | some r =>
    obtain ⟨ex, g1, h1⟩ := r
    rw [hcc] at e
    obtain ⟨⟨k1, l1⟩, b1⟩ := cT_ok hB hc hd fuel h.n fuel c hk (Nat.le_refl _) hcc
    have fin : cRes h.n h1 (resFs P g1 h1 fn.results.toList) = some (v, h') → (h'.ok ∧ h.n ≤ h'.n) ∧ (match resAll P g1 h1.L fn.results.toList with
     | some vs => Fin h.n (result vs) h1.L (fun v1 H1 => v1 = v ∧ H1 = h'.L)
     | none => False) := fun q => by
     rw [resFs_eq P g1 k1] at q
     cases hr : resAll P g1 h1.L fn.results.toList with
     | none => rw [hr] at q; cases q
     | some vs => rw [hr] at q; exact cGc_ok k1 l1 q
    have hx : ex = .normal ∨ ex = .ret := by cases ex <;> first | exact .inl rfl | exact .inr rfl | (cases e; done)
    have e2 : cRes h.n h1 (resFs P g1 h1 fn.results.toList) = some (v, h') := by rcases hx with rfl | rfl <;> exact e
    obtain ⟨q1, q2⟩ := fin e2
    refine ⟨q1, AFn_of_BT hfn hb hname (b1.mono ?_)⟩
    rintro e1 _ _ ⟨rfl, rfl, rfl⟩
    rcases hx with rfl | rfl <;> exact q2
theorem eF_ok {P : Program} {bwt : BWT} {km : KM} {dr : CT → DT} (hN : namesOK P = true) (hB : BWok P bwt) (hK : KMok P km) (hD : ∀ call, CTok P call → DTok P (dr call)) (fuel : Nat) : ∀ n, CTok P (eF P bwt km dr fuel n)
 | 0 => fun _ _ _ _ _ _ e => by cases e
 | n + 1 => by
  have ih := eF_ok hN hB hK hD fuel n
  intro f args h v h' hk e
  have e : eDisp P bwt (eF P bwt km dr fuel n) (dr (eF P bwt km dr fuel n)) fuel f args h (km f args h) = some (v, h') := e
  cases hm : km f args h with
  | some r => rw [hm] at e; cases e; exact hK _ _ _ _ _ hk hm
  | none =>
   rw [hm] at e
   obtain ⟨q1, q2⟩ := eFn_ok hN hB ih (hD _ ih) hk e
   refine ⟨q1, ACall_of_AFn ?_⟩
   rw [HP.len hk]
   exact q2
end Go.Abs
namespace Go.Abs
open Go
section
variable {P : Program} {I : Nat → Prop} {m : List Loc} {H : List AO} {w : World}
theorem tcOR (hr : HR I m H w) {id : Nat} {T : TypeId} {cs : List AV} (hid : H[id]? = some (.tc T cs)) {off : Nat} {x : Value} (hx : VR I m w (.pt id off) x) :
 ∃ L c, m[id]? = some L ∧ L.sz = 1 ∧ L.cap ≠ 0 ∧ L.o = 0 ∧ cs.length ≤ L.cap ∧ x = .pointer (some ⟨L.b, off, none⟩) ∧ w.heap[L.b]? = some (.cells c T (0, 0)) ∧ c.size = L.cap ∧ (T = bty → c.size = 2) ∧ ∀ (i : Nat) x, cs[i]? = some x → ∃ y, c[i]? = some y ∧ VR I m w x y ∧ x.one = true := by
 simp only [VR] at hx
 obtain ⟨L, h1, rfl⟩ := hx
 have hm := (lk_get h1).1
 obtain ⟨⟨q1, q2, q3, q4⟩, c, ⟨q5, q6, qb⟩, q7⟩ := hr.ob id _ L hid hm
 exact ⟨L, c, hm, q1, q2, q3, q4, by rw [q3, Nat.zero_add], q5, q6, qb, q7⟩
theorem OpSem.loadTC {g : List AV} {t : TypeId} {a : Operand} {id off : Nat} {T : TypeId} {cs : List AV} {v : AV} (ha : ev g a = .pt id off) (hid : H[id]? = some (.tc T cs)) (hv : apart P t cs off = some v) : OpSem P g H (.load t a) v H := fun I m w ac o ho hr hx => by
 have h1 := hx a (by simp [Op.operands])
 rw [ha] at h1
 obtain ⟨L, c, hm, q1, q2, q3, q4, q5, q6, q7, qb, q8⟩ := tcOR hr hid h1
 obtain ⟨y, hy, hvy⟩ := run_loadVar' (P := P) (I := I) (m := m) (w := w) hv L.b off fun i x hi => by
  obtain ⟨y, r1, r2, _⟩ := q8 _ x hi
  exact ⟨y, by simp only [World.cell?, q6]; simpa using r1, r2⟩
 exact OpS.of_value hr hvy (by simp [execOp, ho, q5, Instr.loadAt, Instr.sureAddr, hy])
theorem tc_set (hr : HR I m H w) {id : Nat} {T : TypeId} {cs : List AV} (hid : H[id]? = some (.tc T cs)) {off : Nat} {x : Value} (hx : VR I m w (.pt id off) x) (ho : off < cs.length) {v : AV} {y : Value} (hv : VR I m w v y) (h1 : v.one = true) :
 ∃ b c, x = .pointer (some ⟨b, off, none⟩) ∧ w.heap[b]? = some (.cells c T (0, 0)) ∧ off < c.size ∧ ∀ w' : World, w'.heap.size = w.heap.size → w'.heap[b]? = some (.cells (c.setIfInBounds off y) T (0, 0)) → (∀ b', b' ≠ b → w'.heap[b']? = w.heap[b']?) → w'.os = w.os → w'.tape = w.tape → w'.output = w.output →
  HR I m (H.set id (.tc T (cs.set off v))) w' ∧ Ext I m (Own H m) w I m (Own (H.set id (.tc T (cs.set off v))) m) w' := by
 obtain ⟨L, c, hm, q1, q2, q3, q4, q5, q6, q7, qb, q8⟩ := tcOR hr hid hx
 refine ⟨L.b, c, q5, q6, by omega, fun w' k1 k2 k3 k4 k5 k6 => hr.set hid rfl hm k1 (fun b hb => k3 b (hb q2)) k4 k5 k6 ?_⟩
 simp only [OR]
 refine ⟨⟨q1, q2, q3, by simpa using q4⟩, _, ⟨k2, by simpa using q7, fun e => by simpa using qb e⟩, fun i z hz => ?_⟩
 have mono : ∀ v y, VR I m w v y → VR I m w' v y := fun v y h => by
  have := VR.mono (nu := []) (fun _ h => h) (fun b hb => k3 b fun e => hr.imm b hb ⟨id, _, L, hid, rfl, hm, q2, e.symm⟩) v y h
  simpa using this
 rw [List.getElem?_set] at hz
 rw [Array.getElem?_setIfInBounds]
 by_cases hi : off = i
 ·subst hi
  rw [if_pos rfl, if_pos ho] at hz
  cases hz
  exact ⟨y, by rw [if_pos rfl, if_pos (by omega)], mono _ _ hv, h1⟩
 ·rw [if_neg hi] at hz
  obtain ⟨y', r1, r2, r3⟩ := q8 i z hz
  exact ⟨y', by rw [if_neg hi]; exact r1, mono _ _ r2, r3⟩
theorem OpSem.storeTC {g : List AV} {t : TypeId} {a b : Operand} {id off : Nat} {T : TypeId} {cs : List AV} {v : AV} {i : TI} (hi : ti P t = some i) (hs : i.size = 1) (ha : ev g a = .pt id off) (hb : ev g b = v) (h1 : v.one = true) (hf : flat v = [v]) (hid : H[id]? = some (.tc T cs)) (ho : off < cs.length) :
 OpSem P g H (.store t a b) (.v undef) (H.set id (.tc T (cs.set off v))) := fun I m w ac o hop hr hx => by
 have hpa := hx a (by simp [Op.operands])
 have hpb := hx b (by simp [Op.operands])
 rw [ha] at hpa
 rw [hb] at hpb
 obtain ⟨L, c, hm, q1, q2, q3, q4, q5, q6, q7, qb, q8⟩ := tcOR hr hid hpa
 have hfl := VRs.flat hpb (by rw [hf]; simp [h1])
 rw [hf] at hfl
 simp only [VRs] at hfl
 obtain ⟨y0, _, e0, hy0, rfl⟩ := hfl
 have hcell : (ac.eval b).cells.size = 1 := by rw [← Array.length_toList, e0]; rfl
 have hone : y0.oneCell' = true := by
  have := (VRs.flat hpb (by rw [hf]; simp [h1])).one (by rw [hf]; simp [h1]) y0 (by rw [e0]; simp)
  exact this
 obtain ⟨cur', w', h4, h5, h6, h7, h8, h9, h10, h11, h12⟩ := run_storeCells' P L.b off [y0] 0 c w q6 (by intro j _ h; simp at h) (by simp; omega) (by intro v hv; simp at hv; subst hv; exact hone)
 obtain ⟨b', c', e1, e2, e3, e4⟩ := tc_set hr hid hpa ho hy0 h1
 rw [q5] at e1
 cases e1
 rw [q6] at e2
 cases e2
 have hc' : cur' = c.setIfInBounds off y0 := by
  apply Array.ext'
  rw [h12]
  apply List.ext_getElem?
  intro k
  simp only [Nat.add_zero, List.length_singleton, Array.toList_setIfInBounds, List.append_assoc]
  rw [List.getElem?_set]
  have hl : c.toList.length = c.size := Array.length_toList
  by_cases hk : k < off
  ·rw [List.getElem?_append_left (by simp; omega), List.getElem?_take_of_lt hk, if_neg (by omega)]
  ·rw [List.getElem?_append_right (by simp; omega)]
   simp only [List.length_take, hl]
   by_cases hk2 : off = k
   ·subst hk2
    rw [if_pos rfl, if_pos (by omega), show off - min off c.size = 0 by omega]; rfl
   ·rw [if_neg hk2, show k - min off c.size = (k - off - 1) + 1 by omega]
    simp only [List.singleton_append, List.getElem?_cons_succ, List.getElem?_drop]
    congr 1; omega
 obtain ⟨r1, r2⟩ := e4 w' h5 (by rw [h6, hc']) (fun b' hb' => h8 b' hb') h9 h10 h11
 refine ⟨undef, w', m, .inr ⟨?_, rfl⟩, by simp only [VR], r1, r2⟩
 have : (Instr.storeAt t (.pointer (some ⟨L.b, off, none⟩)) (ac.eval b)).run P w = .ok () w' := by
  simp only [Instr.storeAt, Instr.sureAddr, Sem.run_bind, Sem.run_pure, Result.andThen_ok, storeVar, run_sizeOf' hi, Sem.run_ite]
  rw [if_neg (by rw [hcell, hs]; simp), e0]
  exact h4
 simp [execOp, hop, q5, this]
end
end Go.Abs
