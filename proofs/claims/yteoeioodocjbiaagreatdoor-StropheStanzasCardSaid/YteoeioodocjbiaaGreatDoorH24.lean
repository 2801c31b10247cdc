/- Part 24 of the texts that lead to stropheStanzasCard_holds. No condition. -/
import Derived.Test.YteoeioodocjbiaaGreatDoorH21
import Derived.Test.YteoeioodocjbiaaGreatDoorH23
set_option linter.unusedSimpArgs false
set_option linter.unusedVariables false
set_option linter.unnecessarySimpa false
namespace Go.Abs
open Go
theorem VS_list {k : Nat} {g g' : List AV} {H H' : List AO} (h : VS k [.tu g] H [.tu g'] H') : VS k g H g' H' := by
  intro I m w xs hr hx
  obtain ⟨I2, m2, k1, k2, k3⟩ := h I m w [.tuple xs.toArray] hr (by simp only [VRs, VR]; exact ⟨_, _, rfl, ⟨_, rfl, hx⟩, rfl⟩)
  refine ⟨I2, m2, k1, ?_, k3⟩
  simp only [VRs, VR] at k2
  obtain ⟨y, ys, e, ⟨zs, e2, k2⟩, _⟩ := k2
  injection e with e e3
  rw [← e] at e2
  injection e2 with e2
  rw [← e2] at k2
  exact k2
abbrev GH := List AV × HP
noncomputable def gcPut (g : List AV) (h : HP) (ids : List Nat) : GH := (rens (posN ids) g, ⟨ids.length, (ids.map (objN h (posN ids))).reverse⟩)
def gcIf (a b : GH) : Bool → GH
  | true => a
  | false => b
def gcAnd : Bool → Bool → Bool
  | true, b => b
  | false, _ => false
noncomputable def gcTry (k : Nat) (g : List AV) (h : HP) (ids : List Nat) : GH := gcIf (gcPut g h ids) (g, h) (gcAnd (closedN h ids [.tu g]) (firstN k ids))
noncomputable def gcL (k : Nat) (g : List AV) (h : HP) : GH := gcTry k g h (newIds k h (.tu g))
theorem gcTry_ok {k : Nat} {g : List AV} {h : HP} (hk : h.ok) (hn : k ≤ h.n) (ids : List Nat) : (gcTry k g h ids).2.ok ∧ k ≤ (gcTry k g h ids).2.n ∧ VS k g h.L (gcTry k g h ids).1 (gcTry k g h ids).2.L := by
  unfold gcTry
  cases hq : gcAnd (closedN h ids [.tu g]) (firstN k ids)
  · exact ⟨hk, hn, VS.refl _ _ _⟩
  · have ha : closedN h ids [.tu g] = true := by
      cases hc : closedN h ids [.tu g]
      · rw [hc] at hq; cases hq
      · rfl
    have hb : firstN k ids = true := by rw [ha] at hq; exact hq
    obtain ⟨c1, c2, c3, c4⟩ := closedN_spec ha
    simp only [okVs, Bool.and_true] at c3
    have key := VS_keep (k := k) (v := .tu g) (H := h.L) ids (posN ids) (fun j => memN j ids) (fun j hj => posN_get hj) (firstN_spec hb) c1 (fun j hj => by rw [HP.len hk]; exact c2 j hj) c3 (fun j o hj ho => by
      have := c4 j hj
      unfold okAt at this
      rw [rGet_eq hk, ho] at this
      exact this)
    simp only [AV.ren] at key
    have eL : (⟨ids.length, (ids.map (objN h (posN ids))).reverse⟩ : HP).L = ids.map fun j => (h.L.getD j .dead).ren (posN ids) := by
      show ((ids.map (objN h (posN ids))).reverse).reverse = _
      rw [List.reverse_reverse]
      refine List.map_congr_left fun j _ => ?_
      unfold objN
      rw [rGet_eq hk, List.getD_eq_getElem?_getD]
      cases h.L[j]? <;> rfl
    refine ⟨?_, ?_, ?_⟩
    · show ((ids.map (objN h (posN ids))).reverse).length = ids.length
      simp
    · show k ≤ ids.length
      by_cases hz : k = 0
      · omega
      · have := firstN_spec hb (k - 1) (by omega)
        have := (List.getElem?_eq_some_iff.1 this).1
        omega
    · show VS k g h.L (rens (posN ids) g) (⟨ids.length, (ids.map (objN h (posN ids))).reverse⟩ : HP).L
      rw [eL]
      exact VS_list key
noncomputable def lGo (k : Nat) (f : Nat → List AV → HP → KR) : GH → KR
  | (g, h) => f (Nat.add h.n (Nat.add 32 (Nat.sub h.n k))) g h
noncomputable def lHead (k m : Nat) (f : Nat → List AV → HP → KR) (g : List AV) (h : HP) : Bool → KR
  | true => lGo k f (gcL k g h)
  | false => f m g h
noncomputable def lThen (k m : Nat) (f : Nat → List AV → HP → KR) : KR → KR
  | some (.normal, g, h) => lHead k m f g h (Nat.ble m h.n)
  | r => r
noncomputable def hintN (P : Program) (g : List AV) : Op → Option Nat
  | .slice t x lo hi (some mx) => match evF g x with
    | .sl id _ _ => some id
    | _ => none
  | _ => none
noncomputable def hintStep (ih : List AV → HP → Option Nat) (put : AV → List AV) (stuck : Option Nat) : OR2 → Option Nat
  | some (v, h') => ih (put v) h'
  | none => stuck
noncomputable def hint (P : Program) (call : CT) (ops l : List Oper) : List AV → HP → Option Nat :=
  List.rec (motive := fun _ => List AV → HP → Option Nat) (fun _ _ => none)
    (fun o _ ih g h => hintStep ih (fun v => putF g v o.dst) (hintN P g o.op) (cStep P call g h o.op (gWant ops g o.guard))) l
noncomputable def lIce2 (P : Program) (call : CT) (ops : List Oper) (g : List AV) (h : HP) (id : Nat) : Option AO → KR
  | some (.cells sz cs) => cReg (cOps P call ops ops g (rSet h id (.ice sz cs)))
  | _ => none
noncomputable def lIce (P : Program) (call : CT) (ops : List Oper) (g : List AV) (h : HP) : Option Nat → KR
  | some id => lIce2 P call ops g h id (rGet h id)
  | none => none
noncomputable def lReg (P : Program) (call : CT) (ops : List Oper) (g : List AV) (h : HP) : Option (List AV × HP) → KR
  | some r => cReg (some r)
  | none => lIce P call ops g h (hint P call ops ops g h)
noncomputable def lIceD2 (dr : DT) (ops : Array Oper) (g : List AV) (h : HP) (id : Nat) : Option AO → KR
  | some (.cells sz cs) => cReg (dr ops g (rSet h id (.ice sz cs)))
  | _ => none
noncomputable def lIceD (dr : DT) (ops : Array Oper) (g : List AV) (h : HP) : Option Nat → KR
  | some id => lIceD2 dr ops g h id (rGet h id)
  | none => none
noncomputable def lRegD (P : Program) (call : CT) (dr : DT) (ops : Array Oper) (g : List AV) (h : HP) : Option (List AV × HP) → KR
  | some r => cReg (some r)
  | none => lIceD dr ops g h (hint P call ops.toList ops.toList g h)
noncomputable def lCode (P : Program) (call : CT) (dr : DT) (k : Nat) (ih : Nat → Code → List AV → HP → KR) (m : Nat) (g : List AV) (h : HP) : Code → KR
  | .skip => some (.normal, g, h)
  | .ret => some (.ret, g, h)
  | .exit i => some (.exit i, g, h)
  | .seq a b => cThen (ih m b) (ih m a g h)
  | .cond x a b => cCond (ih m a g h) (ih m b g h) (evF g x)
  | .block i b => cBlk i (ih m b g h)
  | .loop b => lThen k m (fun m g h => ih m (.loop b) g h) (ih m b g h)
  | .region _ ops false => lReg P call ops.toList g h (cOps P call ops.toList ops.toList g h)
  | .region _ ops true => lRegD P call dr ops g h (dr ops g h)
  | _ => none
noncomputable def cL (P : Program) (call : CT) (dr : DT) (k : Nat) (n : Nat) : Nat → Code → List AV → HP → KR :=
  Nat.rec (motive := fun _ => Nat → Code → List AV → HP → KR) (fun _ _ _ _ => none) (fun _ ih m c g h => lCode P call dr k ih m g h c) n
section
variable {P : Program} {call : CT} {dr : DT}
theorem lHead_ok {k m : Nat} {f : Nat → List AV → HP → KR} {g : List AV} {h : HP} {b : Bool} (hk : h.ok) (hn : k ≤ h.n) {r : Exit × List AV × HP} (e : lHead k m f g h b = some r) : ∃ m2 g2 h2, h2.ok ∧ k ≤ h2.n ∧ VS k g h.L g2 h2.L ∧ f m2 g2 h2 = some r := by
  cases b
  · exact ⟨m, g, h, hk, hn, VS.refl _ _ _, e⟩
  · obtain ⟨q1, q2, q3⟩ := gcTry_ok (g := g) hk hn (newIds k h (.tu g))
    exact ⟨_, _, _, q1, q2, q3, e⟩
theorem cL_ok [DSt] (hc : CTok P call) (hd : DTok P dr) (k : Nat) : ∀ (n m : Nat) (c : Code) {g : List AV} {h : HP} {e : Exit} {g' : List AV} {h' : HP}, h.ok → k ≤ h.n → cL P call dr k n m c g h = some (e, g', h') → (h'.ok ∧ k ≤ h'.n) ∧ BW P k c (PostC e g' h'.L) g h.L
  | 0, m, c, g, h, e, g', h', hk, hn, he => by cases he
  | n + 1, m, c, g, h, e, g', h', hk, hn, he => by
    have he : lCode P call dr k (cL P call dr k n) m g h c = some (e, g', h') := he
    have ih := @cL_ok _ hc hd k n m
    cases c with
    | skip => cases he; exact ⟨⟨hk, hn⟩, BW.of_AW (AW_skip ⟨rfl, rfl, rfl⟩)⟩
    | ret => cases he; exact ⟨⟨hk, hn⟩, BW.of_AW (AW_ret ⟨rfl, rfl, rfl⟩)⟩
    | exit i => cases he; exact ⟨⟨hk, hn⟩, BW.of_AW (AW_exit ⟨rfl, rfl, rfl⟩)⟩
    | seq a b =>
      simp only [lCode] at he
      cases ha : cL P call dr k n m a g h with
      | none => rw [ha] at he; cases he
      | some r =>
        obtain ⟨e1, g1, h1⟩ := r
        rw [ha] at he
        obtain ⟨⟨k1, l1⟩, b1⟩ := ih a hk hn ha
        by_cases hx : e1 = .normal
        · subst hx
          obtain ⟨⟨k2, l2⟩, b2⟩ := ih b k1 l1 he
          refine ⟨⟨k2, l2⟩, BW_seq (b1.mono ?_)⟩
          rintro _ _ _ ⟨rfl, rfl, rfl⟩
          exact b2
        · have hq : (some (e1, g1, h1) : KR) = some (e, g', h') := by cases e1 <;> first | exact he | exact absurd rfl hx
          cases hq
          refine ⟨⟨k1, l1⟩, BW_seq (b1.mono ?_)⟩
          rintro ex _ _ ⟨rfl, rfl, rfl⟩
          cases ex <;> first | exact ⟨rfl, rfl, rfl⟩ | exact absurd rfl hx
    | cond x a b =>
      simp only [lCode, evF_eq] at he
      generalize hv : ev g x = v at he
      cases v <;> first | (cases he; done) | skip
      rename_i y
      cases y <;> first | (cases he; done) | skip
      rename_i t
      cases t
      · obtain ⟨k1, b1⟩ := ih b hk hn he
        exact ⟨k1, BW_cond hv b1⟩
      · obtain ⟨k1, b1⟩ := ih a hk hn he
        exact ⟨k1, BW_cond hv b1⟩
    | block i b =>
      simp only [lCode] at he
      cases hb : cL P call dr k n m b g h with
      | none => rw [hb] at he; cases he
      | some r =>
        obtain ⟨e1, g1, h1⟩ := r
        rw [hb] at he
        obtain ⟨k1, b1⟩ := ih b hk hn hb
        refine ⟨?_, BW_block (b1.mono ?_)⟩
        · cases e1 <;> first | (cases he; exact k1) | skip
          simp only [cBlk] at he
          split at he <;> (cases he; exact k1)
        · rintro ex _ _ ⟨rfl, rfl, rfl⟩
          cases ex <;> first | (cases he; exact ⟨rfl, rfl, rfl⟩) | skip
          rename_i j
          simp only [cBlk] at he
          simp only [blockA]
          cases hj : Nat.beq j i
          · rw [hj] at he
            rw [if_neg (by intro q; subst q; simp at hj)]
            cases he; exact ⟨rfl, rfl, rfl⟩
          · rw [hj] at he
            rw [if_pos (Nat.eq_of_beq_eq_true hj)]
            cases he; exact ⟨rfl, rfl, rfl⟩
    | loop b =>
      have key : ∀ (j : Nat), j ≤ n + 1 → ∀ {m : Nat} {g : List AV} {h : HP}, h.ok → k ≤ h.n → cL P call dr k j m (.loop b) g h = some (e, g', h') → h'.ok ∧ k ≤ h'.n := by
        intro j
        induction j with
        | zero => intro _ _ _ _ _ _ q; cases q
        | succ j ihj =>
          intro hj m g h hk hn q
          have q : lThen k m (fun m g h => cL P call dr k j m (.loop b) g h) (cL P call dr k j m b g h) = some (e, g', h') := q
          cases hb : cL P call dr k j m b g h with
          | none => rw [hb] at q; cases q
          | some r =>
            obtain ⟨e1, g1, h1⟩ := r
            rw [hb] at q
            obtain ⟨⟨k1, l1⟩, _⟩ := @cL_ok _ hc hd k j m b g h e1 g1 h1 hk hn hb
            by_cases hx : e1 = .normal
            · subst hx
              obtain ⟨m2, g2, h2, t1, t2, _, t4⟩ := lHead_ok k1 l1 q
              exact ihj (by omega) t1 t2 t4
            · have hq : (some (e1, g1, h1) : KR) = some (e, g', h') := by cases e1 <;> first | exact q | exact absurd rfl hx
              cases hq
              exact ⟨k1, l1⟩
      have he0 : cL P call dr k (n + 1) m (.loop b) g h = some (e, g', h') := he
      refine ⟨key (n + 1) (Nat.le_refl _) hk hn he0, ?_⟩
      refine BW_loop (fun j g1 H1 => ∃ (h1 : HP) (m1 : Nat), h1.ok ∧ k ≤ h1.n ∧ H1 = h1.L ∧ j ≤ n + 1 ∧ cL P call dr k j m1 (.loop b) g1 h1 = some (e, g', h')) (n + 1) ⟨h, m, hk, hn, rfl, Nat.le_refl _, he0⟩ ?_
      rintro j g1 _ ⟨h1, m1, k1, n1, rfl, hj, q⟩
      cases j with
      | zero => cases q
      | succ j =>
        have q : lThen k m1 (fun m g h => cL P call dr k j m (.loop b) g h) (cL P call dr k j m1 b g1 h1) = some (e, g', h') := q
        cases hb : cL P call dr k j m1 b g1 h1 with
        | none => rw [hb] at q; cases q
        | some r =>
          obtain ⟨e1, g2, h2⟩ := r
          rw [hb] at q
          obtain ⟨⟨k2, l2⟩, b2⟩ := @cL_ok _ hc hd k j m1 b g1 h1 e1 g2 h2 k1 n1 hb
          by_cases hx : e1 = .normal
          · subst hx
            obtain ⟨m3, g3, h3, t1, t2, t3, t4⟩ := lHead_ok k2 l2 q
            refine b2.mono ?_
            rintro _ _ _ ⟨rfl, rfl, rfl⟩
            exact ⟨j, _, _, Nat.lt_succ_self _, ⟨h3, m3, t1, t2, rfl, by omega, t4⟩, t3⟩
          · have hq : (some (e1, g2, h2) : KR) = some (e, g', h') := by cases e1 <;> first | exact q | exact absurd rfl hx
            cases hq
            refine b2.mono ?_
            rintro ex _ _ ⟨rfl, rfl, rfl⟩
            cases ex <;> first | exact ⟨rfl, rfl, rfl⟩ | exact absurd rfl hx
    | region id ops dw =>
      cases dw
      · simp only [lCode] at he
        cases hr : cOps P call ops.toList ops.toList g h with
        | none =>
          rw [hr] at he
          simp only [lReg] at he
          generalize hint P call ops.toList ops.toList g h = oid at he
          unfold lIce at he
          split at he
          case h_2 => cases he
          rename_i hid
          unfold lIce2 at he
          split at he
          case h_2 => cases he
          rename_i sz cs hg
          have hlt := rGet_lt hg
          rw [rGet_eq hk] at hg
          have hk2 := rSet_ok hk hid (.ice sz cs)
          cases hr2 : cOps P call ops.toList ops.toList g (rSet h hid (.ice sz cs)) with
          | none => rw [hr2] at he; cases he
          | some r =>
            obtain ⟨g1, h1⟩ := r
            rw [hr2] at he
            cases he
            obtain ⟨k1, a1⟩ := cOps_ok hc _ hk2 hr2
            refine ⟨⟨k1.1, Nat.le_trans hn k1.2⟩, BW.vs (VS_ice hid hg) ?_⟩
            rw [← rSet_eq hk hlt]
            exact .of_AW (AW_region (AOps.imp (fun g H q => ⟨rfl, q.1, q.2⟩) _ a1))
        | some r =>
          obtain ⟨g1, h1⟩ := r
          rw [hr] at he
          cases he
          obtain ⟨k1, a1⟩ := cOps_ok hc _ hk hr
          exact ⟨⟨k1.1, Nat.le_trans hn k1.2⟩, .of_AW (AW_region (AOps.imp (fun g H q => ⟨rfl, q.1, q.2⟩) _ a1))⟩
      · simp only [lCode] at he
        cases hr : dr ops g h with
        | none =>
          rw [hr] at he
          simp only [lRegD] at he
          generalize hint P call ops.toList ops.toList g h = oid at he
          unfold lIceD at he
          split at he
          case h_2 => cases he
          rename_i hid
          unfold lIceD2 at he
          split at he
          case h_2 => cases he
          rename_i sz cs hg
          have hlt := rGet_lt hg
          rw [rGet_eq hk] at hg
          have hk2 := rSet_ok hk hid (.ice sz cs)
          cases hr2 : dr ops g (rSet h hid (.ice sz cs)) with
          | none => rw [hr2] at he; cases he
          | some r =>
            obtain ⟨g1, h1⟩ := r
            rw [hr2] at he
            cases he
            obtain ⟨k1, a1⟩ := hd _ _ _ _ _ hk2 hr2
            refine ⟨⟨k1.1, Nat.le_trans hn k1.2⟩, BW.vs (VS_ice hid hg) ?_⟩
            rw [← rSet_eq hk hlt]
            exact a1 _ k id hn
        | some r =>
          obtain ⟨g1, h1⟩ := r
          rw [hr] at he
          cases he
          obtain ⟨k1, a1⟩ := hd _ _ _ _ _ hk hr
          exact ⟨⟨k1.1, Nat.le_trans hn k1.2⟩, a1 _ k id hn⟩
    | _ => cases he
termination_by n => n
end
end Go.Abs
namespace Go.Abs
open Go
theorem leaves_marks {F : Fence} {n : Nat} {P : Program} {fn : Func} {tmps : Array Value} {R : Ending → World → Prop} : ∀ (bs : List Nat) (w : World), bs.Nodup → (∀ b ∈ bs, w.heap[b]? = some (.deferred (some []))) →
    (∀ wE : World, wE.heap.size = w.heap.size → wE.os = w.os → wE.tape = w.tape → wE.output = w.output → (∀ b, b ∉ bs → wE.heap[b]? = w.heap[b]?) → ∃ v, (results fn tmps).run P wE = .ok v wE ∧ R (.returned v) wE) → LeavesInM F n P fn tmps R (bs.map mkMark) .returning w
  | [], w, _, _, h => h w rfl rfl rfl rfl fun _ _ => rfl
  | b :: bs, w, hn, hb, h => by
    have hn' := List.nodup_cons.1 hn
    refine ⟨by simp, .inl ⟨b, w.putObj b (.deferred none), rfl, run_takeDeferred (hb b (List.mem_cons_self ..)), leaves_marks bs _ hn'.2 (fun c hc => ?_) fun wE k1 k2 k3 k4 k5 => ?_⟩⟩
    · rw [put_other fun e => hn'.1 (by rw [← e]; exact hc)]
      exact hb c (List.mem_cons_of_mem _ hc)
    · refine h wE (by rw [k1]; simp) k2 k3 k4 fun c hc => ?_
      rw [k5 c fun q => hc (List.mem_cons_of_mem _ q), put_other fun e => hc (by rw [e]; exact List.mem_cons_self ..)]
theorem AFn_of_BT {P : Program} {k : Nat} {n : FuncId} {fn : Func} {c : Code} {args : List AV} {Hi : List AO} {R : AV → List AO → Prop} (hf : P.funcs[n]? = some fn) (hb : fn.body = some c) (hn : (fn.name == "runtime.NumGoroutine") = false)
    (h : BT P k c (endM P k fn.results.toList R) (args ++ List.replicate (fn.ntmps - args.length) (.v undef)) Hi) : AFn P n k args Hi R := by
  intro I m w xs hr hv
  have hl := hv.len
  rw [Array.length_toList] at hl
  have e0 : (callFunc n xs).run P w = .ok (.enter n xs) w := by
    simp [callFunc, hf, hn, hb]
    intro hh
    simp [hh] at hn
  unfold CallsFn
  rw [e0]
  refine fR_callsOut (r := none) (n := 0) (callsIn_of_wp_marks hf hb trivial (wpIn_mono (h I m { tmps := xs ++ Array.replicate (fn.ntmps - xs.size) undef, defers := [] } w 0 w.heap.size hr ?_ (Nat.le_refl _) ⟨[], rfl, List.nodup_nil, fun b hb => by cases hb⟩) ?_))
  · simp only [Array.toList_append, Array.toList_replicate, hl]
    refine hv.append ?_
    generalize fn.ntmps - args.length = k
    induction k with
    | zero => simp [VRs]
    | succ k ih => simp only [List.replicate_succ, VRs]; exact ⟨_, _, rfl, by simp only [VR], ih⟩
  · rintro e a' w' ⟨g', H', I', m', h1, h2, h3, ⟨bs, b1, b2, b3⟩, h5, h6⟩
    have key : (match resAll P g' H' fn.results.toList with
        | some vs => Fin k (result vs) H' R
        | none => False) → LeavesInM (fR none) 0 P fn a'.tmps (fun e w' => ∃ v', e = .returned v' ∧ ∃ r Ho I' m', R r Ho ∧ VR I' m' w' r v' ∧ HR I' m' Ho w' ∧ Ex I (Own Hi m) w I' (Own Ho m') w' ∧ Kp k m m') a'.defers .returning w' := by
      intro h1
      rw [b1]
      refine leaves_marks bs w' b2 (fun b hb => (b3 b hb).2.1) fun wE k1 k2 k3 k4 k5 => ?_
      have same : ∀ b, b < w'.heap.size → (Own H' m' b ∨ I' b) → wE.heap[b]? = w'.heap[b]? := fun b _ q => k5 b fun hb => q.elim (b3 b hb).2.2.1 (b3 b hb).2.2.2
      have hE := h2.aside (w' := wE) (by omega) same
      have vE := VRs.aside h2 same h3
      have xE : Ex I (Own Hi m) w I' (Own H' m') wE := ⟨k2.trans h5.os, k3.trans h5.tape, k4.trans h5.output, by have := h5.size; omega, fun b hb hnb => by
        rw [k5 b fun hm => by have := (b3 b hm).1; omega]
        exact h5.blk b hb hnb, h5.imm, h5.ow, h5.inew⟩
      split at h1
      · rename_i vs k1
        obtain ⟨r, Ho, k2, hvs⟩ := h1
        obtain ⟨ys, k3, k4⟩ := resAll_ok hE vE k1
        have k5 : (results fn a'.tmps).run P wE = .ok (if h : ys.toArray.size = 1 then ys.toArray[0] else .tuple ys.toArray) wE := by
          unfold results
          simp only [Array.mapM_eq_mapM_toList, Sem.run_bind, Sem.run_map]
          erw [k3]
          simp
        have k6 : VR I' m' wE (result vs) (if h : ys.toArray.size = 1 then ys.toArray[0] else .tuple ys.toArray) := by
          have kl := k4.len
          match vs, ys, k4, kl with
          | [v], [y], k4, _ =>
            simp only [VRs] at k4
            obtain ⟨y', zs, e, k6, _⟩ := k4
            obtain ⟨rfl, rfl⟩ := List.cons.inj e
            simpa [result] using k6
          | [], [], k4, _ => simp [result, VR, VRs]
          | v :: v2 :: vs, y :: y2 :: ys, k4, _ =>
            simp only [result]
            rw [dif_neg (by simp)]
            simp only [VR]
            exact ⟨_, rfl, k4⟩
        obtain ⟨I2, m2, q1, q2, q3, q4, q5, q6⟩ := hvs I' m' wE [_] hE (by simp only [VRs]; exact ⟨_, _, rfl, k6, rfl⟩)
        simp only [VRs] at q2
        obtain ⟨y', zs, e, q2, _⟩ := q2
        obtain ⟨rfl, rfl⟩ := List.cons.inj e
        exact ⟨_, k5, _, rfl, r, Ho, I2, m2, k2, q2, q1, xE.trans (VS.ex q3 q4 q5), h6.trans q6⟩
      · exact h1.elim
    cases e with
    | normal => exact key h1
    | ret => exact key h1
    | _ => exact h1.elim
abbrev BWT := FuncId → Option (TypeId × TypeId)
def BWok (P : Program) (bwt : BWT) : Prop := ∀ nf tS tE, bwt nf = some (tS, tE) → BwFn P nf tS tE
def tEnd (g : List AV) : Option HP → KR
  | some h => some (.normal, g, h)
  | none => none
noncomputable def tR3 (P : Program) (call : CT) (dr : DT) (fuel : Nat) (ps : Array Tmp) (a b : Code) (g : List AV) (h : HP) (box : AV) : Option (TypeId × TypeId) → KR
  | some (tS, tE) => match Nat.beq ps.size 2 with
    | true => tEnd g (bwRun P tS tE box (rdRun P call dr fuel g ps a b) h)
    | false => none
  | none => none
noncomputable def tR2 (P : Program) (bwt : BWT) (call : CT) (dr : DT) (fuel : Nat) (ps : Array Tmp) (a b : Code) (g : List AV) (h : HP) : AV → KR
  | .fn (.func nf) [] [box] => tR3 P call dr fuel ps a b g h box (bwt nf)
  | _ => none
noncomputable def tCode (P : Program) (bwt : BWT) (call : CT) (dr : DT) (fuel k : Nat) (ih : Code → List AV → HP → KR) (g : List AV) (h : HP) : Code → KR
  | .seq a b => cThen (ih b) (ih a g h)
  | .block i b => cBlk i (ih b g h)
  | .rangeFunc f ps a b => tR2 P bwt call dr fuel ps a b g h (evF g f)
  | c => cL P call dr k fuel (Nat.add h.n 48) c g h
noncomputable def cT (P : Program) (bwt : BWT) (call : CT) (dr : DT) (fuel k n : Nat) : Code → List AV → HP → KR :=
  Nat.rec (motive := fun _ => Code → List AV → HP → KR) (fun _ _ _ => none) (fun _ ih c g h => tCode P bwt call dr fuel k ih g h c) n
section
variable {P : Program} {bwt : BWT} {call : CT} {dr : DT}
theorem cT_ok (hB : BWok P bwt) (hc : CTok P call) (hd : DTok P dr) (fuel k : Nat) : ∀ (n : Nat) (c : Code) {g : List AV} {h : HP} {e : Exit} {g' : List AV} {h' : HP}, h.ok → k ≤ h.n → cT P bwt call dr fuel k n c g h = some (e, g', h') → (h'.ok ∧ k ≤ h'.n) ∧ BT P k c (PostC e g' h'.L) g h.L
  | 0, c, g, h, e, g', h', hk, hn, he => by cases he
  | n + 1, c, g, h, e, g', h', hk, hn, he => by
    have he : tCode P bwt call dr fuel k (cT P bwt call dr fuel k n) g h c = some (e, g', h') := he
    have ih := cT_ok hB hc hd fuel k n
    have base : cL P call dr k fuel (Nat.add h.n 48) c g h = some (e, g', h') → (h'.ok ∧ k ≤ h'.n) ∧ BT P k c (PostC e g' h'.L) g h.L := fun q =>
      ⟨(@cL_ok _ _ _ noDefers hc hd k fuel _ c _ _ _ _ _ hk hn q).1, BT.of_BW fun D => (@cL_ok _ _ _ D hc hd k fuel _ c _ _ _ _ _ hk hn q).2⟩
    cases c with
    | seq a b =>
      simp only [tCode] at he
      cases ha : cT P bwt call dr fuel k n a g h with
      | none => rw [ha] at he; cases he
      | some r =>
        obtain ⟨e1, g1, h1⟩ := r
        rw [ha] at he
        obtain ⟨⟨k1, l1⟩, b1⟩ := ih a hk hn ha
        by_cases hx : e1 = .normal
        · subst hx
          obtain ⟨⟨k2, l2⟩, b2⟩ := ih b k1 l1 he
          refine ⟨⟨k2, l2⟩, BT_seq (b1.mono ?_)⟩
          rintro _ _ _ ⟨rfl, rfl, rfl⟩
          exact b2
        · have hq : (some (e1, g1, h1) : KR) = some (e, g', h') := by cases e1 <;> first | exact he | exact absurd rfl hx
          cases hq
          refine ⟨⟨k1, l1⟩, BT_seq (b1.mono ?_)⟩
          rintro ex _ _ ⟨rfl, rfl, rfl⟩
          cases ex <;> first | exact ⟨rfl, rfl, rfl⟩ | exact absurd rfl hx
    | block i b =>
      simp only [tCode] at he
      cases hb : cT P bwt call dr fuel k n b g h with
      | none => rw [hb] at he; cases he
      | some r =>
        obtain ⟨e1, g1, h1⟩ := r
        rw [hb] at he
        obtain ⟨k1, b1⟩ := ih b hk hn hb
        refine ⟨?_, BT_block (b1.mono ?_)⟩
        · cases e1 <;> first | (cases he; exact k1) | skip
          simp only [cBlk] at he
          split at he <;> (cases he; exact k1)
        · rintro ex _ _ ⟨rfl, rfl, rfl⟩
          cases ex <;> first | (cases he; exact ⟨rfl, rfl, rfl⟩) | skip
          rename_i j
          simp only [cBlk] at he
          simp only [blockA]
          cases hj : Nat.beq j i
          · rw [hj] at he
            rw [if_neg (by intro q; subst q; simp at hj)]
            cases he; exact ⟨rfl, rfl, rfl⟩
          · rw [hj] at he
            rw [if_pos (Nat.eq_of_beq_eq_true hj)]
            cases he; exact ⟨rfl, rfl, rfl⟩
    | rangeFunc f ps a b =>
      simp only [tCode, evF_eq] at he
      generalize hv : ev g f = v at he
      unfold tR2 at he
      split at he
      · rename_i nf box
        cases hb : bwt nf with
        | none => rw [hb] at he; cases he
        | some t =>
          obtain ⟨tS, tE⟩ := t
          rw [hb] at he
          simp only [tR3] at he
          cases hp : Nat.beq ps.size 2
          · rw [hp] at he; cases he
          · rw [hp] at he
            dsimp only at he
            cases hr : bwRun P tS tE box (rdRun P call dr fuel g ps a b) h with
            | none => rw [hr] at he; cases he
            | some hE =>
              rw [hr] at he
              cases he
              obtain ⟨t1, t2⟩ := BT_range hc hd hk hn hv (hB _ _ _ hb) (Nat.eq_of_beq_eq_true hp) hr
              exact ⟨⟨t1.1, Nat.le_trans hn t1.2⟩, t2⟩
      · cases he
    | _ => exact base he
end
abbrev KM := FuncId → List AV → HP → OR2
def KMok (P : Program) (km : KM) : Prop := ∀ f args h v h', h.ok → km f args h = some (v, h') → (h'.ok ∧ h.n ≤ h'.n) ∧ ACall P f args h.L (fun v1 H1 => v1 = v ∧ H1 = h'.L)
noncomputable def eFn2 (P : Program) (bwt : BWT) (call : CT) (dr : DT) (fuel : Nat) (args : List AV) (h : HP) (fn : Func) : Option Code → OR2
  | some c => cEnd P h.n fn.results.toList (cT P bwt call dr fuel h.n fuel c (args ++ List.replicate (fn.ntmps - args.length) (.v undef)) h)
  | none => none
noncomputable def eFn (P : Program) (bwt : BWT) (call : CT) (dr : DT) (fuel : Nat) (args : List AV) (h : HP) : Option Func → OR2
  | some fn => eFn2 P bwt call dr fuel args h fn fn.body
  | none => none
noncomputable def eDisp (P : Program) (bwt : BWT) (call : CT) (dr : DT) (fuel : Nat) (f : FuncId) (args : List AV) (h : HP) : OR2 → OR2
  | some r => some r
  | none => eFn P bwt call dr fuel args h (P.funcs[f]?)
noncomputable def eF (P : Program) (bwt : BWT) (km : KM) (dr : CT → DT) (fuel : Nat) (n : Nat) : CT :=
  Nat.rec (motive := fun _ => CT) (fun _ _ _ => none) (fun _ ih f args h => eDisp P bwt ih (dr ih) fuel f args h (km f args h)) n
theorem eFn_ok {P : Program} {bwt : BWT} {call : CT} {dr : DT} (hN : namesOK P = true) (hB : BWok P bwt) (hc : CTok P call) (hd : DTok P dr) {fuel : Nat} {f : FuncId} {args : List AV} {h : HP} (hk : h.ok) {v : AV} {h' : HP}
    (e : eFn P bwt call dr fuel args h (P.funcs[f]?) = some (v, h')) : (h'.ok ∧ h.n ≤ h'.n) ∧ AFn P f h.n args h.L (fun v1 H1 => v1 = v ∧ H1 = h'.L) := by
  cases hfn : P.funcs[f]? with
  | none => rw [hfn] at e; cases e
  | some fn =>
    rw [hfn] at e
    simp only [eFn] at e
    cases hb : fn.body with
    | none => rw [hb] at e; cases e
    | some c =>
      rw [hb] at e
      simp only [eFn2] at e
      have hname : (fn.name == "runtime.NumGoroutine") = false := by
        unfold namesOK at hN
        have := List.all_eq_true.1 hN fn (by rw [Array.mem_toList_iff]; exact Array.mem_of_getElem? hfn)
        simpa using this
      cases hcc : cT P bwt call dr fuel h.n fuel c (args ++ List.replicate (fn.ntmps - args.length) (.v undef)) h with
      | none => rw [hcc] at e; cases e
      | some r =>
        obtain ⟨ex, g1, h1⟩ := r
        rw [hcc] at e
        obtain ⟨⟨k1, l1⟩, b1⟩ := cT_ok hB hc hd fuel h.n fuel c hk (Nat.le_refl _) hcc
        have fin : cRes h.n h1 (resFs P g1 h1 fn.results.toList) = some (v, h') → (h'.ok ∧ h.n ≤ h'.n) ∧ (match resAll P g1 h1.L fn.results.toList with
            | some vs => Fin h.n (result vs) h1.L (fun v1 H1 => v1 = v ∧ H1 = h'.L)
            | none => False) := fun q => by
          rw [resFs_eq P g1 k1] at q
          cases hr : resAll P g1 h1.L fn.results.toList with
          | none => rw [hr] at q; cases q
          | some vs => rw [hr] at q; exact cGc_ok k1 l1 q
        have hx : ex = .normal ∨ ex = .ret := by cases ex <;> first | exact .inl rfl | exact .inr rfl | (cases e; done)
        have e2 : cRes h.n h1 (resFs P g1 h1 fn.results.toList) = some (v, h') := by rcases hx with rfl | rfl <;> exact e
        obtain ⟨q1, q2⟩ := fin e2
        refine ⟨q1, AFn_of_BT hfn hb hname (b1.mono ?_)⟩
        rintro e1 _ _ ⟨rfl, rfl, rfl⟩
        rcases hx with rfl | rfl <;> exact q2
theorem eF_ok {P : Program} {bwt : BWT} {km : KM} {dr : CT → DT} (hN : namesOK P = true) (hB : BWok P bwt) (hK : KMok P km) (hD : ∀ call, CTok P call → DTok P (dr call)) (fuel : Nat) : ∀ n, CTok P (eF P bwt km dr fuel n)
  | 0 => fun _ _ _ _ _ _ e => by cases e
  | n + 1 => by
    have ih := eF_ok hN hB hK hD fuel n
    intro f args h v h' hk e
    have e : eDisp P bwt (eF P bwt km dr fuel n) (dr (eF P bwt km dr fuel n)) fuel f args h (km f args h) = some (v, h') := e
    cases hm : km f args h with
    | some r => rw [hm] at e; cases e; exact hK _ _ _ _ _ hk hm
    | none =>
      rw [hm] at e
      obtain ⟨q1, q2⟩ := eFn_ok hN hB ih (hD _ ih) hk e
      refine ⟨q1, ACall_of_AFn ?_⟩
      rw [HP.len hk]
      exact q2
end Go.Abs
namespace Go.Abs
open Go
section
variable {I I' : Nat → Prop} {m m' : List Loc} {H H' : List AO} {w w' : World} {k : Nat}
theorem VRs.kp (hr : HR I m H w) (e : Ex I (Own H m) w I' (Own H' m') w') (q : Kp k m m') {cs : List AV} {xs : List Value} (hg : okVs (fun j => Nat.blt j k) cs = true) (h : VRs I m w cs xs) : VRs I' m' w' cs xs := by
  have h1 := VRs.on (m' := m') (τ := fun j => j) (p := fun j => Nat.blt j k) (fun j L hj hL => lk_of (q j L (by simpa using hj) (lk_get hL).1) (lk_get hL).2) cs xs hg h
  rw [rens_id] at h1
  have h2 := VRs.mono (I := I) (I' := I') (nu := []) (w' := w') e.imm (fun b hb => e.blk b (hr.ilt b hb) (hr.imm b hb)) cs xs h1
  simpa using h2
theorem Lp.kp {l : Nat} {rec : Loop} {g0 : List AV} (hr : HR I m H w) (h : Lp l rec g0 I m H w) (e : Ex I (Own H m) w I' (Own H' m') w') (q : Kp k m m') (hg : okVs (fun j => Nat.blt j k) g0 = true) : Lp l rec g0 I' m' H' w' :=
  ⟨h.at'.ex e, VRs.kp hr e q hg h.tmps⟩
end
def YV (P : Program) (k l : Nat) (rec : Loop) (g0 : List AV) (c : Code) (Q : Exit → List AV → List AO → Prop) (g : List AV) (H : List AO) : Prop :=
  ∀ (I : Nat → Prop) (m : List Loc) (a : Act) (w : World) (n : Nat), HR I m H w → VRs I m w g a.tmps.toList → a.defers = [] → Lp l rec g0 I m H w →
    c.wpIn (fR none) n P (fun e a' w' => ∃ g' H' I' m', Q e g' H' ∧ HR I' m' H' w' ∧ VRs I' m' w' g' a'.tmps.toList ∧ a'.defers = [] ∧ Ex I (Own H m) w I' (Own H' m') w' ∧ Kp k m m') a w
def RdV (P : Program) (k l : Nat) (rec : Loop) (g0 : List AV) (args : List AV) (H H' : List AO) : Prop :=
  ∀ (I : Nat → Prop) (m : List Loc) (w : World) (xs : Array Value) (n : Nat), HR I m H w → VRs I m w args xs.toList → Lp l rec g0 I m H w →
    xs.size = rec.params.size ∧ RoundIn (fR none) n P l rec.fn ((rec.params.zip xs).foldl (fun t (p, v) => t.setIfInBounds p v) rec.tmps) rec.assign rec.body w
      (fun e w' => e = .returned (.bool true) ∧ ∃ I' m', HR I' m' H' w' ∧ Ex I (Own H m) w I' (Own H' m') w' ∧ Kp k m m')
section
variable {P : Program} {k l : Nat} {rec : Loop} {g0 : List AV} {Q Q' : Exit → List AV → List AO → Prop} {g g2 : List AV} {H H2 : List AO}
theorem YV.of_BW {c : Code} (h : @BW noDefers P k c Q g H) : YV P k l rec g0 c Q g H := fun I m a w n h1 h2 h3 _ => h I m a w h1 h2 h3 none n
theorem YV_seq {x y : Code} (hg : okVs (fun j => Nat.blt j k) g0 = true) (h : YV P k l rec g0 x (thenA (YV P k l rec g0 y Q) Q) g H) : YV P k l rec g0 (.seq x y) Q g H := by
  intro I m a w n h1 h2 h3 h4
  refine wpIn_seq (wpIn_mono (h I m a w n h1 h2 h3 h4) ?_)
  rintro e a' w' ⟨g', H', I', m', k4, k5, k6, k7, k8, k9⟩
  cases e with
  | normal =>
    refine wpIn_mono (k4 I' m' a' w' n k5 k6 k7 (h4.kp h1 k8 k9 hg)) ?_
    rintro e a2 w2 ⟨g2, H2, I2, m2, q1, q2, q3, q4, q5, q6⟩
    exact ⟨g2, H2, I2, m2, q1, q2, q3, q4, k8.trans q5, k9.trans q6⟩
  | _ => exact ⟨g', H', I', m', k4, k5, k6, k7, k8, k9⟩
theorem YV_block {id : Nat} {c : Code} (h : YV P k l rec g0 c (blockA id Q) g H) : YV P k l rec g0 (.block id c) Q g H := by
  intro I m a w n h1 h2 h3 h4
  refine wpIn_block (wpIn_mono (h I m a w n h1 h2 h3 h4) ?_)
  rintro e a' w' ⟨g', H', I', m', k4, k5⟩
  cases e with
  | exit id' =>
    simp only [blockA] at k4
    simp only [Exit.inBlock]
    split at k4
    · rename_i hid; rw [if_pos hid]; exact ⟨g', H', I', m', k4, k5⟩
    · rename_i hid; rw [if_neg hid]; exact ⟨g', H', I', m', k4, k5⟩
  | _ => exact ⟨g', H', I', m', k4, k5⟩
theorem YV_loop {c : Code} (hg : okVs (fun j => Nat.blt j k) g0 = true) (J : Nat → List AV → List AO → Prop) (j : Nat) (h0 : J j g H) (round : ∀ j g H, J j g H → YV P k l rec g0 c (thenA (fun g' H' => ∃ j' g2 H2, j' < j ∧ J j' g2 H2 ∧ VS k g' H' g2 H2) Q) g H) : YV P k l rec g0 (.loop c) Q g H := by
  intro I m a w n h1 h2 h3 h4
  let Inv : Nat → Act → World → Prop := fun j a' w' => ∃ g' H' I' m', J j g' H' ∧ HR I' m' H' w' ∧ VRs I' m' w' g' a'.tmps.toList ∧ a'.defers = [] ∧ Ex I (Own H m) w I' (Own H' m') w' ∧ Kp k m m'
  refine wpIn_loop (fun a w => ∃ j, Inv j a w) (fun a w => leastOf fun j => Inv j a w) ⟨j, g, H, I, m, h0, h1, h2, h3, Ex.refl _ _ _, Kp.refl _ _⟩ fun a1 w1 hI => ?_
  obtain ⟨g1, H1, I1, m1, j1, j2, j3, j4, j5, j6⟩ := (leastOf_spec hI).1
  refine wpIn_mono (round _ g1 H1 j1 I1 m1 a1 w1 n j2 j3 j4 (h4.kp h1 j5 j6 hg)) ?_
  rintro e a2 w2 ⟨g2, H2, I2, m2, k1, k2, k3, k4, k5, k6⟩
  cases e with
  | normal =>
    obtain ⟨j', g3, H3, hlt, hj, hv⟩ := k1
    obtain ⟨I3, m3, r1, r2, r3, r4, r5, r6⟩ := hv I2 m2 w2 _ k2 k3
    have hi : Inv j' a2 w2 := ⟨g3, H3, I3, m3, hj, r1, r2, k4, (j5.trans k5).trans (VS.ex r3 r4 r5), (j6.trans k6).trans r6⟩
    exact ⟨⟨j', hi⟩, Nat.lt_of_le_of_lt ((leastOf_spec ⟨j', hi⟩).2 j' hi) hlt⟩
  | _ => exact ⟨g2, H2, I2, m2, k1, k2, k3, k4, j5.trans k5, j6.trans k6⟩
theorem YV_region_y {id : Nat} {ops : Array Oper} (pre post : List Oper) (y : Oper) (f : Operand) (args : Array Operand) (ats : Array TypeId) (hops : ops.toList = pre ++ y :: post) (hy : y.op = .call ⟨.value f, args, ats⟩) (hgd : y.guard = none)
    (h : AOps P ops (fun g1 H1 => ev g1 f = .fn (.yield l) [] [] ∧ okVs (fun j => Nat.blt j k) g1 = true ∧ k ≤ H1.length ∧ ∃ H2, RdV P k l rec g0 (args.toList.map (ev g1)) H1 H2 ∧ AOps P ops (Q .normal) post (put g1 y.dst (.v (.bool true))) H2) pre g H) : YV P k l rec g0 (.region id ops false) Q g H := by
  intro I m a w n hr hg hd hl
  have hsz : ops.size = pre.length + (1 + post.length) := by
    have := congrArg List.length hops
    simp only [Array.length_toList, List.length_append, List.length_cons] at this
    omega
  have hget : ∀ j, ops[j]? = (pre ++ y :: post)[j]? := fun j => by rw [← hops, Array.getElem?_toList]
  refine wpIn_region ?_
  have hrange : List.range ops.size = List.range' 0 pre.length ++ (pre.length :: List.range' (pre.length + 1) post.length) := by
    rw [List.range_eq_range', hsz, List.range'_append_1 .. |>.symm]
    congr 1
    rw [Nat.add_comm 1 post.length, List.range'_succ]
    simp
  rw [hrange]
  refine aops_more pre 0 (fun j hj => by rw [hget, Nat.zero_add, List.getElem?_append_left hj]) hr hg hd ?_ h
  rintro a1 w1 ⟨g1, H1, I1, m1, ⟨hf, hok, hk1, H2, hrd, hpost⟩, k2, k3, k4, k5⟩
  rw [wpOpsIn_cons]
  unfold wpOpIn
  have hyo : ops[pre.length]? = some y := by rw [hget]; simp
  simp only [hyo]
  rw [if_pos (by unfold Region.wanted; rw [hgd])]
  refine ⟨fun _ _ => trivial, ?_⟩
  rw [Oper.semAt_eq _ _ _ (fun c e => by rw [hy] at e; cases e)]
  have hfv := VR.ev k3 f
  rw [hf] at hfv
  simp only [VR] at hfv
  obtain ⟨xs, ys, he, hxs, hys⟩ := hfv
  simp only [VRs] at hxs hys
  obtain rfl : xs = #[] := by simpa using hxs
  obtain rfl : ys = #[] := by simpa using hys
  have hargs := evs_arr k3 args
  have hl1 := hl.ext hr k5
  obtain ⟨hs, hround⟩ := hrd I1 m1 w1 (args.map a1.eval) (n - 1) k2 hargs hl1
  have e0 : (execOp a1.eval y).run P w1 = .ok (.round l rec.fn ((rec.params.zip (args.map a1.eval)).foldl (fun tmps (t, x) => tmps.setIfInBounds t x) rec.tmps) rec.assign rec.body) w1 := by
    have := run_yield (P := P) hl1.at'.heap hs
    rw [← this]
    simp [execOp, hy, resolve, he, Deferred.ofValue, invoke]
  rw [e0]
  rw [Oper.uponIn_round]
  refine ⟨fun q => (by cases q), hround.mono fun e w2 hq => ?_⟩
  obtain ⟨rfl, I2, m2, q1, q2, q3⟩ := hq
  dsimp only
  have hg2 : VRs I2 m2 w2 (put g1 y.dst (.v (.bool true))) (a1.put y.dst (.bool true)).tmps.toList := put_ok (VRs.kp k2 q2 q3 hok k3) y.dst (by simp only [VR])
  have hd2 : (a1.put y.dst (.bool true)).defers = [] := put_defers k4
  have := aops_more (n := n) (rest := []) (Q := fun e a' w' => ∃ g' H' I' m', Q e g' H' ∧ HR I' m' H' w' ∧ VRs I' m' w' g' a'.tmps.toList ∧ a'.defers = [] ∧ Ex I (Own H m) w I' (Own H' m') w' ∧ Kp k m m') post (pre.length + 1)
    (fun j hj => by
      rw [hget, List.getElem?_append_right (by omega)]
      have : pre.length + 1 + j - pre.length = j + 1 := by omega
      rw [this]; simp) q1 hg2 hd2 (fun a' w' hp => by
      obtain ⟨g', H', I', m', p1, p2, p3, p4, p5⟩ := hp
      exact ⟨g', H', I', m', p1, p2, p3, p4, k5.ex.trans (q2.trans p5.ex), (Kp.pre k5.pre).trans (q3.trans (Kp.pre p5.pre))⟩) hpost
  simpa using this
theorem RdV_of_BW (hst : rec.state = .ready) (hpe : rec.pending = none) {args : List AV} {H' : List AO} {Q1 : List AV → List AO → Prop} (ha : args.length = rec.params.size)
    (b1 : @BW noDefers P k rec.assign (fun e g1 H1 => e = .normal ∧ Q1 g1 H1) (putAll g0 rec.params.toList args) H)
    (b2 : ∀ g1 H1, Q1 g1 H1 → @BW noDefers P k rec.body (fun e _ H2 => e = .normal ∧ H2 = H') g1 H1) : RdV P k l rec g0 args H H' := by
  intro I m w xs n hr hv hl
  have hs : xs.size = rec.params.size := by
    have := hv.len
    simp only [Array.length_toList] at this
    omega
  refine ⟨hs, roundIn_of_wpIn trivial ?_⟩
  have hg := putAll_arr (ps := rec.params) hl.tmps hv
  refine wpIn_mono (b1 I m { tmps := _, defers := [] } w hr hg rfl (some l) n) ?_
  rintro e a1 w1 ⟨g1, H1, I1, m1, ⟨rfl, hq1⟩, q2, q3, q4, q5, q6⟩
  have hat1 := hl.at'.ex q5
  refine ⟨_, run_beginRound hat1.heap hst, ?_⟩
  obtain ⟨t1, t2, t3⟩ := hat1.turn q2 (.loop { rec with state := .busy })
  refine wpIn_mono (b2 g1 H1 hq1 I1 m1 a1 _ t1 (t3 q3) q4 (some l) n) ?_
  rintro e a3 w3 ⟨g3, _, I3, m3, ⟨rfl, rfl⟩, r2, r3, r4, r5, r6⟩
  have hat3 := t2.ex r5
  refine ⟨_, _, run_endRound none hat3.heap, rfl, I3, m3, ?_⟩
  obtain ⟨u1, u2, u3⟩ := hat3.turn r2 (.loop rec)
  have erec : ({ ({ rec with state := .busy } : Loop) with state := if (none : Option Code).isNone then .ready else .done, pending := none } : Loop) = rec := by
    cases rec
    simp only at hst hpe
    simp [hst, hpe]
  rw [erec]
  refine ⟨u1, ⟨?_, ?_, ?_, ?_, ?_, ?_, ?_, ?_⟩, q6.trans r6⟩
  · exact r5.os.trans q5.os
  · exact r5.tape.trans q5.tape
  · exact r5.output.trans q5.output
  · have h1 := r5.size
    have h2 := q5.size
    simp only [World.putObj_size] at h1 ⊢
    omega
  · intro b hb hn
    by_cases hbl : b = l
    · subst hbl
      rw [World.putObj_heap_same (lt_of_heap hat3.heap), hl.at'.heap]
    · rw [put_other hbl]
      have hb1 : b < w1.heap.size := Nat.lt_of_lt_of_le hb q5.size
      have hn1 : ¬ Own H1 m1 b := fun q => (q5.ow b q).elim hn fun q => by omega
      rw [r5.blk b (by simpa using hb1) hn1, put_other hbl, q5.blk b hb hn]
  · exact fun b hb => r5.imm b (q5.imm b hb)
  · intro b hb
    rcases r5.ow b hb with q | q
    · exact q5.ow b q
    · simp only [World.putObj_size] at q
      exact .inr (Nat.le_trans q5.size q)
  · intro b hb
    rcases r5.inew b hb with q | q | q
    · exact q5.inew b q
    · exact .inr (q5.ow b q)
    · simp only [World.putObj_size] at q
      exact .inr (.inr (Nat.le_trans q5.size q))
end
section
variable {P : Program}
set_option maxHeartbeats 1000000 in
theorem BT_rangeV {k0 k : Nat} {f : Operand} {ps : Array Tmp} {assign body cb : Code} {fn : Func} {g caps : List AV} {H HE : List AO} {nf : FuncId} (hk0 : k0 ≤ k) (hf : ev g f = .fn (.func nf) [] caps) (q1 : P.funcs[nf]? = some fn) (q2 : fn.body = some cb) (q5 : fn.results = #[]) (q6 : (fn.name == "runtime.NumGoroutine") = false)
    (hg0 : okVs (fun j => Nat.blt j k) g = true) (hY : ∀ (l : Nat) (rec : Loop), rec.state = .ready → rec.pending = none → rec.params = ps → rec.assign = assign → rec.body = body →
      YV P k l rec g cb (fun e g' H' => (e = .normal ∨ e = .ret) ∧ H' = HE) ([.fn (.yield l) [] []] ++ caps ++ List.replicate (fn.ntmps - (1 + caps.length)) (.v undef)) H) : BT P k0 (.rangeFunc f ps assign body) (PostC .normal g HE) g H := by
  intro I m a w n N hr hg hN hm
  have hfv := VR.ev hg f
  rw [hf] at hfv
  simp only [VR] at hfv
  obtain ⟨xs, ys, he, hxs, hys⟩ := hfv
  simp only [VRs] at hxs
  obtain rfl : xs = #[] := by simpa using hxs
  refine wpIn_rangeFunc fun fn' _ => ?_
  let rc : Loop := { state := .ready, pending := none, fn := fn', tmps := a.tmps, params := ps, assign, body, defers := w.heap.size }
  let w0 : World := w.alloc (.deferred (some []))
  let w1 : World := w0.alloc (.loop rc)
  let l := w.heap.size + 1
  have s0 : w0.heap.size = w.heap.size + 1 := World.size_alloc _ _
  have s1 : w1.heap.size = w.heap.size + 2 := (World.size_alloc _ _).trans (by rw [s0])
  have old : ∀ b, b < w.heap.size → w1.heap[b]? = w.heap[b]? := fun b hb => (alloc_old (by omega)).trans (alloc_old hb)
  have hr1 : HR I m H w1 := hr.aside (by omega) fun b hb _ => old b hb
  have hown : ∀ b, w.heap.size ≤ b → ¬ Own H m b := fun b hb ⟨id, o, L, p1, p2, p3, p4, p5⟩ => by
    have := hr.lt p1 p2 p3 p4
    omega
  have himm : ∀ b, w.heap.size ≤ b → ¬ I b := fun b hb p => by have := hr.ilt b p; omega
  have hlp : Lp l rc g I m H w1 := ⟨⟨by
    have := World.alloc_heap_new w0 (.loop rc)
    rw [s0] at this; exact this, hown l (by omega), himm l (by omega)⟩, VRs.aside hr (fun b hb _ => old b hb) hg⟩
  have hmk : At w.heap.size (.deferred (some [])) I m H w1 := ⟨(alloc_old (by omega)).trans (World.alloc_heap_new w _), hown _ (Nat.le_refl _), himm _ (Nat.le_refl _)⟩
  have hres : ∃ d, (resolve a.eval (rangeCall f l) 0).run P w1 = .ok d w1 ∧ (invoke d.target d.args).run P w1 = .ok (.enter nf ((#[Value.func (.yield l) #[] #[]] : Array Value) ++ ys)) w1 := by
    have hcst : a.eval (.const (.func (.yield l) #[] #[])) = .func (.yield l) #[] #[] := rfl
    refine ⟨{ target := .fn (.func nf) ys, args := #[.func (.yield l) #[] #[]] }, by simp [rangeCall, resolve, he, Deferred.ofValue, hcst], ?_⟩
    simp [invoke, callFunc, q1, q2]
    intro hh
    simp [hh] at q6
  obtain ⟨d, d1, d2⟩ := hres
  refine ⟨l, _, w1, d, w1, nf, _, w1, run_enterLoop_outer fn' a.tmps ps assign body, d1, fun _ _ => trivial, d2, fun q => (by cases q), ?_⟩
  have hY := hY l rc rfl rfl rfl rfl rfl
  have hysl : ys.size = caps.length := by have := hys.len; simpa using this
  refine callsIn_of_wp q1 q2 trivial (wpIn_mono (hY I m { tmps := #[.func (.yield l) #[] #[]] ++ ys ++ Array.replicate (fn.ntmps - ((#[Value.func (.yield l) #[] #[]] : Array Value) ++ ys).size) undef, defers := [] } w1 (n - 1) hr1 ?_ rfl hlp) ?_)
  · simp only [Array.toList_append, Array.toList_replicate]
    have hu : ∀ k, VRs I m w1 (List.replicate k (.v undef)) (List.replicate k undef) := fun k => by
      induction k with
      | zero => simp [VRs]
      | succ k ih => simp only [List.replicate_succ, VRs]; exact ⟨_, _, rfl, by simp only [VR], ih⟩
    have es : fn.ntmps - (#[Value.func (.yield l) #[] #[]] ++ ys).size = fn.ntmps - (1 + caps.length) := by simp [hysl]
    rw [es]
    refine VRs.append (I := I) (VRs.append (I := I) ?_ ?_) (hu _)
    · simp only [VRs]
      refine ⟨_, _, rfl, ?_, rfl⟩
      simp only [VR]
      exact ⟨#[], #[], rfl, by simp [VRs], by simp [VRs]⟩
    · exact VRs.aside hr (w' := w1) (fun b hb _ => old b hb) hys
  rintro ex a3 w3 ⟨g3, H3, I3, m3, ⟨hex, hHE⟩, r2, r3, r4, r5, r6⟩
  subst H3
  have hlp3 := hlp.kp hr1 r5 r6 hg0
  have hm3 : At w.heap.size (.deferred (some [])) I3 m3 HE w3 := hmk.ex r5
  obtain ⟨t1, t2, t3⟩ := hlp3.at'.turn r2 (.loop { rc with state := .exhausted })
  have key : a3.defers = [] ∧ ∃ v, (results fn a3.tmps).run P w3 = .ok v w3 ∧ rangePost (fR none) n P l (fun e a' w' => ∃ g' H' I' m', PostC .normal g HE e g' H' ∧ HR I' m' H' w' ∧ VRs I' m' w' g' a'.tmps.toList ∧ Marks N (Own H' m') I' w' a'.defers ∧ Ex I (Own H m) w I' (Own H' m') w' ∧ Kp k0 m m')
      { a with defers := [{ target := .collected w.heap.size, args := #[] }] ++ a.defers } (.returned v) w3 := by
    refine ⟨r4, .tuple #[], by simp [results, q5], none, _, run_endLoop hlp3.at'.heap (by simp [rc]), g, HE, I3, m3, ⟨rfl, rfl, rfl⟩, t1, t3 hlp3.tmps, ?_, ?_, ?_⟩
    · obtain ⟨bs, b1, b2, b3⟩ := hm
      refine ⟨w.heap.size :: bs, by simp [b1, mkMark], List.nodup_cons.2 ⟨fun q => ?_, b2⟩, fun b hb => ?_⟩
      · have := lt_of_heap (b3 _ q).2.1; omega
      · rcases List.mem_cons.1 hb with rfl | hb
        · refine ⟨hN, ?_, hm3.own, hm3.imm⟩
          rw [put_other (by omega)]; exact hm3.heap
        · obtain ⟨p0, p1, p2, p3⟩ := b3 b hb
          have hbl := lt_of_heap p1
          have hat : At b (.deferred (some [])) I m H w1 := ⟨(old b hbl).trans p1, p2, p3⟩
          have hat3 := hat.ex r5
          refine ⟨p0, ?_, hat3.own, hat3.imm⟩
          rw [put_other (by omega)]; exact hat3.heap
    · refine ⟨r5.os, r5.tape, r5.output, ?_, fun b hb hn => ?_, r5.imm, fun b hb => ?_, fun b hb => ?_⟩
      · have := r5.size
        simp only [World.putObj_size]; omega
      · rw [put_other (by omega), r5.blk b (by omega) hn, old b hb]
      · rcases r5.ow b hb with q | q
        · exact .inl q
        · exact .inr (by omega)
      · rcases r5.inew b hb with q | q | q
        · exact .inl q
        · exact .inr (.inl q)
        · exact .inr (.inr (by omega))
    · exact fun i L hi hL => r6 i L (by omega) hL
  cases ex with
  | normal => exact key
  | ret => exact key
  | _ => rcases hex with hex | hex <;> cases hex
end
end Go.Abs
namespace Go.Abs
open Go
theorem AOps_mono {P : Program} {ops : Array Oper} {K K' : List AV → List AO → Prop} (hk : ∀ g H, K g H → K' g H) : ∀ {o1 : List Oper} {g : List AV} {H : List AO}, AOps P ops K o1 g H → AOps P ops K' o1 g H
  | [], g, H, h => hk _ _ h
  | o :: o1, g, H, h => by
    simp only [AOps, AOp] at h ⊢
    unfold AOpR at h ⊢
    cases hw : wantA ops g o with
    | none => rw [hw] at h; exact h
    | some b =>
      rw [hw] at h
      cases b with
      | true => exact AExecR.mono' h fun v H' q => AOps_mono hk q
      | false => exact AOps_mono hk h
theorem lowOps_split {ops : Array Oper} : ∀ (os : List Oper) {l1 : List LOp} {x : LOp} {l2 : List LOp}, lowOps ops os = some (l1 ++ x :: l2) → ∃ o1 o o2, os = o1 ++ o :: o2 ∧ lowOps ops o1 = some l1 ∧ lowOp ops o = some x ∧ lowOps ops o2 = some l2
  | [], l1, x, l2, h => by simp [lowOps] at h
  | o :: os, l1, x, l2, h => by
    simp only [lowOps] at h
    split at h
    · rename_i y ls h1 h2
      injection h with h
      cases l1 with
      | nil =>
        simp only [List.nil_append, List.cons.injEq] at h
        obtain ⟨rfl, rfl⟩ := h
        exact ⟨[], o, os, rfl, rfl, h1, h2⟩
      | cons z l1 =>
        simp only [List.cons_append, List.cons.injEq] at h
        obtain ⟨rfl, rfl⟩ := h
        obtain ⟨o1, o', o2, rfl, q1, q2, q3⟩ := lowOps_split os h2
        exact ⟨o :: o1, o', o2, rfl, by simp only [lowOps, h1, q1], q2, q3⟩
    · cases h
theorem AOps_append {P : Program} {ops : Array Oper} {K : List AV → List AO → Prop} {o2 : List Oper} : ∀ {o1 : List Oper} {g : List AV} {H : List AO}, AOps P ops (AOps P ops K o2) o1 g H → AOps P ops K (o1 ++ o2) g H
  | [], g, H, h => h
  | o :: o1, g, H, h => by
    simp only [List.cons_append, AOps, AOp] at h ⊢
    unfold AOpR at h ⊢
    cases hw : wantA ops g o with
    | none => rw [hw] at h; exact h
    | some b =>
      rw [hw] at h
      cases b with
      | true => exact AExecR.mono' h fun v H' q => AOps_append q
      | false => exact AOps_append h
def RegS (P : Program) (K : List AV → List AO → Prop) (ops : List LOp) (g : List AV) (H : List AO) : Prop := ∀ (ar : Array Oper) (os : List Oper), lowOps ar os = some ops → AOps P ar K os g H
theorem RegS_ops {P : Program} {K : List AV → List AO → Prop} {ops : List LOp} {g : List AV} {H : List AO} (h : LOps P K ops g H) : RegS P K ops g H := fun ar os hl => LOps_ok _ _ hl h
theorem RegS_at {P : Program} {K : List AV → List AO → Prop} {ops : List LOp} (n : Nat) {d : Option Tmp} {op : Op} (h0 : ops[n]? = some ⟨d, op, none⟩) (hop : ∀ f a t, op ≠ .call ⟨.value f, a, t⟩) {g : List AV} {H : List AO}
    (h : LOps P (fun g1 H1 => ∃ v H', OpSem P g1 H1 op v H' ∧ RegS P K (ops.drop (n + 1)) (put g1 d v) H') (ops.take n) g H) : RegS P K ops g H := fun ar os hl => by
  have hn : n < ops.length := (List.getElem?_eq_some_iff.1 h0).1
  have he : ops = ops.take n ++ ⟨d, op, none⟩ :: ops.drop (n + 1) := by
    have h1 := List.take_append_drop n ops
    rw [List.drop_eq_getElem_cons hn, (List.getElem?_eq_some_iff.1 h0).2] at h1
    exact h1.symm
  rw [he] at hl
  obtain ⟨o1, o, o2, rfl, q1, q2, q3⟩ := lowOps_split os hl
  refine AOps_append (LOps_ok _ _ q1 (LOps.imp (fun g1 H1 hk => ?_) h))
  obtain ⟨v, H', hs, hk⟩ := hk
  unfold lowOp at q2
  split at q2
  · rename_i hg
    injection q2 with q2
    injection q2 with e1 e2 e3
    subst e1; subst e2
    simp only [AOps, AOp]
    unfold AOpR
    have hw : wantA ar g1 o = some true := by unfold wantA; rw [hg]
    rw [hw]
    dsimp only
    unfold AExecR
    split
    · rename_i f a t hc
      exact (hop f a t hc).elim
    · exact .inr ⟨v, H', hs, hk _ _ q3⟩
  · split at q2 <;> cases q2
theorem MW_regS [DSt] {P : Program} {k : Nat} {Q : Exit → List AV → List AO → Prop} {ops : List LOp} {g : List AV} {H : List AO} (h : RegS P (Q .normal) ops g H) : MW P k (.reg ops) Q g H := fun c hc => by
  obtain ⟨id, ar, rfl, hl⟩ := low_reg hc
  exact BW.of_AW (AW_region (h _ _ hl))
theorem MW_loop_sw [DSt] {P : Program} {k : Nat} {Q : Exit → List AV → List AO → Prop} {g : List AV} {H : List AO} {σ : Type} {x : LC} (S : σ → List AV) (HS : σ → List AO) (Inv : σ → Prop) (μ : σ → Nat) (s0 : σ) (hv : VS k g H (S s0) (HS s0)) (hi : Inv s0)
    (round : ∀ s, Inv s → MW P k x (thenA (fun g' H' => ∃ s', μ s' < μ s ∧ Inv s' ∧ VS k g' H' (S s') (HS s')) Q) (S s) (HS s)) : MW P k (.loop x) Q g H :=
  MW.vs hv (MW_loop (fun n g H => ∃ s, n = μ s ∧ Inv s ∧ g = S s ∧ H = HS s) (μ s0) ⟨s0, rfl, hi, rfl, rfl⟩ fun n g H ⟨s, h1, h2, h3, h4⟩ => by
    subst h1; subst h3; subst h4
    refine MW.mono (round s h2) fun e g H hq => ?_
    cases e with
    | normal =>
      obtain ⟨s', h5, h6, h7⟩ := hq
      exact ⟨μ s', _, _, h5, ⟨s', rfl, h6, rfl, rfl⟩, h7⟩
    | _ => exact hq)
theorem BT.of_MW {P : Program} {k : Nat} {Q : Exit → List AV → List AO → Prop} {g : List AV} {H : List AO} {c : Code} {x : LC} (hc : low c = some x) (h : ∀ D : DSt, @MW D P k x Q g H) : BT P k c Q g H := BT.of_BW fun D => h D c hc
section
variable {P : Program} {k l : Nat} {rec : Loop} {g0 : List AV} {Q : Exit → List AV → List AO → Prop} {g g2 : List AV} {H H2 : List AO}
theorem YV.of_MW {c : Code} {x : LC} (hc : low c = some x) (h : @MW noDefers P k x Q g H) : YV P k l rec g0 c Q g H := YV.of_BW (h c hc)
theorem YV.vs {c : Code} (hg : okVs (fun j => Nat.blt j k) g0 = true) (hv : VS k g H g2 H2) (h : YV P k l rec g0 c Q g2 H2) : YV P k l rec g0 c Q g H := fun I m a w n h1 h2 h3 h4 => by
  obtain ⟨I2, m2, k1, k2, k3, k4, k5, k6⟩ := hv I m w _ h1 h2
  have hex : Ex I (Own H m) w I2 (Own H2 m2) w := VS.ex k3 k4 k5
  exact wpIn_mono (h I2 m2 a w n k1 k2 h3 (h4.kp h1 hex k6 hg)) fun e a' w' ⟨g', H', I', m', q1, q2, q3, q4, q5, q6⟩ => ⟨g', H', I', m', q1, q2, q3, q4, hex.trans q5, k6.trans q6⟩
theorem YV_reg_y {c : Code} {ops : List LOp} (hc : low c = some (.reg ops)) (n : Nat) {d : Option Tmp} {f : Operand} {args : Array Operand} {ats : Array TypeId} (h0 : ops[n]? = some ⟨d, .call ⟨.value f, args, ats⟩, none⟩)
    (h : RegS P (fun g1 H1 => ev g1 f = .fn (.yield l) [] [] ∧ okVs (fun j => Nat.blt j k) g1 = true ∧ k ≤ H1.length ∧ ∃ H2, RdV P k l rec g0 (args.toList.map (ev g1)) H1 H2 ∧ RegS P (Q .normal) (ops.drop (n + 1)) (put g1 d (.v (.bool true))) H2) (ops.take n) g H) : YV P k l rec g0 c Q g H := by
  obtain ⟨id, ar, rfl, hl⟩ := low_reg hc
  have hn : n < ops.length := (List.getElem?_eq_some_iff.1 h0).1
  have he : ops = ops.take n ++ ⟨d, .call ⟨.value f, args, ats⟩, none⟩ :: ops.drop (n + 1) := by
    have h1 := List.take_append_drop n ops
    rw [List.drop_eq_getElem_cons hn, (List.getElem?_eq_some_iff.1 h0).2] at h1
    exact h1.symm
  rw [he] at hl
  obtain ⟨o1, o, o2, ho, q1, q2, q3⟩ := lowOps_split _ hl
  unfold lowOp at q2
  split at q2
  · rename_i hg
    injection q2 with q2
    injection q2 with e1 e2 e3
    refine YV_region_y o1 o2 o f args ats ho e2 hg ?_
    have := h ar o1 q1
    refine AOps_mono (fun g1 H1 hk => ?_) this
    obtain ⟨p1, p2, p3, H2, p4, p5⟩ := hk
    exact ⟨p1, p2, p3, H2, p4, by rw [e1]; exact p5 _ _ q3⟩
  · split at q2
    · injection q2 with q2
      injection q2 with _ _ e3
      cases e3
    · cases q2
end
section
variable {P : Program} {H : List AO} {g : List AV}
theorem OpSem.appendZ {t u e : TypeId} {a b : Nat} {z : List Value} {du te : TI} {s x : Operand} (hi : ti P t = some ⟨.slice e, a, b, z⟩) (hu : ti P u = some du) (hz : isIntD du.desc = true) (he : ti P e = some te) (hs0 : ev g s = .v (.slice none 0 0)) {k : IntKind} {n : Int} (hx0 : ev g x = .v (.int k n)) (h0 : 0 < n)
    (hb : n * te.bytes ≤ 140737488355328) (hn : n ≤ 9223372036854775807) (hs : te.size ≠ 0) :
    OpSem P g H (.call ⟨.builtin .append, #[s, x], #[t, u]⟩) (.sl H.length 0 n.toNat) (H ++ [.cells te.size ((List.replicate n.toNat (te.zero.map AV.v)).flatten)]) := fun I m w ac o hop hr hx => by
  have hpa := hx s (by simp [Op.operands, Call.operands])
  have hpb := hx x (by simp [Op.operands, Call.operands])
  rw [hs0] at hpa
  rw [hx0] at hpb
  simp only [VR] at hpa hpb
  have hsok := SOK.appendZ hr (ty := o.type) hi rfl hu hz he (k := k) (n := n) h0 hb hn hs
  rw [← hpa, ← hpb] at hsok
  exact OpS.of_sok hsok (by simp [execOp, hop, resolve, invoke, builtin])
theorem OpSem.capNil {t e : TypeId} {a b : Nat} {z : List Value} {s : Operand} (hi : ti P t = some ⟨.slice e, a, b, z⟩) (hs0 : ev g s = .v (.slice none 0 0)) : OpSem P g H (.call ⟨.builtin .cap, #[s], #[t]⟩) (.v (.int .i64 0)) H := fun I m w ac o hop hr hx => by
  have hpa := hx s (by simp [Op.operands, Call.operands])
  rw [hs0] at hpa
  simp only [VR] at hpa
  refine OpS.of_value hr (y := .int .i64 0) (by simp only [VR]) ?_
  simp [execOp, hop, resolve, invoke, builtin, Builtin.cap_, hpa, run_underlying' hi, goInt]
theorem OpSem.slice3 {t e : TypeId} {a b : Nat} {z : List Value} {te : TI} {x lo hi mx : Operand} (hd : ti P t = some ⟨.slice e, a, b, z⟩) (he : ti P e = some te) (h1 : te.size = 1) {n : Nat} {cs : List AV} (hx0 : ev g x = .im n cs) {k0 k1 k2 : IntKind} {l u : Nat}
    (hlo : ev g lo = .v (.int k0 l)) (hhi : ev g hi = .v (.int k1 u)) (hmx : ev g mx = .v (.int k2 u)) (hlu : l < u) (hun : u ≤ n) : OpSem P g H (.slice t x (some lo) (some hi) (some mx)) (.im (u - l) ((cs.drop l).take (u - l))) H := fun I m w ac o hop hr hx => by
  have hvx := hx x (by simp [Op.operands])
  have hvl := hx lo (by simp [Op.operands])
  have hvh := hx hi (by simp [Op.operands])
  have hvm := hx mx (by simp [Op.operands])
  rw [hx0] at hvx
  rw [hlo] at hvl
  rw [hhi] at hvh
  rw [hmx] at hvm
  simp only [VR] at hvx hvl hvh hvm
  obtain ⟨A, c, hy, hnc, hcr⟩ := hvx
  have b0 : ∀ (k : IntKind) (i : Nat) (y : Nat) (cd : BoundsCode), i ≤ y → (Instr.sliceBound (.int k (i : Int)) y cd).run P w = .ok i w := fun k i y cd hi => by
    have := run_sliceBound (P := P) (w := w) (k := k) (i := (i : Int)) (y := y) (c := cd) ⟨Int.natCast_nonneg _, by omega⟩
    simpa using this
  have hul : u ≠ l := by omega
  have run : (Instr.sliceAt t (.slice A n c) (some (.int k0 (l : Int))) (some (.int k1 (u : Int))) (some (.int k2 (u : Int)))).run P w = .ok (.slice (A.map (·.add l)) (u - l) (u - l)) w := by
    simp [Instr.sliceAt, run_underlying' hd, Instr.slice, run_sizeOf' he, Instr.sliceBounds, b0 k2 u c _ (by omega), b0 k1 u u _ (Nat.le_refl _), b0 k0 l u _ (by omega), h1, hul]
  refine OpS.of_value hr (y := .slice (A.map (·.add l)) (u - l) (u - l)) ?_ (by
    simp only [execOp, hop, hy, Option.map_some, hvl, hvh, hvm, Sem.run_bind, run, Result.andThen_ok]
    rfl)
  simp only [VR]
  refine ⟨_, u - l, rfl, Nat.le_refl _, ?_⟩
  rcases hcr with rfl | ⟨b', o', rfl, q1, q2⟩
  · left; simp
  · right
    refine ⟨b', o' + l, by simp only [Option.map_some, add_none], q1, CR.of_get fun i cc hci => ?_⟩
    have hlt : i < u - l := by
      have := (List.getElem?_eq_some_iff.1 hci).1
      rw [List.length_take] at this
      omega
    rw [List.getElem?_take_of_lt hlt, List.getElem?_drop] at hci
    obtain ⟨y, r1, r2⟩ := q2.get _ _ hci
    exact ⟨y, by rw [Nat.add_assoc]; exact r1, r2⟩
end
end Go.Abs
