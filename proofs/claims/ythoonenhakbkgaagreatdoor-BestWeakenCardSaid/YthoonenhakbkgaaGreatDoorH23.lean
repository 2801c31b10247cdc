/- Part 23 of the texts that lead to bestWeakenCard_holds. No condition. -/
import Derived.Test.YthoonenhakbkgaaGreatDoorH22
set_option linter.unusedSimpArgs false
set_option linter.unusedVariables false
set_option linter.unnecessarySimpa false
namespace Go.Abs
open Go
theorem VS_list {k : Nat} {g g' : List AV} {H H' : List AO} (h : VS k [.tu g] H [.tu g'] H') : VS k g H g' H' := by
  intro I m w xs hr hx
  obtain ⟨I2, m2, k1, k2, k3⟩ := h I m w [.tuple xs.toArray] hr (by simp only [VRs, VR]; exact ⟨_, _, rfl, ⟨_, rfl, hx⟩, rfl⟩)
  refine ⟨I2, m2, k1, ?_, k3⟩
  simp only [VRs, VR] at k2
  obtain ⟨y, ys, e, ⟨zs, e2, k2⟩, _⟩ := k2
  injection e with e e3
  rw [← e] at e2
  injection e2 with e2
  rw [← e2] at k2
  exact k2
abbrev GH := List AV × HP
noncomputable def gcPut (g : List AV) (h : HP) (ids : List Nat) : GH := (rens (posN ids) g, ⟨ids.length, (ids.map (objN h (posN ids))).reverse⟩)
def gcIf (a b : GH) : Bool → GH
  | true => a
  | false => b
def gcAnd : Bool → Bool → Bool
  | true, b => b
  | false, _ => false
noncomputable def gcTry (k : Nat) (g : List AV) (h : HP) (ids : List Nat) : GH := gcIf (gcPut g h ids) (g, h) (gcAnd (closedN h ids [.tu g]) (firstN k ids))
noncomputable def gcL (k : Nat) (g : List AV) (h : HP) : GH := gcTry k g h (newIds k h (.tu g))
theorem gcTry_ok {k : Nat} {g : List AV} {h : HP} (hk : h.ok) (hn : k ≤ h.n) (ids : List Nat) : (gcTry k g h ids).2.ok ∧ k ≤ (gcTry k g h ids).2.n ∧ VS k g h.L (gcTry k g h ids).1 (gcTry k g h ids).2.L := by
  unfold gcTry
  cases hq : gcAnd (closedN h ids [.tu g]) (firstN k ids)
  · exact ⟨hk, hn, VS.refl _ _ _⟩
  · have ha : closedN h ids [.tu g] = true := by
      cases hc : closedN h ids [.tu g]
      · rw [hc] at hq; cases hq
      · rfl
    have hb : firstN k ids = true := by rw [ha] at hq; exact hq
    obtain ⟨c1, c2, c3, c4⟩ := closedN_spec ha
    simp only [okVs, Bool.and_true] at c3
    have key := VS_keep (k := k) (v := .tu g) (H := h.L) ids (posN ids) (fun j => memN j ids) (fun j hj => posN_get hj) (firstN_spec hb) c1 (fun j hj => by rw [HP.len hk]; exact c2 j hj) c3 (fun j o hj ho => by
      have := c4 j hj
      unfold okAt at this
      rw [rGet_eq hk, ho] at this
      exact this)
    simp only [AV.ren] at key
    have eL : (⟨ids.length, (ids.map (objN h (posN ids))).reverse⟩ : HP).L = ids.map fun j => (h.L.getD j .dead).ren (posN ids) := by
      show ((ids.map (objN h (posN ids))).reverse).reverse = _
      rw [List.reverse_reverse]
      refine List.map_congr_left fun j _ => ?_
      unfold objN
      rw [rGet_eq hk, List.getD_eq_getElem?_getD]
      cases h.L[j]? <;> rfl
    refine ⟨?_, ?_, ?_⟩
    · show ((ids.map (objN h (posN ids))).reverse).length = ids.length
      simp
    · show k ≤ ids.length
      by_cases hz : k = 0
      · omega
      · have := firstN_spec hb (k - 1) (by omega)
        have := (List.getElem?_eq_some_iff.1 this).1
        omega
    · show VS k g h.L (rens (posN ids) g) (⟨ids.length, (ids.map (objN h (posN ids))).reverse⟩ : HP).L
      rw [eL]
      exact VS_list key
noncomputable def lGo (k : Nat) (f : Nat → List AV → HP → KR) : GH → KR
  | (g, h) => f (Nat.add h.n (Nat.add 32 (Nat.sub h.n k))) g h
noncomputable def lHead (k m : Nat) (f : Nat → List AV → HP → KR) (g : List AV) (h : HP) : Bool → KR
  | true => lGo k f (gcL k g h)
  | false => f m g h
noncomputable def lThen (k m : Nat) (f : Nat → List AV → HP → KR) : KR → KR
  | some (.normal, g, h) => lHead k m f g h (Nat.ble m h.n)
  | r => r
noncomputable def hintN (P : Program) (g : List AV) : Op → Option Nat
  | .slice t x lo hi (some mx) => match evF g x with
    | .sl id _ _ => some id
    | _ => none
  | _ => none
noncomputable def hintStep (ih : List AV → HP → Option Nat) (put : AV → List AV) (stuck : Option Nat) : OR2 → Option Nat
  | some (v, h') => ih (put v) h'
  | none => stuck
noncomputable def hint (P : Program) (call : CT) (ops l : List Oper) : List AV → HP → Option Nat :=
  List.rec (motive := fun _ => List AV → HP → Option Nat) (fun _ _ => none)
    (fun o _ ih g h => hintStep ih (fun v => putF g v o.dst) (hintN P g o.op) (cStep P call g h o.op (gWant ops g o.guard))) l
noncomputable def lIce2 (P : Program) (call : CT) (ops : List Oper) (g : List AV) (h : HP) (id : Nat) : Option AO → KR
  | some (.cells sz cs) => cReg (cOps P call ops ops g (rSet h id (.ice sz cs)))
  | _ => none
noncomputable def lIce (P : Program) (call : CT) (ops : List Oper) (g : List AV) (h : HP) : Option Nat → KR
  | some id => lIce2 P call ops g h id (rGet h id)
  | none => none
noncomputable def lReg (P : Program) (call : CT) (ops : List Oper) (g : List AV) (h : HP) : Option (List AV × HP) → KR
  | some r => cReg (some r)
  | none => lIce P call ops g h (hint P call ops ops g h)
noncomputable def lIceD2 (dr : DT) (ops : Array Oper) (g : List AV) (h : HP) (id : Nat) : Option AO → KR
  | some (.cells sz cs) => cReg (dr ops g (rSet h id (.ice sz cs)))
  | _ => none
noncomputable def lIceD (dr : DT) (ops : Array Oper) (g : List AV) (h : HP) : Option Nat → KR
  | some id => lIceD2 dr ops g h id (rGet h id)
  | none => none
noncomputable def lRegD (P : Program) (call : CT) (dr : DT) (ops : Array Oper) (g : List AV) (h : HP) : Option (List AV × HP) → KR
  | some r => cReg (some r)
  | none => lIceD dr ops g h (hint P call ops.toList ops.toList g h)
noncomputable def lCode (P : Program) (call : CT) (dr : DT) (k : Nat) (ih : Nat → Code → List AV → HP → KR) (m : Nat) (g : List AV) (h : HP) : Code → KR
  | .skip => some (.normal, g, h)
  | .ret => some (.ret, g, h)
  | .exit i => some (.exit i, g, h)
  | .seq a b => cThen (ih m b) (ih m a g h)
  | .cond x a b => cCond (ih m a g h) (ih m b g h) (evF g x)
  | .block i b => cBlk i (ih m b g h)
  | .loop b => lThen k m (fun m g h => ih m (.loop b) g h) (ih m b g h)
  | .region _ ops false => lReg P call ops.toList g h (cOps P call ops.toList ops.toList g h)
  | .region _ ops true => lRegD P call dr ops g h (dr ops g h)
  | _ => none
noncomputable def cL (P : Program) (call : CT) (dr : DT) (k : Nat) (n : Nat) : Nat → Code → List AV → HP → KR :=
  Nat.rec (motive := fun _ => Nat → Code → List AV → HP → KR) (fun _ _ _ _ => none) (fun _ ih m c g h => lCode P call dr k ih m g h c) n
section
variable {P : Program} {call : CT} {dr : DT}
theorem lHead_ok {k m : Nat} {f : Nat → List AV → HP → KR} {g : List AV} {h : HP} {b : Bool} (hk : h.ok) (hn : k ≤ h.n) {r : Exit × List AV × HP} (e : lHead k m f g h b = some r) : ∃ m2 g2 h2, h2.ok ∧ k ≤ h2.n ∧ VS k g h.L g2 h2.L ∧ f m2 g2 h2 = some r := by
  cases b
  · exact ⟨m, g, h, hk, hn, VS.refl _ _ _, e⟩
  · obtain ⟨q1, q2, q3⟩ := gcTry_ok (g := g) hk hn (newIds k h (.tu g))
    exact ⟨_, _, _, q1, q2, q3, e⟩
theorem cL_ok [DSt] (hc : CTok P call) (hd : DTok P dr) (k : Nat) : ∀ (n m : Nat) (c : Code) {g : List AV} {h : HP} {e : Exit} {g' : List AV} {h' : HP}, h.ok → k ≤ h.n → cL P call dr k n m c g h = some (e, g', h') → (h'.ok ∧ k ≤ h'.n) ∧ BW P k c (PostC e g' h'.L) g h.L
  | 0, m, c, g, h, e, g', h', hk, hn, he => by cases he
  | n + 1, m, c, g, h, e, g', h', hk, hn, he => by
    have he : lCode P call dr k (cL P call dr k n) m g h c = some (e, g', h') := he
    have ih := @cL_ok _ hc hd k n m
    cases c with
    | skip => cases he; exact ⟨⟨hk, hn⟩, BW.of_AW (AW_skip ⟨rfl, rfl, rfl⟩)⟩
    | ret => cases he; exact ⟨⟨hk, hn⟩, BW.of_AW (AW_ret ⟨rfl, rfl, rfl⟩)⟩
    | exit i => cases he; exact ⟨⟨hk, hn⟩, BW.of_AW (AW_exit ⟨rfl, rfl, rfl⟩)⟩
    | seq a b =>
      simp only [lCode] at he
      cases ha : cL P call dr k n m a g h with
      | none => rw [ha] at he; cases he
      | some r =>
        obtain ⟨e1, g1, h1⟩ := r
        rw [ha] at he
        obtain ⟨⟨k1, l1⟩, b1⟩ := ih a hk hn ha
        by_cases hx : e1 = .normal
        · subst hx
          obtain ⟨⟨k2, l2⟩, b2⟩ := ih b k1 l1 he
          refine ⟨⟨k2, l2⟩, BW_seq (b1.mono ?_)⟩
          rintro _ _ _ ⟨rfl, rfl, rfl⟩
          exact b2
        · have hq : (some (e1, g1, h1) : KR) = some (e, g', h') := by cases e1 <;> first | exact he | exact absurd rfl hx
          cases hq
          refine ⟨⟨k1, l1⟩, BW_seq (b1.mono ?_)⟩
          rintro ex _ _ ⟨rfl, rfl, rfl⟩
          cases ex <;> first | exact ⟨rfl, rfl, rfl⟩ | exact absurd rfl hx
    | cond x a b =>
      simp only [lCode, evF_eq] at he
      generalize hv : ev g x = v at he
      cases v <;> first | (cases he; done) | skip
      rename_i y
      cases y <;> first | (cases he; done) | skip
      rename_i t
      cases t
      · obtain ⟨k1, b1⟩ := ih b hk hn he
        exact ⟨k1, BW_cond hv b1⟩
      · obtain ⟨k1, b1⟩ := ih a hk hn he
        exact ⟨k1, BW_cond hv b1⟩
    | block i b =>
      simp only [lCode] at he
      cases hb : cL P call dr k n m b g h with
      | none => rw [hb] at he; cases he
      | some r =>
        obtain ⟨e1, g1, h1⟩ := r
        rw [hb] at he
        obtain ⟨k1, b1⟩ := ih b hk hn hb
        refine ⟨?_, BW_block (b1.mono ?_)⟩
        · cases e1 <;> first | (cases he; exact k1) | skip
          simp only [cBlk] at he
          split at he <;> (cases he; exact k1)
        · rintro ex _ _ ⟨rfl, rfl, rfl⟩
          cases ex <;> first | (cases he; exact ⟨rfl, rfl, rfl⟩) | skip
          rename_i j
          simp only [cBlk] at he
          simp only [blockA]
          cases hj : Nat.beq j i
          · rw [hj] at he
            rw [if_neg (by intro q; subst q; simp at hj)]
            cases he; exact ⟨rfl, rfl, rfl⟩
          · rw [hj] at he
            rw [if_pos (Nat.eq_of_beq_eq_true hj)]
            cases he; exact ⟨rfl, rfl, rfl⟩
    | loop b =>
      have key : ∀ (j : Nat), j ≤ n + 1 → ∀ {m : Nat} {g : List AV} {h : HP}, h.ok → k ≤ h.n → cL P call dr k j m (.loop b) g h = some (e, g', h') → h'.ok ∧ k ≤ h'.n := by
        intro j
        induction j with
        | zero => intro _ _ _ _ _ _ q; cases q
        | succ j ihj =>
          intro hj m g h hk hn q
          have q : lThen k m (fun m g h => cL P call dr k j m (.loop b) g h) (cL P call dr k j m b g h) = some (e, g', h') := q
          cases hb : cL P call dr k j m b g h with
          | none => rw [hb] at q; cases q
          | some r =>
            obtain ⟨e1, g1, h1⟩ := r
            rw [hb] at q
            obtain ⟨⟨k1, l1⟩, _⟩ := @cL_ok _ hc hd k j m b g h e1 g1 h1 hk hn hb
            by_cases hx : e1 = .normal
            · subst hx
              obtain ⟨m2, g2, h2, t1, t2, _, t4⟩ := lHead_ok k1 l1 q
              exact ihj (by omega) t1 t2 t4
            · have hq : (some (e1, g1, h1) : KR) = some (e, g', h') := by cases e1 <;> first | exact q | exact absurd rfl hx
              cases hq
              exact ⟨k1, l1⟩
      have he0 : cL P call dr k (n + 1) m (.loop b) g h = some (e, g', h') := he
      refine ⟨key (n + 1) (Nat.le_refl _) hk hn he0, ?_⟩
      refine BW_loop (fun j g1 H1 => ∃ (h1 : HP) (m1 : Nat), h1.ok ∧ k ≤ h1.n ∧ H1 = h1.L ∧ j ≤ n + 1 ∧ cL P call dr k j m1 (.loop b) g1 h1 = some (e, g', h')) (n + 1) ⟨h, m, hk, hn, rfl, Nat.le_refl _, he0⟩ ?_
      rintro j g1 _ ⟨h1, m1, k1, n1, rfl, hj, q⟩
      cases j with
      | zero => cases q
      | succ j =>
        have q : lThen k m1 (fun m g h => cL P call dr k j m (.loop b) g h) (cL P call dr k j m1 b g1 h1) = some (e, g', h') := q
        cases hb : cL P call dr k j m1 b g1 h1 with
        | none => rw [hb] at q; cases q
        | some r =>
          obtain ⟨e1, g2, h2⟩ := r
          rw [hb] at q
          obtain ⟨⟨k2, l2⟩, b2⟩ := @cL_ok _ hc hd k j m1 b g1 h1 e1 g2 h2 k1 n1 hb
          by_cases hx : e1 = .normal
          · subst hx
            obtain ⟨m3, g3, h3, t1, t2, t3, t4⟩ := lHead_ok k2 l2 q
            refine b2.mono ?_
            rintro _ _ _ ⟨rfl, rfl, rfl⟩
            exact ⟨j, _, _, Nat.lt_succ_self _, ⟨h3, m3, t1, t2, rfl, by omega, t4⟩, t3⟩
          · have hq : (some (e1, g2, h2) : KR) = some (e, g', h') := by cases e1 <;> first | exact q | exact absurd rfl hx
            cases hq
            refine b2.mono ?_
            rintro ex _ _ ⟨rfl, rfl, rfl⟩
            cases ex <;> first | exact ⟨rfl, rfl, rfl⟩ | exact absurd rfl hx
    | region id ops dw =>
      cases dw
      · simp only [lCode] at he
        cases hr : cOps P call ops.toList ops.toList g h with
        | none =>
          rw [hr] at he
          simp only [lReg] at he
          generalize hint P call ops.toList ops.toList g h = oid at he
          unfold lIce at he
          split at he
          case h_2 => cases he
          rename_i hid
          unfold lIce2 at he
          split at he
          case h_2 => cases he
          rename_i sz cs hg
          have hlt := rGet_lt hg
          rw [rGet_eq hk] at hg
          have hk2 := rSet_ok hk hid (.ice sz cs)
          cases hr2 : cOps P call ops.toList ops.toList g (rSet h hid (.ice sz cs)) with
          | none => rw [hr2] at he; cases he
          | some r =>
            obtain ⟨g1, h1⟩ := r
            rw [hr2] at he
            cases he
            obtain ⟨k1, a1⟩ := cOps_ok hc _ hk2 hr2
            refine ⟨⟨k1.1, Nat.le_trans hn k1.2⟩, BW.vs (VS_ice hid hg) ?_⟩
            rw [← rSet_eq hk hlt]
            exact .of_AW (AW_region (AOps.imp (fun g H q => ⟨rfl, q.1, q.2⟩) _ a1))
        | some r =>
          obtain ⟨g1, h1⟩ := r
          rw [hr] at he
          cases he
          obtain ⟨k1, a1⟩ := cOps_ok hc _ hk hr
          exact ⟨⟨k1.1, Nat.le_trans hn k1.2⟩, .of_AW (AW_region (AOps.imp (fun g H q => ⟨rfl, q.1, q.2⟩) _ a1))⟩
      · simp only [lCode] at he
        cases hr : dr ops g h with
        | none =>
          rw [hr] at he
          simp only [lRegD] at he
          generalize hint P call ops.toList ops.toList g h = oid at he
          unfold lIceD at he
          split at he
          case h_2 => cases he
          rename_i hid
          unfold lIceD2 at he
          split at he
          case h_2 => cases he
          rename_i sz cs hg
          have hlt := rGet_lt hg
          rw [rGet_eq hk] at hg
          have hk2 := rSet_ok hk hid (.ice sz cs)
          cases hr2 : dr ops g (rSet h hid (.ice sz cs)) with
          | none => rw [hr2] at he; cases he
          | some r =>
            obtain ⟨g1, h1⟩ := r
            rw [hr2] at he
            cases he
            obtain ⟨k1, a1⟩ := hd _ _ _ _ _ hk2 hr2
            refine ⟨⟨k1.1, Nat.le_trans hn k1.2⟩, BW.vs (VS_ice hid hg) ?_⟩
            rw [← rSet_eq hk hlt]
            exact a1 _ k id hn
        | some r =>
          obtain ⟨g1, h1⟩ := r
          rw [hr] at he
          cases he
          obtain ⟨k1, a1⟩ := hd _ _ _ _ _ hk hr
          exact ⟨⟨k1.1, Nat.le_trans hn k1.2⟩, a1 _ k id hn⟩
    | _ => cases he
termination_by n => n
end
end Go.Abs
namespace Go.Abs
open Go
theorem leaves_marks {F : Fence} {n : Nat} {P : Program} {fn : Func} {tmps : Array Value} {R : Ending → World → Prop} : ∀ (bs : List Nat) (w : World), bs.Nodup → (∀ b ∈ bs, w.heap[b]? = some (.deferred (some []))) →
    (∀ wE : World, wE.heap.size = w.heap.size → wE.os = w.os → wE.tape = w.tape → wE.output = w.output → (∀ b, b ∉ bs → wE.heap[b]? = w.heap[b]?) → ∃ v, (results fn tmps).run P wE = .ok v wE ∧ R (.returned v) wE) → LeavesInM F n P fn tmps R (bs.map mkMark) .returning w
  | [], w, _, _, h => h w rfl rfl rfl rfl fun _ _ => rfl
  | b :: bs, w, hn, hb, h => by
    have hn' := List.nodup_cons.1 hn
    refine ⟨by simp, .inl ⟨b, w.putObj b (.deferred none), rfl, run_takeDeferred (hb b (List.mem_cons_self ..)), leaves_marks bs _ hn'.2 (fun c hc => ?_) fun wE k1 k2 k3 k4 k5 => ?_⟩⟩
    · rw [put_other fun e => hn'.1 (by rw [← e]; exact hc)]
      exact hb c (List.mem_cons_of_mem _ hc)
    · refine h wE (by rw [k1]; simp) k2 k3 k4 fun c hc => ?_
      rw [k5 c fun q => hc (List.mem_cons_of_mem _ q), put_other fun e => hc (by rw [e]; exact List.mem_cons_self ..)]
theorem AFn_of_BT {P : Program} {k : Nat} {n : FuncId} {fn : Func} {c : Code} {args : List AV} {Hi : List AO} {R : AV → List AO → Prop} (hf : P.funcs[n]? = some fn) (hb : fn.body = some c) (hn : (fn.name == "runtime.NumGoroutine") = false)
    (h : BT P k c (endM P k fn.results.toList R) (args ++ List.replicate (fn.ntmps - args.length) (.v undef)) Hi) : AFn P n k args Hi R := by
  intro I m w xs hr hv
  have hl := hv.len
  rw [Array.length_toList] at hl
  have e0 : (callFunc n xs).run P w = .ok (.enter n xs) w := by
    simp [callFunc, hf, hn, hb]
    intro hh
    simp [hh] at hn
  unfold CallsFn
  rw [e0]
  refine fR_callsOut (r := none) (n := 0) (callsIn_of_wp_marks hf hb trivial (wpIn_mono (h I m { tmps := xs ++ Array.replicate (fn.ntmps - xs.size) undef, defers := [] } w 0 w.heap.size hr ?_ (Nat.le_refl _) ⟨[], rfl, List.nodup_nil, fun b hb => by cases hb⟩) ?_))
  · simp only [Array.toList_append, Array.toList_replicate, hl]
    refine hv.append ?_
    generalize fn.ntmps - args.length = k
    induction k with
    | zero => simp [VRs]
    | succ k ih => simp only [List.replicate_succ, VRs]; exact ⟨_, _, rfl, by simp only [VR], ih⟩
  · rintro e a' w' ⟨g', H', I', m', h1, h2, h3, ⟨bs, b1, b2, b3⟩, h5, h6⟩
    have key : (match resAll P g' H' fn.results.toList with
        | some vs => Fin k (result vs) H' R
        | none => False) → LeavesInM (fR none) 0 P fn a'.tmps (fun e w' => ∃ v', e = .returned v' ∧ ∃ r Ho I' m', R r Ho ∧ VR I' m' w' r v' ∧ HR I' m' Ho w' ∧ Ex I (Own Hi m) w I' (Own Ho m') w' ∧ Kp k m m') a'.defers .returning w' := by
      intro h1
      rw [b1]
      refine leaves_marks bs w' b2 (fun b hb => (b3 b hb).2.1) fun wE k1 k2 k3 k4 k5 => ?_
      have same : ∀ b, b < w'.heap.size → (Own H' m' b ∨ I' b) → wE.heap[b]? = w'.heap[b]? := fun b _ q => k5 b fun hb => q.elim (b3 b hb).2.2.1 (b3 b hb).2.2.2
      have hE := h2.aside (w' := wE) (by omega) same
      have vE := VRs.aside h2 same h3
      have xE : Ex I (Own Hi m) w I' (Own H' m') wE := ⟨k2.trans h5.os, k3.trans h5.tape, k4.trans h5.output, by have := h5.size; omega, fun b hb hnb => by
        rw [k5 b fun hm => by have := (b3 b hm).1; omega]
        exact h5.blk b hb hnb, h5.imm, h5.ow, h5.inew⟩
      split at h1
      · rename_i vs k1
        obtain ⟨r, Ho, k2, hvs⟩ := h1
        obtain ⟨ys, k3, k4⟩ := resAll_ok hE vE k1
        have k5 : (results fn a'.tmps).run P wE = .ok (if h : ys.toArray.size = 1 then ys.toArray[0] else .tuple ys.toArray) wE := by
          unfold results
          simp only [Array.mapM_eq_mapM_toList, Sem.run_bind, Sem.run_map]
          erw [k3]
          simp
        have k6 : VR I' m' wE (result vs) (if h : ys.toArray.size = 1 then ys.toArray[0] else .tuple ys.toArray) := by
          have kl := k4.len
          match vs, ys, k4, kl with
          | [v], [y], k4, _ =>
            simp only [VRs] at k4
            obtain ⟨y', zs, e, k6, _⟩ := k4
            obtain ⟨rfl, rfl⟩ := List.cons.inj e
            simpa [result] using k6
          | [], [], k4, _ => simp [result, VR, VRs]
          | v :: v2 :: vs, y :: y2 :: ys, k4, _ =>
            simp only [result]
            rw [dif_neg (by simp)]
            simp only [VR]
            exact ⟨_, rfl, k4⟩
        obtain ⟨I2, m2, q1, q2, q3, q4, q5, q6⟩ := hvs I' m' wE [_] hE (by simp only [VRs]; exact ⟨_, _, rfl, k6, rfl⟩)
        simp only [VRs] at q2
        obtain ⟨y', zs, e, q2, _⟩ := q2
        obtain ⟨rfl, rfl⟩ := List.cons.inj e
        exact ⟨_, k5, _, rfl, r, Ho, I2, m2, k2, q2, q1, xE.trans (VS.ex q3 q4 q5), h6.trans q6⟩
      · exact h1.elim
    cases e with
    | normal => exact key h1
    | ret => exact key h1
    | _ => exact h1.elim
abbrev BWT := FuncId → Option (TypeId × TypeId)
def BWok (P : Program) (bwt : BWT) : Prop := ∀ nf tS tE, bwt nf = some (tS, tE) → BwFn P nf tS tE
def tEnd (g : List AV) : Option HP → KR
  | some h => some (.normal, g, h)
  | none => none
noncomputable def tR3 (P : Program) (call : CT) (dr : DT) (fuel : Nat) (ps : Array Tmp) (a b : Code) (g : List AV) (h : HP) (box : AV) : Option (TypeId × TypeId) → KR
  | some (tS, tE) => match Nat.beq ps.size 2 with
    | true => tEnd g (bwRun P tS tE box (rdRun P call dr fuel g ps a b) h)
    | false => none
  | none => none
noncomputable def tR2 (P : Program) (bwt : BWT) (call : CT) (dr : DT) (fuel : Nat) (ps : Array Tmp) (a b : Code) (g : List AV) (h : HP) : AV → KR
  | .fn (.func nf) [] [box] => tR3 P call dr fuel ps a b g h box (bwt nf)
  | _ => none
noncomputable def tCode (P : Program) (bwt : BWT) (call : CT) (dr : DT) (fuel k : Nat) (ih : Code → List AV → HP → KR) (g : List AV) (h : HP) : Code → KR
  | .seq a b => cThen (ih b) (ih a g h)
  | .block i b => cBlk i (ih b g h)
  | .rangeFunc f ps a b => tR2 P bwt call dr fuel ps a b g h (evF g f)
  | c => cL P call dr k fuel (Nat.add h.n 48) c g h
noncomputable def cT (P : Program) (bwt : BWT) (call : CT) (dr : DT) (fuel k n : Nat) : Code → List AV → HP → KR :=
  Nat.rec (motive := fun _ => Code → List AV → HP → KR) (fun _ _ _ => none) (fun _ ih c g h => tCode P bwt call dr fuel k ih g h c) n
section
variable {P : Program} {bwt : BWT} {call : CT} {dr : DT}
theorem cT_ok (hB : BWok P bwt) (hc : CTok P call) (hd : DTok P dr) (fuel k : Nat) : ∀ (n : Nat) (c : Code) {g : List AV} {h : HP} {e : Exit} {g' : List AV} {h' : HP}, h.ok → k ≤ h.n → cT P bwt call dr fuel k n c g h = some (e, g', h') → (h'.ok ∧ k ≤ h'.n) ∧ BT P k c (PostC e g' h'.L) g h.L
  | 0, c, g, h, e, g', h', hk, hn, he => by cases he
  | n + 1, c, g, h, e, g', h', hk, hn, he => by
    have he : tCode P bwt call dr fuel k (cT P bwt call dr fuel k n) g h c = some (e, g', h') := he
    have ih := cT_ok hB hc hd fuel k n
    have base : cL P call dr k fuel (Nat.add h.n 48) c g h = some (e, g', h') → (h'.ok ∧ k ≤ h'.n) ∧ BT P k c (PostC e g' h'.L) g h.L := fun q =>
      ⟨(@cL_ok _ _ _ noDefers hc hd k fuel _ c _ _ _ _ _ hk hn q).1, BT.of_BW fun D => (@cL_ok _ _ _ D hc hd k fuel _ c _ _ _ _ _ hk hn q).2⟩
    cases c with
    | seq a b =>
      simp only [tCode] at he
      cases ha : cT P bwt call dr fuel k n a g h with
      | none => rw [ha] at he; cases he
      | some r =>
        obtain ⟨e1, g1, h1⟩ := r
        rw [ha] at he
        obtain ⟨⟨k1, l1⟩, b1⟩ := ih a hk hn ha
        by_cases hx : e1 = .normal
        · subst hx
          obtain ⟨⟨k2, l2⟩, b2⟩ := ih b k1 l1 he
          refine ⟨⟨k2, l2⟩, BT_seq (b1.mono ?_)⟩
          rintro _ _ _ ⟨rfl, rfl, rfl⟩
          exact b2
        · have hq : (some (e1, g1, h1) : KR) = some (e, g', h') := by cases e1 <;> first | exact he | exact absurd rfl hx
          cases hq
          refine ⟨⟨k1, l1⟩, BT_seq (b1.mono ?_)⟩
          rintro ex _ _ ⟨rfl, rfl, rfl⟩
          cases ex <;> first | exact ⟨rfl, rfl, rfl⟩ | exact absurd rfl hx
    | block i b =>
      simp only [tCode] at he
      cases hb : cT P bwt call dr fuel k n b g h with
      | none => rw [hb] at he; cases he
      | some r =>
        obtain ⟨e1, g1, h1⟩ := r
        rw [hb] at he
        obtain ⟨k1, b1⟩ := ih b hk hn hb
        refine ⟨?_, BT_block (b1.mono ?_)⟩
        · cases e1 <;> first | (cases he; exact k1) | skip
          simp only [cBlk] at he
          split at he <;> (cases he; exact k1)
        · rintro ex _ _ ⟨rfl, rfl, rfl⟩
          cases ex <;> first | (cases he; exact ⟨rfl, rfl, rfl⟩) | skip
          rename_i j
          simp only [cBlk] at he
          simp only [blockA]
          cases hj : Nat.beq j i
          · rw [hj] at he
            rw [if_neg (by intro q; subst q; simp at hj)]
            cases he; exact ⟨rfl, rfl, rfl⟩
          · rw [hj] at he
            rw [if_pos (Nat.eq_of_beq_eq_true hj)]
            cases he; exact ⟨rfl, rfl, rfl⟩
    | rangeFunc f ps a b =>
      simp only [tCode, evF_eq] at he
      generalize hv : ev g f = v at he
      unfold tR2 at he
      split at he
      · rename_i nf box
        cases hb : bwt nf with
        | none => rw [hb] at he; cases he
        | some t =>
          obtain ⟨tS, tE⟩ := t
          rw [hb] at he
          simp only [tR3] at he
          cases hp : Nat.beq ps.size 2
          · rw [hp] at he; cases he
          · rw [hp] at he
            dsimp only at he
            cases hr : bwRun P tS tE box (rdRun P call dr fuel g ps a b) h with
            | none => rw [hr] at he; cases he
            | some hE =>
              rw [hr] at he
              cases he
              obtain ⟨t1, t2⟩ := BT_range hc hd hk hn hv (hB _ _ _ hb) (Nat.eq_of_beq_eq_true hp) hr
              exact ⟨⟨t1.1, Nat.le_trans hn t1.2⟩, t2⟩
      · cases he
    | _ => exact base he
end
abbrev KM := FuncId → List AV → HP → OR2
def KMok (P : Program) (km : KM) : Prop := ∀ f args h v h', h.ok → km f args h = some (v, h') → (h'.ok ∧ h.n ≤ h'.n) ∧ ACall P f args h.L (fun v1 H1 => v1 = v ∧ H1 = h'.L)
noncomputable def eFn2 (P : Program) (bwt : BWT) (call : CT) (dr : DT) (fuel : Nat) (args : List AV) (h : HP) (fn : Func) : Option Code → OR2
  | some c => cEnd P h.n fn.results.toList (cT P bwt call dr fuel h.n fuel c (args ++ List.replicate (fn.ntmps - args.length) (.v undef)) h)
  | none => none
noncomputable def eFn (P : Program) (bwt : BWT) (call : CT) (dr : DT) (fuel : Nat) (args : List AV) (h : HP) : Option Func → OR2
  | some fn => eFn2 P bwt call dr fuel args h fn fn.body
  | none => none
noncomputable def eDisp (P : Program) (bwt : BWT) (call : CT) (dr : DT) (fuel : Nat) (f : FuncId) (args : List AV) (h : HP) : OR2 → OR2
  | some r => some r
  | none => eFn P bwt call dr fuel args h (P.funcs[f]?)
noncomputable def eF (P : Program) (bwt : BWT) (km : KM) (dr : CT → DT) (fuel : Nat) (n : Nat) : CT :=
  Nat.rec (motive := fun _ => CT) (fun _ _ _ => none) (fun _ ih f args h => eDisp P bwt ih (dr ih) fuel f args h (km f args h)) n
theorem eFn_ok {P : Program} {bwt : BWT} {call : CT} {dr : DT} (hN : namesOK P = true) (hB : BWok P bwt) (hc : CTok P call) (hd : DTok P dr) {fuel : Nat} {f : FuncId} {args : List AV} {h : HP} (hk : h.ok) {v : AV} {h' : HP}
    (e : eFn P bwt call dr fuel args h (P.funcs[f]?) = some (v, h')) : (h'.ok ∧ h.n ≤ h'.n) ∧ AFn P f h.n args h.L (fun v1 H1 => v1 = v ∧ H1 = h'.L) := by
  cases hfn : P.funcs[f]? with
  | none => rw [hfn] at e; cases e
  | some fn =>
    rw [hfn] at e
    simp only [eFn] at e
    cases hb : fn.body with
    | none => rw [hb] at e; cases e
    | some c =>
      rw [hb] at e
      simp only [eFn2] at e
      have hname : (fn.name == "runtime.NumGoroutine") = false := by
        unfold namesOK at hN
        have := List.all_eq_true.1 hN fn (by rw [Array.mem_toList_iff]; exact Array.mem_of_getElem? hfn)
        simpa using this
      cases hcc : cT P bwt call dr fuel h.n fuel c (args ++ List.replicate (fn.ntmps - args.length) (.v undef)) h with
      | none => rw [hcc] at e; cases e
      | some r =>
        obtain ⟨ex, g1, h1⟩ := r
        rw [hcc] at e
        obtain ⟨⟨k1, l1⟩, b1⟩ := cT_ok hB hc hd fuel h.n fuel c hk (Nat.le_refl _) hcc
        have fin : cRes h.n h1 (resFs P g1 h1 fn.results.toList) = some (v, h') → (h'.ok ∧ h.n ≤ h'.n) ∧ (match resAll P g1 h1.L fn.results.toList with
            | some vs => Fin h.n (result vs) h1.L (fun v1 H1 => v1 = v ∧ H1 = h'.L)
            | none => False) := fun q => by
          rw [resFs_eq P g1 k1] at q
          cases hr : resAll P g1 h1.L fn.results.toList with
          | none => rw [hr] at q; cases q
          | some vs => rw [hr] at q; exact cGc_ok k1 l1 q
        have hx : ex = .normal ∨ ex = .ret := by cases ex <;> first | exact .inl rfl | exact .inr rfl | (cases e; done)
        have e2 : cRes h.n h1 (resFs P g1 h1 fn.results.toList) = some (v, h') := by rcases hx with rfl | rfl <;> exact e
        obtain ⟨q1, q2⟩ := fin e2
        refine ⟨q1, AFn_of_BT hfn hb hname (b1.mono ?_)⟩
        rintro e1 _ _ ⟨rfl, rfl, rfl⟩
        rcases hx with rfl | rfl <;> exact q2
theorem eF_ok {P : Program} {bwt : BWT} {km : KM} {dr : CT → DT} (hN : namesOK P = true) (hB : BWok P bwt) (hK : KMok P km) (hD : ∀ call, CTok P call → DTok P (dr call)) (fuel : Nat) : ∀ n, CTok P (eF P bwt km dr fuel n)
  | 0 => fun _ _ _ _ _ _ e => by cases e
  | n + 1 => by
    have ih := eF_ok hN hB hK hD fuel n
    intro f args h v h' hk e
    have e : eDisp P bwt (eF P bwt km dr fuel n) (dr (eF P bwt km dr fuel n)) fuel f args h (km f args h) = some (v, h') := e
    cases hm : km f args h with
    | some r => rw [hm] at e; cases e; exact hK _ _ _ _ _ hk hm
    | none =>
      rw [hm] at e
      obtain ⟨q1, q2⟩ := eFn_ok hN hB ih (hD _ ih) hk e
      refine ⟨q1, ACall_of_AFn ?_⟩
      rw [HP.len hk]
      exact q2
end Go.Abs
namespace Go.Abs
open Go
section
variable {P : Program} {I : Nat → Prop} {m : List Loc} {H : List AO} {w : World}
theorem tcOR (hr : HR I m H w) {id : Nat} {T : TypeId} {cs : List AV} (hid : H[id]? = some (.tc T cs)) {off : Nat} {x : Value} (hx : VR I m w (.pt id off) x) :
    ∃ L c, m[id]? = some L ∧ L.sz = 1 ∧ L.cap ≠ 0 ∧ L.o = 0 ∧ cs.length ≤ L.cap ∧ x = .pointer (some ⟨L.b, off, none⟩) ∧ w.heap[L.b]? = some (.cells c T (0, 0)) ∧ c.size = L.cap ∧ (T = bty → c.size = 2) ∧ ∀ (i : Nat) x, cs[i]? = some x → ∃ y, c[i]? = some y ∧ VR I m w x y ∧ x.one = true := by
  simp only [VR] at hx
  obtain ⟨L, h1, rfl⟩ := hx
  have hm := (lk_get h1).1
  obtain ⟨⟨q1, q2, q3, q4⟩, c, ⟨q5, q6, qb⟩, q7⟩ := hr.ob id _ L hid hm
  exact ⟨L, c, hm, q1, q2, q3, q4, by rw [q3, Nat.zero_add], q5, q6, qb, q7⟩
theorem OpSem.loadTC {g : List AV} {t : TypeId} {a : Operand} {id off : Nat} {T : TypeId} {cs : List AV} {v : AV} (ha : ev g a = .pt id off) (hid : H[id]? = some (.tc T cs)) (hv : apart P t cs off = some v) : OpSem P g H (.load t a) v H := fun I m w ac o ho hr hx => by
  have h1 := hx a (by simp [Op.operands])
  rw [ha] at h1
  obtain ⟨L, c, hm, q1, q2, q3, q4, q5, q6, q7, qb, q8⟩ := tcOR hr hid h1
  obtain ⟨y, hy, hvy⟩ := run_loadVar' (P := P) (I := I) (m := m) (w := w) hv L.b off fun i x hi => by
    obtain ⟨y, r1, r2, _⟩ := q8 _ x hi
    exact ⟨y, by simp only [World.cell?, q6]; simpa using r1, r2⟩
  exact OpS.of_value hr hvy (by simp [execOp, ho, q5, Instr.loadAt, Instr.sureAddr, hy])
theorem tc_set (hr : HR I m H w) {id : Nat} {T : TypeId} {cs : List AV} (hid : H[id]? = some (.tc T cs)) {off : Nat} {x : Value} (hx : VR I m w (.pt id off) x) (ho : off < cs.length) {v : AV} {y : Value} (hv : VR I m w v y) (h1 : v.one = true) :
    ∃ b c, x = .pointer (some ⟨b, off, none⟩) ∧ w.heap[b]? = some (.cells c T (0, 0)) ∧ off < c.size ∧ ∀ w' : World, w'.heap.size = w.heap.size → w'.heap[b]? = some (.cells (c.setIfInBounds off y) T (0, 0)) → (∀ b', b' ≠ b → w'.heap[b']? = w.heap[b']?) → w'.os = w.os → w'.tape = w.tape → w'.output = w.output →
      HR I m (H.set id (.tc T (cs.set off v))) w' ∧ Ext I m (Own H m) w I m (Own (H.set id (.tc T (cs.set off v))) m) w' := by
  obtain ⟨L, c, hm, q1, q2, q3, q4, q5, q6, q7, qb, q8⟩ := tcOR hr hid hx
  refine ⟨L.b, c, q5, q6, by omega, fun w' k1 k2 k3 k4 k5 k6 => hr.set hid rfl hm k1 (fun b hb => k3 b (hb q2)) k4 k5 k6 ?_⟩
  simp only [OR]
  refine ⟨⟨q1, q2, q3, by simpa using q4⟩, _, ⟨k2, by simpa using q7, fun e => by simpa using qb e⟩, fun i z hz => ?_⟩
  have mono : ∀ v y, VR I m w v y → VR I m w' v y := fun v y h => by
    have := VR.mono (nu := []) (fun _ h => h) (fun b hb => k3 b fun e => hr.imm b hb ⟨id, _, L, hid, rfl, hm, q2, e.symm⟩) v y h
    simpa using this
  rw [List.getElem?_set] at hz
  rw [Array.getElem?_setIfInBounds]
  by_cases hi : off = i
  · subst hi
    rw [if_pos rfl, if_pos ho] at hz
    cases hz
    exact ⟨y, by rw [if_pos rfl, if_pos (by omega)], mono _ _ hv, h1⟩
  · rw [if_neg hi] at hz
    obtain ⟨y', r1, r2, r3⟩ := q8 i z hz
    exact ⟨y', by rw [if_neg hi]; exact r1, mono _ _ r2, r3⟩
theorem OpSem.storeTC {g : List AV} {t : TypeId} {a b : Operand} {id off : Nat} {T : TypeId} {cs : List AV} {v : AV} {i : TI} (hi : ti P t = some i) (hs : i.size = 1) (ha : ev g a = .pt id off) (hb : ev g b = v) (h1 : v.one = true) (hf : flat v = [v]) (hid : H[id]? = some (.tc T cs)) (ho : off < cs.length) :
    OpSem P g H (.store t a b) (.v undef) (H.set id (.tc T (cs.set off v))) := fun I m w ac o hop hr hx => by
  have hpa := hx a (by simp [Op.operands])
  have hpb := hx b (by simp [Op.operands])
  rw [ha] at hpa
  rw [hb] at hpb
  obtain ⟨L, c, hm, q1, q2, q3, q4, q5, q6, q7, qb, q8⟩ := tcOR hr hid hpa
  have hfl := VRs.flat hpb (by rw [hf]; simp [h1])
  rw [hf] at hfl
  simp only [VRs] at hfl
  obtain ⟨y0, _, e0, hy0, rfl⟩ := hfl
  have hcell : (ac.eval b).cells.size = 1 := by rw [← Array.length_toList, e0]; rfl
  have hone : y0.oneCell' = true := by
    have := (VRs.flat hpb (by rw [hf]; simp [h1])).one (by rw [hf]; simp [h1]) y0 (by rw [e0]; simp)
    exact this
  obtain ⟨cur', w', h4, h5, h6, h7, h8, h9, h10, h11, h12⟩ := run_storeCells' P L.b off [y0] 0 c w q6 (by intro j _ h; simp at h) (by simp; omega) (by intro v hv; simp at hv; subst hv; exact hone)
  obtain ⟨b', c', e1, e2, e3, e4⟩ := tc_set hr hid hpa ho hy0 h1
  rw [q5] at e1
  cases e1
  rw [q6] at e2
  cases e2
  have hc' : cur' = c.setIfInBounds off y0 := by
    apply Array.ext'
    rw [h12]
    apply List.ext_getElem?
    intro k
    simp only [Nat.add_zero, List.length_singleton, Array.toList_setIfInBounds, List.append_assoc]
    rw [List.getElem?_set]
    have hl : c.toList.length = c.size := Array.length_toList
    by_cases hk : k < off
    · rw [List.getElem?_append_left (by simp; omega), List.getElem?_take_of_lt hk, if_neg (by omega)]
    · rw [List.getElem?_append_right (by simp; omega)]
      simp only [List.length_take, hl]
      by_cases hk2 : off = k
      · subst hk2
        rw [if_pos rfl, if_pos (by omega), show off - min off c.size = 0 by omega]; rfl
      · rw [if_neg hk2, show k - min off c.size = (k - off - 1) + 1 by omega]
        simp only [List.singleton_append, List.getElem?_cons_succ, List.getElem?_drop]
        congr 1; omega
  obtain ⟨r1, r2⟩ := e4 w' h5 (by rw [h6, hc']) (fun b' hb' => h8 b' hb') h9 h10 h11
  refine ⟨undef, w', m, .inr ⟨?_, rfl⟩, by simp only [VR], r1, r2⟩
  have : (Instr.storeAt t (.pointer (some ⟨L.b, off, none⟩)) (ac.eval b)).run P w = .ok () w' := by
    simp only [Instr.storeAt, Instr.sureAddr, Sem.run_bind, Sem.run_pure, Result.andThen_ok, storeVar, run_sizeOf' hi, Sem.run_ite]
    rw [if_neg (by rw [hcell, hs]; simp), e0]
    exact h4
  simp [execOp, hop, q5, this]
end
end Go.Abs
