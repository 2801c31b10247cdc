/- Part 30 of the texts that lead to stropheStanzasCard_holds. No condition. -/
import Derived.Test.YteoeioodocjbiaaGreatDoorH29
set_option linter.unusedSimpArgs false
set_option linter.unusedVariables false
set_option linter.unnecessarySimpa false
namespace Go.Abs
open Go
def orE {α : Type} : Option α → Option α → Option α
  | some x, _ => some x
  | none, y => y
noncomputable def fExec (P : Program) (call : CT) (g : List AV) (h : HP) (s : Nat) (op : Op) : Option (AV × HP × Fo) := orE (dExec P call g h s op) (orE (dX P g h op) (dR P g h s op))
def gFree (h : HP) : Option AV → Option (AV × HP × Fg)
  | some v => some (v, h, Fg.nil)
  | none => none
def gL3 (h : HP) (v : AV) (r : Rd) : Bool → Option (AV × HP × Fg)
  | true => some (v, h, ⟨⟨[], [], []⟩, [r]⟩)
  | false => none
def vsAg : AV → List AV
  | .ag vs => vs
  | v => [v]
noncomputable def vsOf (P : Program) (t : TypeId) (v : AV) : List AV := match ti P t with
  | some i => match isAggD i.desc with
    | true => vsAg v
    | false => [v]
  | none => []
noncomputable def gL2 (P : Program) (h : HP) (t : TypeId) (id off : Nat) : Option AV → Option (AV × HP × Fg)
  | some v => gL3 h v (id, off, vsOf P t v) (rdO off (vsOf P t v) (rGet h id))
  | none => none
noncomputable def gLoad (P : Program) (h : HP) (t : TypeId) : AV → Option (AV × HP × Fg)
  | .pt id off => gL2 P h t id off (oLoad2 P t (fCells h (.pt id off)))
  | _ => none
noncomputable def gX (P : Program) (g : List AV) (h : HP) : Op → Option (AV × HP × Fg)
  | .move x => some (evF g x, h, Fg.nil)
  | .assign x => some (evF g x, h, Fg.nil)
  | .nilCheck x => gFree h (oNil (evF g x))
  | .fieldAddr t x f => gFree h (oFieldA P t f (evF g x))
  | .extract t i => gFree h (oExtract i (evF g t))
  | .load t a => gLoad P h t (evF g a)
  | _ => none
def gUp : Option (AV × HP × Fo) → Option (AV × HP × Fg)
  | some (v, h, f) => some (v, h, ⟨f, []⟩)
  | none => none
noncomputable def gExec (P : Program) (call : CT) (g : List AV) (h : HP) (s : Nat) (op : Op) : Option (AV × HP × Fg) := orE (gX P g h op) (gUp (fExec P call g h s op))
noncomputable def fStep (P : Program) (call : CT) (g : List AV) (h : HP) (s : Nat) (op : Op) : Option Bool → Option (AV × HP × Fg)
  | some true => gExec P call g h s op
  | some false => some (.v undef, h, Fg.nil)
  | none => none
abbrev GR := Option (List AV × HP × List Fg)
def gNext (ih : List AV → HP → List Fg → GR) (put : AV → List AV) (acc : List Fg) : Option (AV × HP × Fg) → GR
  | some (v, h', f) => ih (put v) h' (f :: acc)
  | none => none
noncomputable def slotG (k : Nat) (acc : List Fg) : Nat := slot k (acc.map (·.toFo))
noncomputable def fOps (P : Program) (call : CT) (k : Nat) (l : List LOp) : List AV → HP → List Fg → GR :=
  List.rec (motive := fun _ => List AV → HP → List Fg → GR) (fun g h acc => some (g, h, acc))
    (fun o _ ih g h acc => gNext ih (fun v => putF g v o.dst) acc (fStep P call g h (slotG k acc) o.op (dGuard g o.guard))) l
noncomputable def gEnd (k N : Nat) (An : List (List Nat)) : GR → Option (List AV × HP)
  | some (g, h, acc) => match okG k N An acc.reverse with
    | true => some (g, h)
    | false => none
  | none => none
theorem rdO_spec {a : Nat} {vs : List AV} {o : Option AO} (h : rdO a vs o = true) : ∃ sz cs, o = some (.cells sz cs) ∧ a + vs.length ≤ cs.length ∧ (cs.drop a).take vs.length = vs := by
  unfold rdO at h
  split at h
  · rename_i sz cs
    rw [Bool.and_eq_true] at h
    exact ⟨sz, cs, rfl, Nat.le_of_ble_eq_true h.1, beqVs_spec h.2⟩
  · cases h
theorem fApart_same {P : Program} {t : TypeId} {cs cs2 : List AV} {off : Nat} {v : AV} (h : fApart P t cs off = some v) (h1 : off + (vsOf P t v).length ≤ cs.length) (h2 : off + (vsOf P t v).length ≤ cs2.length) (h3 : (cs2.drop off).take (vsOf P t v).length = vsOf P t v) : fApart P t cs2 off = some v := by
  unfold fApart at h ⊢
  cases ht : ti P t with
  | none => rw [ht] at h; cases h
  | some i =>
    rw [ht] at h
    cases ha : isAggD i.desc
    · have hv : vsOf P t v = [v] := by unfold vsOf; rw [ht]; simp only [ha]
      rw [hv] at h2 h3
      simp only [ha] at h ⊢
      rw [nthO_eq]
      have := congrArg (fun l => l[0]?) h3
      simp only [List.length_cons, List.length_nil, List.getElem?_take, List.getElem?_drop] at this
      simpa using this
    · simp only [ha] at h ⊢
      split at h
      · rename_i hc
        cases h
        have hv : vsOf P t (.ag ((cs.drop off).take i.size)) = (cs.drop off).take i.size := by unfold vsOf; rw [ht]; simp only [ha]; rfl
        rw [hv] at h2 h3
        have hl : ((cs.drop off).take i.size).length = i.size := by rw [List.length_take, List.length_drop]; omega
        rw [hl] at h2 h3
        rw [if_pos h2, h3]
      · cases h
section
variable {P : Program} {call : CT} {k N : Nat} {An : List (List Nat)}
theorem fExec_ok [DSt] (hc : CTok P call) {g : List AV} {h : HP} (hk : h.ok) (hN : h.n = N) {op : Op} {acc : List Fo} {v : AV} {h1 : HP} {f : Fo} (e : fExec P call g h (slot k acc) op = some (v, h1, f)) (dst : Option Tmp) :
    (h1.ok ∧ h1.n = N) ∧ ∃ f0 v0, LL P N op g h.L f0 v0 ∧ put g dst v0 = put g dst v ∧ apE f0.E h.L = h1.L ∧ f0 :: acc = f :: acc := by
  unfold fExec at e
  cases hx : dExec P call g h (slot k acc) op with
  | some r =>
    rw [hx] at e
    cases e
    obtain ⟨q1, q2⟩ := dExec_keep hk hx
    have hY := dExec_ok (k := k) (N := N) (An := []) (Q := fun _ _ => True) (R := fun _ g1 H1 acc1 => g1 = put g dst v ∧ H1 = h1.L ∧ acc1 = f :: acc) (os := []) (dst := dst) hc hk hN hx ⟨rfl, rfl, rfl⟩
    obtain ⟨f0, v0, r1, r2, r3, r4⟩ := YDo_ok (by rw [HP.len hk]; exact hN) hY
    exact ⟨⟨q1, q2.trans hN⟩, f0, v0, r1, r2, r3, r4⟩
  | none =>
    rw [hx] at e
    cases hX : dX P g h op with
    | some r =>
      rw [hX] at e
      cases e
      obtain ⟨q1, q2, q3⟩ := dX_ok hk hN hX
      exact ⟨q1, f, v, q2, rfl, q3.symm, rfl⟩
    | none =>
      rw [hX] at e
      have e : dR P g h (slot k acc) op = some (v, h1, f) := e
      obtain ⟨q1, q2, q3⟩ := dR_ok hk hN e
      exact ⟨q1, f, v, q2, rfl, q3.symm, rfl⟩
theorem gX_ok [DSt] {g : List AV} {h : HP} (hk : h.ok) {op : Op} {v : AV} {h1 : HP} {f : Fg} (e : gX P g h op = some (v, h1, f)) : h1 = h ∧ f.E = [] ∧ LLg P N op g h.L f v := by
  have free : ∀ {op : Op} {v : AV}, (∀ g' H2, (∀ x ∈ op.operands, ev g' x = ev g x) → fop P g' (hpOf H2) op = some (v, hpOf H2)) → LLg P N op g h.L Fg.nil v := fun {op v} q =>
    LLg_free [] (fun r hr => (nomatch hr)) fun H2 g' _ hops => by
      have := (fop_ok (hpOf_ok H2) op (q g' H2 hops)).1
      rw [hpOf_L] at this
      exact this
  unfold gX at e
  split at e
  · rename_i x
    cases e
    exact ⟨rfl, rfl, free fun g' H2 hops => by simp only [fop, evF_eq]; rw [hops x (by simp [Op.operands])]⟩
  · rename_i x
    cases e
    exact ⟨rfl, rfl, free fun g' H2 hops => by simp only [fop, evF_eq]; rw [hops x (by simp [Op.operands])]⟩
  · rename_i x
    cases hq : oNil (evF g x) with
    | none => rw [hq] at e; cases e
    | some y =>
      rw [hq] at e
      cases e
      exact ⟨rfl, rfl, free fun g' H2 hops => by simp only [fop, evF_eq]; rw [hops x (by simp [Op.operands]), ← evF_eq, hq]; rfl⟩
  · rename_i t x fd
    cases hq : oFieldA P t fd (evF g x) with
    | none => rw [hq] at e; cases e
    | some y =>
      rw [hq] at e
      cases e
      exact ⟨rfl, rfl, free fun g' H2 hops => by simp only [fop, evF_eq]; rw [hops x (by simp [Op.operands]), ← evF_eq, hq]; rfl⟩
  · rename_i x i
    cases hq : oExtract i (evF g x) with
    | none => rw [hq] at e; cases e
    | some y =>
      rw [hq] at e
      cases e
      exact ⟨rfl, rfl, free fun g' H2 hops => by simp only [fop, evF_eq]; rw [hops x (by simp [Op.operands]), ← evF_eq, hq]; rfl⟩
  · rename_i t a
    rw [evF_eq] at e
    generalize ha : ev g a = av at e
    unfold gLoad at e
    split at e
    · rename_i id off
      cases hl : oLoad2 P t (fCells h (.pt id off)) with
      | none => rw [hl] at e; cases e
      | some v0 =>
        rw [hl] at e
        simp only [gL2] at e
        cases hr : rdO off (vsOf P t v0) (rGet h id)
        · rw [hr] at e; cases e
        · rw [hr] at e
          cases e
          obtain ⟨sz, cs, q1, q2, q3⟩ := rdO_spec hr
          simp only [fCells, q1] at hl
          refine ⟨rfl, rfl, LLg_free _ (fun r hrr => ?_) fun H2 g' hG hops => ?_⟩
          · rw [List.mem_singleton.1 hrr]
            unfold rdI
            rw [← rGet_eq hk]
            exact hr
          · have hg := hG _ (List.mem_singleton.2 rfl)
            unfold rdI at hg
            rw [← hpOf_L H2, ← rGet_eq (hpOf_ok H2)] at hg
            obtain ⟨sz2, cs2, p1, p2, p3⟩ := rdO_spec hg
            have hf : fop P g' (hpOf H2) (.load t a) = some (v, hpOf H2) := by
              simp only [fop, evF_eq]
              rw [hops a (by simp [Op.operands]), ha]
              simp only [fCells]
              rw [p1]
              have : fApart P t cs2 off = some v := fApart_same (cs := cs) hl q2 p2 p3
              simp only [cellsO, oLoad2, this, wrapH]
            have := (fop_ok (hpOf_ok H2) _ hf).1
            rw [hpOf_L] at this
            exact this
    · cases e
  · cases e
theorem gExec_ok [DSt] (hc : CTok P call) {g : List AV} {h : HP} (hk : h.ok) (hN : h.n = N) {op : Op} {acc : List Fg} {v : AV} {h1 : HP} {f : Fg} (e : gExec P call g h (slotG k acc) op = some (v, h1, f)) (dst : Option Tmp) :
    (h1.ok ∧ h1.n = N) ∧ ∃ f0 v0, LLg P N op g h.L f0 v0 ∧ put g dst v0 = put g dst v ∧ apE f0.E h.L = h1.L ∧ f0 :: acc = f :: acc := by
  unfold gExec at e
  cases hx : gX P g h op with
  | some r =>
    rw [hx] at e
    cases e
    obtain ⟨rfl, q2, q3⟩ := gX_ok (N := N) hk hx
    exact ⟨⟨hk, hN⟩, f, v, q3, rfl, by rw [q2]; rfl, rfl⟩
  | none =>
    rw [hx] at e
    have e : gUp (fExec P call g h (slotG k acc) op) = some (v, h1, f) := e
    cases hf : fExec P call g h (slotG k acc) op with
    | none => rw [hf] at e; cases e
    | some r =>
      obtain ⟨v1, h2, f1⟩ := r
      rw [hf] at e
      have e : some (v1, h2, (⟨f1, []⟩ : Fg)) = some (v, h1, f) := e
      injection e with e
      injection e with e1 e
      injection e with e2 e3
      subst e1; subst e2; subst e3
      unfold slotG at hf
      generalize acc.map (·.toFo) = acc0 at hf
      obtain ⟨q1, f0, v0, r1, r2, r3, r4⟩ := @fExec_ok P call k N _ hc g h hk hN op acc0 v1 h2 f1 hf dst
      injection r4 with r4
      subst r4
      exact ⟨q1, ⟨f0, []⟩, v0, LLg_of r1, r2, r3, rfl⟩
theorem fOps_ok [DSt] (hc : CTok P call) : ∀ (ls : List LOp) {g : List AV} {h : HP} {acc : List Fg} {g' : List AV} {h' : HP} {acc' : List Fg}, h.ok → h.n = N → fOps P call k ls g h acc = some (g', h', acc') → okG k N An acc'.reverse = true →
    (h'.ok ∧ h'.n = N) ∧ DWg P k N An (fun g1 H1 => g1 = g' ∧ H1 = h'.L) ls g h.L acc
  | [], g, h, acc, g', h', acc', hk, hN, e, ho => by cases e; exact ⟨⟨hk, hN⟩, ho, rfl, rfl⟩
  | ⟨dst, op, gd⟩ :: os, g, h, acc, g', h', acc', hk, hN, e0, ho => by
    have e : gNext (fOps P call k os) (fun v => putF g v dst) acc (fStep P call g h (slotG k acc) op (dGuard g gd)) = some (g', h', acc') := e0
    clear e0
    cases hs : fStep P call g h (slotG k acc) op (dGuard g gd) with
    | none => rw [hs] at e; cases e
    | some r =>
      obtain ⟨v, h1, f⟩ := r
      rw [hs] at e
      simp only [gNext, putF_eq] at e
      have yes : gExec P call g h (slotG k acc) op = some (v, h1, f) → (h'.ok ∧ h'.n = N) ∧ ∃ f v, LLg P N op g h.L f v ∧ DWg P k N An (fun g1 H1 => g1 = g' ∧ H1 = h'.L) os (put g dst v) (apE f.E h.L) (f :: acc) := fun q => by
        obtain ⟨⟨q1, q2⟩, f0, v0, r1, r2, r3, r4⟩ := gExec_ok hc hk hN q dst
        obtain ⟨t1, t2⟩ := fOps_ok hc os q1 q2 e ho
        refine ⟨t1, f0, v0, r1, ?_⟩
        rw [r2, r3, r4]
        exact t2
      cases gd with
      | none =>
        obtain ⟨t1, f0, v0, r1, r2⟩ := yes hs
        exact ⟨t1, by simp only [DWg]; exact ⟨f0, v0, r1, r2⟩⟩
      | some dw =>
        obtain ⟨d, want⟩ := dw
        rw [dGuard_eq] at hs
        simp only [DWg]
        generalize g[d]? = x at *
        have go : ∀ b, gB want x = some b → (b = true → gExec P call g h (slotG k acc) op = some (v, h1, f)) ∧ (b = false → v = .v undef ∧ h1 = h ∧ f = Fg.nil) := fun b hb => by
          rw [hb] at hs
          cases b
          · cases hs; exact ⟨fun q => (by cases q), fun _ => ⟨rfl, rfl, rfl⟩⟩
          · exact ⟨fun _ => hs, fun q => (by cases q)⟩
        have no : v = .v undef ∧ h1 = h ∧ f = Fg.nil → (h'.ok ∧ h'.n = N) ∧ DWg P k N An (fun g1 H1 => g1 = g' ∧ H1 = h'.L) os (put g dst (.v undef)) h.L (Fg.nil :: acc) := fun ⟨q1, q2, q3⟩ => by
          subst q1; subst q2; subst q3
          exact fOps_ok hc os hk hN e ho
        cases x with
        | none => cases hs
        | some y =>
          cases y <;> first | (cases hs; done) | skip
          rename_i z
          cases z <;> first | (cases hs; done) | skip
          · rename_i b
            by_cases hb : b = want
            · obtain ⟨t1, f0, v0, r1, r2⟩ := yes ((go true (by simp [gB, hb])).1 rfl)
              exact ⟨t1, by simp only [if_pos hb]; exact ⟨f0, v0, r1, r2⟩⟩
            · obtain ⟨t1, t2⟩ := no ((go false (by simp [gB, hb])).2 rfl)
              exact ⟨t1, by simp only [if_neg hb]; exact t2⟩
          · exact no ((go false rfl).2 rfl)
end
noncomputable def fRun3 (P : Program) (call : CT) (s : Nat) (An : List (List Nat)) (g : List AV) (h : HP) (ls : List LOp) : Bool → Option (List AV × HP)
  | true => gEnd h.n (h.n + s) An (fOps P call h.n ls g (padH s h) [])
  | false => none
noncomputable def fRun2 (P : Program) (call : CT) (s : Nat) (ops : List Oper) (An : List (List Nat)) (g : List AV) (h : HP) : Option (List LOp) → Option (List AV × HP)
  | some ls => fRun3 P call s An g h ls (lexOK ops && ancOK ops An)
  | none => none
noncomputable def fRunN (P : Program) (call : CT) (x : Nat) : DT := fun ops g h => fRun2 P call (newMany ops.toList + x) ops.toList (ancs ops.toList) g h (lowOps ops ops.toList)
theorem fRunN_ok {P : Program} (hm : P.follows .mixedOrders = true) {call : CT} (hc : CTok P call) (x : Nat) : DTok P (fRunN P call x) := by
  intro ops g h g' h' hk e
  unfold fRunN fRun2 at e
  split at e
  · rename_i ls hls
    unfold fRun3 at e
    split at e
    · rename_i hb
      rw [Bool.and_eq_true] at hb
      generalize hs : newMany ops.toList + x = s at e
      cases hd : fOps P call h.n ls g (padH s h) [] with
      | none => rw [hd] at e; cases e
      | some r =>
        obtain ⟨g1, h1, acc1⟩ := r
        rw [hd] at e
        simp only [gEnd] at e
        split at e
        · rename_i ho
          cases e
          obtain ⟨p1, p2⟩ := padH_ok hk s
          obtain ⟨r1, r2⟩ := (@fOps_ok P call h.n (h.n + s) (ancs ops.toList) noDefers hc ls g (padH s h) [] g' h' acc1 p1 rfl hd ho).1
          refine ⟨⟨r1, by omega⟩, fun D k id hkn => ?_⟩
          have r3 := (@fOps_ok P call h.n (h.n + s) (ancs ops.toList) D hc ls g (padH s h) [] g' h' acc1 p1 rfl hd ho).2
          rw [p2] at r3
          have hl := HP.len hk
          refine BW_drawnG (Q := fun e1 g1 H1 => e1 = Exit.normal ∧ g1 = g' ∧ H1 = h'.L) hls hm hb.1 hb.2 s (by rw [hl]; exact hkn) ?_
          rw [hl]
          have eq : (fun (g1 : List AV) (H1 : List AO) => Exit.normal = Exit.normal ∧ g1 = g' ∧ H1 = h'.L) = (fun g1 H1 => g1 = g' ∧ H1 = h'.L) := by
            funext g1 H1
            exact propext ⟨fun q => q.2, fun q => ⟨rfl, q⟩⟩
          rw [eq]
          exact r3
        · cases e
    · cases e
  · cases e
noncomputable def fRun (P : Program) (call : CT) : DT := fun ops g h => orE (fRunN P call 0 ops g h) (orE (fRunN P call 40 ops g h) (fRunN P call 300 ops g h))
theorem fRun_ok {P : Program} (hm : P.follows .mixedOrders = true) {call : CT} (hc : CTok P call) : DTok P (fRun P call) := by
  intro ops g h g' h' hk e
  unfold fRun at e
  cases h1 : fRunN P call 0 ops g h with
  | some r => rw [h1] at e; exact fRunN_ok hm hc 0 ops g h g' h' hk (by rw [h1]; exact e)
  | none =>
    rw [h1] at e
    cases h2 : fRunN P call 40 ops g h with
    | some r => rw [h2] at e; exact fRunN_ok hm hc 40 ops g h g' h' hk (by rw [h2]; exact e)
    | none => rw [h2] at e; exact fRunN_ok hm hc 300 ops g h g' h' hk e
end Go.Abs
namespace Go.Abs
open Go
structure ME where
  f : FuncId
  a : List AV
  i : List AO
  r : AV
  o : List AO
def MEok (P : Program) (e : ME) : Prop := AFn P e.f e.i.length e.a e.i (fun v H => v = e.r ∧ H = e.o)
def beqOs : List AO → List AO → Bool
  | [], [] => true
  | a :: as, b :: bs => match beqO a b with
    | true => beqOs as bs
    | false => false
  | _, _ => false
theorem beqOs_spec : ∀ {a b : List AO}, beqOs a b = true → a = b
  | [], [], _ => rfl
  | a :: as, b :: bs, h => by
    unfold beqOs at h
    split at h
    · rename_i hb; rw [beqO_spec hb, beqOs_spec h]
    · cases h
  | [], b :: bs, h => by simp [beqOs] at h
  | a :: as, [], h => by simp [beqOs] at h
def okIf : Bool → Bool → Bool
  | true, b => b
  | false, _ => false
theorem okIf_spec {a b : Bool} (h : okIf a b = true) : a = true ∧ b = true := by cases a <;> first | exact ⟨rfl, h⟩ | cases h
noncomputable def mePack (e : ME) (hr : HP) (v : AV) (keep : List Nat) : Bool :=
  okIf (closedN hr keep [v]) (okIf (firstN e.i.length keep) (okIf (beqV (v.ren (posN keep)) e.r) (beqOs (keep.map (objN hr (posN keep))) e.o)))
noncomputable def meEnd (e : ME) : OR2 → Bool
  | some (v, hr) => mePack e hr v (newIds e.i.length hr v)
  | none => false
noncomputable def meRun (P : Program) (bwt : BWT) (call : CT) (dr : DT) (fuel : Nat) (e : ME) : Bool := meEnd e (eFn P bwt call dr fuel e.a ⟨e.i.length, e.i.reverse⟩ (P.funcs[e.f]?))
theorem objN_eq {h : HP} (hk : h.ok) (τ : Nat → Nat) (j : Nat) : objN h τ j = (h.L.getD j .dead).ren τ := by
  unfold objN
  rw [rGet_eq hk, List.getD_eq_getElem?_getD]
  cases h.L[j]? <;> rfl
theorem meRun_ok {P : Program} {bwt : BWT} {call : CT} {dr : DT} (hN : namesOK P = true) (hB : BWok P bwt) (hc : CTok P call) (hd : DTok P dr) {fuel : Nat} {e : ME} (h : meRun P bwt call dr fuel e = true) : MEok P e := by
  unfold meRun at h
  have hk0 : (⟨e.i.length, e.i.reverse⟩ : HP).ok := by simp [HP.ok]
  have hL0 : (⟨e.i.length, e.i.reverse⟩ : HP).L = e.i := by simp [HP.L]
  cases hx : eFn P bwt call dr fuel e.a ⟨e.i.length, e.i.reverse⟩ (P.funcs[e.f]?) with
  | none => rw [hx] at h; cases h
  | some vh =>
    obtain ⟨v0, hr0⟩ := vh
    rw [hx] at h
    obtain ⟨⟨k1, l1⟩, a1⟩ := eFn_ok hN hB hc hd hk0 hx
    rw [hL0] at a1
    simp only [meEnd] at h
    generalize newIds e.i.length hr0 v0 = keep at h
    unfold mePack at h
    obtain ⟨hcl2, h⟩ := okIf_spec h
    obtain ⟨hfirst, h⟩ := okIf_spec h
    obtain ⟨hr, ho⟩ := okIf_spec h
    obtain ⟨c1, c2, c3, c4⟩ := closedN_spec hcl2
    simp only [okVs, Bool.and_true] at c3
    have hA : AFn P e.f e.i.length e.a e.i (fun v H => v = v0.ren (posN keep) ∧ H = keep.map fun j => (hr0.L.getD j .dead).ren (posN keep)) :=
      a1.post (VS_keep keep (posN keep) (fun j => memN j keep) (fun j hj => posN_get hj) (firstN_spec hfirst) c1 (fun j hj => by rw [HP.len k1]; exact c2 j hj) c3 (fun j o hj ho => by
        have := c4 j hj
        unfold okAt at this
        rw [rGet_eq k1, ho] at this
        exact this))
    have e1 := beqV_spec hr
    have e2 := beqOs_spec ho
    have e3 : (keep.map fun j => (hr0.L.getD j .dead).ren (posN keep)) = e.o := by
      rw [← e2]
      exact List.map_congr_left fun j _ => (objN_eq k1 _ j).symm
    rw [e1, e3] at hA
    exact hA
noncomputable def mePut (h : HP) (ids : List Nat) (e : ME) : OR2 :=
  match allAt (fun t => Nat.blt t h.n) ids with
  | true => some (e.r.ren (tau ids ids.length h.n), List.foldl rNew (rSets h (turned h (updE (tau ids ids.length h.n) ids.length ids e.o))) ((e.o.drop ids.length).map (·.ren (tau ids ids.length h.n))))
  | false => none
noncomputable def meHit (args : List AV) (h : HP) (ids : List Nat) (e : ME) : Bool :=
  okIf (Nat.beq ids.length e.i.length) (okIf (beqVs (rens (posN ids) args) e.a) (beqOs (ids.map (objN h (posN ids))) e.i))
def meTry (h : HP) (put : OR2) (rest : OR2) : Bool → OR2
  | true => put
  | false => rest
noncomputable def meFind (args : List AV) (h : HP) (ids : List Nat) (es : List ME) : OR2 :=
  List.rec (motive := fun _ => OR2) none (fun e _ ih => meTry h (mePut h ids e) ih (meHit args h ids e)) es
noncomputable def meGo (args : List AV) (h : HP) (es : List ME) (ids : List Nat) : OR2 := match closedN h ids args with
  | true => meFind args h ids es
  | false => none
noncomputable def meLook (args : List AV) (h : HP) : List ME → OR2
  | [] => none
  | es => meGo args h es (reach h 100000 (idsVs args []) [])
noncomputable def ofF (f : FuncId) (es : List ME) : List ME := List.rec (motive := fun _ => List ME) [] (fun e _ ih => match Nat.beq e.f f with
  | true => e :: ih
  | false => ih) es
noncomputable def kMe (es : List ME) : KM := fun f args h => meLook args h (ofF f es)
theorem ofF_sub (f : FuncId) : ∀ (es : List ME), ∀ e ∈ ofF f es, e ∈ es ∧ e.f = f
  | [], e, h => by cases h
  | a :: es, e, h => by
    have h : e ∈ (match Nat.beq a.f f with
      | true => a :: ofF f es
      | false => ofF f es) := h
    cases hb : Nat.beq a.f f
    · rw [hb] at h
      obtain ⟨h1, h2⟩ := ofF_sub f es e h
      exact ⟨List.mem_cons_of_mem _ h1, h2⟩
    · rw [hb] at h
      rcases List.mem_cons.1 h with rfl | h
      · exact ⟨List.mem_cons_self .., Nat.eq_of_beq_eq_true hb⟩
      · obtain ⟨h1, h2⟩ := ofF_sub f es e h
        exact ⟨List.mem_cons_of_mem _ h1, h2⟩
theorem meFind_ok {args : List AV} {h : HP} {ids : List Nat} {v : AV} {h' : HP} : ∀ {es : List ME}, meFind args h ids es = some (v, h') → ∃ e ∈ es, meHit args h ids e = true ∧ mePut h ids e = some (v, h')
  | [], q => by cases q
  | e :: es, q => by
    have q : meTry h (mePut h ids e) (meFind args h ids es) (meHit args h ids e) = some (v, h') := q
    cases hh : meHit args h ids e
    · rw [hh] at q
      obtain ⟨e', h1, h2⟩ := meFind_ok (es := es) q
      exact ⟨e', List.mem_cons_of_mem _ h1, h2⟩
    · rw [hh] at q
      exact ⟨e, List.mem_cons_self .., hh, q⟩
theorem foldNew_L : ∀ (l : List AO) (h : HP), h.ok → (List.foldl rNew h l).L = h.L ++ l ∧ (List.foldl rNew h l).ok ∧ h.n ≤ (List.foldl rNew h l).n
  | [], h, hk => ⟨by simp, hk, Nat.le_refl _⟩
  | o :: l, h, hk => by
    obtain ⟨h1, h2, h3⟩ := foldNew_L l (rNew h o) (rNew_ok hk o)
    simp only [List.foldl_cons]
    refine ⟨by rw [h1, rNew_eq]; simp, h2, Nat.le_trans (Nat.le_succ _) h3⟩
theorem kMe_ok {P : Program} {es : List ME} (hes : ∀ e ∈ es, MEok P e) : KMok P (kMe es) := by
  intro f args h v h' hk e
  unfold kMe at e
  have sub := ofF_sub f es
  generalize ofF f es = fs at *
  unfold meLook at e
  split at e
  · cases e
  · generalize reach h 100000 (idsVs args []) [] = ids at e
    unfold meGo at e
    split at e
    case h_2 => cases e
    rename_i hcl
    obtain ⟨m, hm, hit, put⟩ := meFind_ok e
    obtain ⟨hm1, rfl⟩ := sub m hm
    have hM := hes m hm1
    unfold meHit at hit
    obtain ⟨t1, hit⟩ := okIf_spec hit
    obtain ⟨t2, t3⟩ := okIf_spec hit
    have t1 := Nat.eq_of_beq_eq_true t1
    have t2 := beqVs_spec t2
    have t3 := beqOs_spec t3
    have hpk : (packH h ids).L = m.i := by
      rw [packH_L hk, ← t3]
      exact List.map_congr_left fun j _ => (objN_eq hk _ j).symm
    unfold MEok at hM
    rw [← t1, ← t2, ← hpk] at hM
    have hL := (LCl_run hk hcl hM).less hk (by rw [updE_keys]; exact (closedN_spec hcl).1) (fun p hp => by
      have : p.1 ∈ (updE (tau ids ids.length h.n) ids.length ids m.o).map (·.1) := List.mem_map_of_mem hp
      rwa [updE_keys] at this)
    have hA := hL h.L (HP.len hk) fun _ _ => rfl
    unfold mePut at put
    split at put
    case h_2 => cases put
    rename_i hall
    cases put
    have hS := rSets_ok (turned h (updE (tau ids ids.length h.n) ids.length ids m.o)) hk (fun p hp => by
      have hp2 := turned_sub _ _ p hp
      have : p.1 ∈ (updE (tau ids ids.length h.n) ids.length ids m.o).map (·.1) := List.mem_map_of_mem hp2
      rw [updE_keys] at this
      have := allAt_spec hall p.1 this
      rwa [Nat.blt_eq] at this)
    obtain ⟨s1, s2, s3⟩ := hS
    obtain ⟨u1, u2, u3⟩ := foldNew_L ((m.o.drop ids.length).map (·.ren (tau ids ids.length h.n))) _ s1
    refine ⟨⟨u2, by omega⟩, hA.mono fun v1 H1 ⟨q1, q2⟩ => ⟨q1, ?_⟩⟩
    rw [q2, u1, s3]
end Go.Abs
