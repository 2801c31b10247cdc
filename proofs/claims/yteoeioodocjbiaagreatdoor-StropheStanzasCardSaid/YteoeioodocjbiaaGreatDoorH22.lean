/- Part 22 of the texts that lead to stropheStanzasCard_holds. No condition. -/
import Derived.Test.YteoeioodocjbiaaGreatDoorH21
set_option linter.unusedSimpArgs false
set_option linter.unusedVariables false
set_option linter.unnecessarySimpa false
namespace Go.Abs
open Go
abbrev XR := Option (AV × AX)
noncomputable def dNew (h : HP) : OR2 → XR
  | some (v, h') => match rGet h' h.n with
    | some o => some (v, .new o)
    | none => some (v, .same)
  | none => none
noncomputable def dApp (h : HP) : List AV → OR2 → XR
  | .sl id _ _ :: _, some (v, h') => match rGet h' h.n with
    | some o => some (v, .app id o)
    | none => some (v, .same)
  | _, some (v, h') => match rGet h' h.n with
    | some o => some (v, .new o)
    | none => some (v, .same)
  | _, none => none
noncomputable def dSet : AV → OR2 → XR
  | .pt id _, some (v, h') => match rGet h' id with
    | some o => some (v, .set id o)
    | none => none
  | _, _ => none
def dSam : OR2 → XR
  | some (v, _) => some (v, .same)
  | none => none
noncomputable def dAX (P : Program) (g : List AV) (h : HP) (op : Op) : XR := match op with
  | .store _ a _ => dSet (evF g a) (fop P g h op)
  | .box _ _ | .alloc _ | .buildSlice _ _ _ | .makeSlice _ _ _ | .convert _ _ _ => dNew h (fop P g h op)
  | .call ⟨.builtin .append, args, _⟩ => dApp h (args.toList.map (evF g)) (fop P g h op)
  | .call ⟨.builtin .clear, _, _⟩ => none
  | _ => dSam (fop P g h op)
theorem dAX_ok {P : Program} {g : List AV} {h : HP} (hk : h.ok) {op : Op} {r : AV × AX} (e : dAX P g h op = some r) : aopX P g h.L op = some r := by
  have hf : ∀ {v h'}, fop P g h op = some (v, h') → aop P g h.L op = some (v, h'.L) ∧ h'.ok ∧ h.n ≤ h'.n := fun q => fop_ok hk op q
  have new : ∀ {x : OR2}, x = fop P g h op → dNew h x = some r → newX h.L (aop P g h.L op) = some r := fun {x} hx q => by
    cases x with
    | none => cases q
    | some vh =>
      obtain ⟨v, h'⟩ := vh
      obtain ⟨q1, q2, q3⟩ := hf hx.symm
      rw [q1]
      simp only [newX, HP.len hk, ← rGet_eq q2]
      exact q
  have sam : ∀ {x : OR2}, x = fop P g h op → dSam x = some r → samX (aop P g h.L op) = some r := fun {x} hx q => by
    cases x with
    | none => cases q
    | some vh =>
      obtain ⟨v, h'⟩ := vh
      rw [(hf hx.symm).1]
      exact q
  unfold dAX at e
  unfold aopX
  split at e
  ·
    rename_i t a x
    generalize hx : fop P g h (.store t a x) = o at e
    rw [evF_eq] at e
    cases o with
    | none => generalize ev g a = y at e; cases y <;> cases e
    | some vh =>
      obtain ⟨v, h'⟩ := vh
      obtain ⟨q1, q2, q3⟩ := hf hx
      dsimp only
      rw [q1]
      generalize ev g a = y at *
      cases y <;> first | (cases e; done) | skip
      rename_i id off
      simp only [dSet, rGet_eq q2] at e
      simp only [setX]
      cases hh : h'.L[id]? with
      | none => rw [hh] at e; cases e
      | some o => rw [hh] at e; cases e; rfl
  · exact new rfl e
  · exact new rfl e
  · exact new rfl e
  · exact new rfl e
  · exact new rfl e
  ·
    rename_i args ats
    generalize hx : fop P g h (.call ⟨.builtin .append, args, ats⟩) = o at e
    rw [evF_fun] at e
    dsimp only
    cases o with
    | none => generalize args.toList.map (ev g) = as at e; cases as with
      | nil => cases e
      | cons y ys => cases y <;> cases e
    | some vh =>
      obtain ⟨v, h'⟩ := vh
      obtain ⟨q1, q2, q3⟩ := hf hx
      rw [q1]
      generalize args.toList.map (ev g) = as at *
      cases as with
      | nil => simp only [dApp, rGet_eq q2] at e; simp only [appX, HP.len hk]; exact e
      | cons y ys => cases y <;> (simp only [dApp, rGet_eq q2] at e; simp only [appX, HP.len hk]; exact e)
  · cases e
  · rename_i h1 h2 h3 h4 h5 h6 h7 h8
    split <;> first
      | exact sam rfl e
      | (exfalso; first | exact h1 _ _ _ rfl | exact h2 _ _ rfl | exact h3 _ rfl | exact h4 _ _ _ rfl | exact h5 _ _ _ rfl | exact h6 _ _ _ rfl | exact h7 _ _ rfl | exact h8 _ _ rfl)
noncomputable def dRes (h : HP) (N s : Nat) (F : List Nat) : XR → Option (AV × HP × Fo)
  | some (v, .same) => some (v, h, ⟨F, [], []⟩)
  | some (v, .set id o) => match Nat.blt id h.n with
    | true => some (v, rSet h id o, ⟨F, [(id, o)], []⟩)
    | false => none
  | some (v, .new o) => match rGet h s with
    | some .dead => some (v.ren (mv N [s]), rSet h s (o.ren (mv N [s])), ⟨s :: F, [(s, o.ren (mv N [s]))], [s]⟩)
    | _ => none
  | some (v, .app id o) => match rGet h s, Nat.beq id s, Nat.blt id h.n with
    | some .dead, false, true => some (v.ren (mv N [s]), rSet (rSet h id .dead) s (o.ren (mv N [s])), ⟨s :: F, [(id, .dead), (s, o.ren (mv N [s]))], [s]⟩)
    | _, _, _ => none
  | none => none
noncomputable def rSets (h : HP) (E : List (Nat × AO)) : HP := E.foldl (fun h p => rSet h p.1 p.2) h
theorem rSets_ok : ∀ (E : List (Nat × AO)) {h : HP}, h.ok → (∀ p ∈ E, p.1 < h.n) → (rSets h E).ok ∧ (rSets h E).n = h.n ∧ (rSets h E).L = apE E h.L
  | [], h, hk, _ => ⟨hk, rfl, rfl⟩
  | p :: E, h, hk, hl => by
    obtain ⟨h1, h2, h3⟩ := rSets_ok E (h := rSet h p.1 p.2) (rSet_ok hk _ _) (fun q hq => hl q (List.mem_cons_of_mem _ hq))
    refine ⟨h1, h2, ?_⟩
    show (rSets (rSet h p.1 p.2) E).L = _
    rw [h3, apE_cons, rSet_eq hk (hl p (List.mem_cons_self ..))]
section
variable {P : Program} {n k : Nat}
theorem AFn.post {args : List AV} {Hi Hr Hr2 : List AO} {r r2 : AV} (h : AFn P n k args Hi (fun v H => v = r ∧ H = Hr)) (hv : VS k [r] Hr [r2] Hr2) : AFn P n k args Hi (fun v H => v = r2 ∧ H = Hr2) := fun I m w xs h1 h2 =>
  (h I m w xs h1 h2).mono fun v w' ⟨r', Ho, I', m', ⟨e1, e2⟩, k1, k2, k3, k4⟩ => by
    subst e1; subst e2
    obtain ⟨I2, m2, q1, q2, q3, q4, q5, q6⟩ := hv I' m' w' [v] k2 (by simp only [VRs]; exact ⟨_, _, rfl, k1, rfl⟩)
    simp only [VRs] at q2
    obtain ⟨y, zs, e, q2, _⟩ := q2
    obtain ⟨rfl, rfl⟩ := List.cons.inj e
    exact ⟨r2, Hr2, I2, m2, ⟨rfl, rfl⟩, q2, q1, k3.trans (VS.ex q3 q4 q5), k4.trans q6⟩
theorem AFn.of_ACall {args : List AV} {H : List AO} {R : AV → List AO → Prop} (h : ACall P n args H R) : AFn P n k args H R := fun I m w xs h1 h2 =>
  (h I m w xs h1 h2).mono fun v w' ⟨r, Ho, I', m', k1, k2, k3, k4⟩ => ⟨r, Ho, I', m', k1, k2, k3, k4.ex, Kp.pre k4.pre⟩
end
section
variable {H : List AO} {σ : List Src} {F : Nat → Prop} {p : Nat → Bool} {τ : Nat → Nat}
theorem Sv_on (hp : ∀ j, p j = true → σ[τ j]? = some (.old j)) {v : AV} (hv : okV p v = true) : Sv H σ F v (v.ren τ) := ⟨fun h => by rw [ren_one]; exact h, fun I m w y hr k => by
  have := VR.on (I := I) (w := w) (fun j L hj hL => sub_lk (hp j hj) hL) v y hv k
  have := VR.mono (I' := Frz F I H m) (nu := []) (w' := w) (fun _ hb => Frz.imp hb) (fun _ _ => rfl) _ y this
  simpa using this⟩
theorem Svs_on (hp : ∀ j, p j = true → σ[τ j]? = some (.old j)) : ∀ {vs : List AV}, okVs p vs = true → Svs H σ F vs (rens τ vs)
  | [], _ => by simp only [rens, Svs]
  | v :: vs, h => by
    simp only [okVs, Bool.and_eq_true] at h
    simp only [rens, Svs]
    exact ⟨Sv_on hp h.1, Svs_on hp h.2⟩
theorem Ob_on (hp : ∀ j, p j = true → σ[τ j]? = some (.old j)) {id : Nat} {o : AO} (ho : H[id]? = some o) (h : okO p o = true) : Ob H σ F (.old id) (o.ren τ) := by
  cases o with
  | cells sz cs => exact ⟨cs, ho, Svs_on hp h⟩
  | ice sz cs => exact ⟨cs, .inr ho, Svs_on hp h⟩
  | raw o => exact ho
  | mapv ks vs => exact ⟨vs, ho, Svs_on hp h⟩
  | tc t cs => exact ⟨cs, ho, Svs_on hp h⟩
  | tf t cs => exact ⟨cs, ho, Svs_on hp h⟩
  | fx sz cs r => exact ⟨cs, ho, Svs_on hp h⟩
  | mi cs s sn l => exact ⟨cs, ho, Svs_on hp h⟩
  | dead => trivial
theorem Obs_on (hp : ∀ j, p j = true → σ[τ j]? = some (.old j)) : ∀ {l : List Nat}, (∀ j ∈ l, ∃ o, H[j]? = some o ∧ okO p o = true) → Obs H σ F (l.map .old) (l.map fun j => (H.getD j .dead).ren τ)
  | [], _ => by simp only [List.map_nil, Obs]
  | j :: l, h => by
    obtain ⟨o, h1, h2⟩ := h j (List.mem_cons_self ..)
    simp only [List.map_cons, Obs]
    refine ⟨?_, Obs_on hp fun i hi => h i (List.mem_cons_of_mem _ hi)⟩
    have : H.getD j .dead = o := by simp [List.getD, h1]
    rw [this]
    exact Ob_on hp h1 h2
end
theorem LCl_run {P : Program} {n : FuncId} {args : List AV} {h : HP} (hk : h.ok) {ids : List Nat} {r : AV} {Hr : List AO} (hcl : closedN h ids args = true)
    (hc : AFn P n ids.length (rens (posN ids) args) (packH h ids).L (fun v H => v = r ∧ H = Hr)) :
    LCl P h.n n args h.L ids (r.ren (tau ids ids.length h.n)) (updE (tau ids ids.length h.n) ids.length ids Hr) ((Hr.drop ids.length).map (·.ren (tau ids ids.length h.n))) := by
  obtain ⟨c1, c2, c3, c4⟩ := closedN_spec hcl
  have hp : ∀ j, memN j ids = true → (ids.map Src.old)[posN ids j]? = some (.old j) := fun j hj => by rw [List.getElem?_map, posN_get hj]; rfl
  refine LCl_fn (F := ids) (H := h.L) hc [] ids c1 c2 (Nat.le_refl _) fun H2 hl hF => ⟨trivial, ?_, Svs_on hp c3⟩
  rw [apE_nil, packH_L hk]
  have key : ∀ j ∈ ids, ∃ o, H2[j]? = some o ∧ okO (fun j => memN j ids) o = true := fun j hj => by
    have hlt := c2 j hj
    have hok := c4 j hj
    unfold okAt at hok
    rw [rGet_eq hk] at hok
    rw [hF j hj]
    have hlen := HP.len hk
    refine ⟨h.L[j], List.getElem?_eq_getElem (by omega), ?_⟩
    rw [List.getElem?_eq_getElem (by omega)] at hok
    exact hok
  have e : (ids.map fun j => (h.L.getD j .dead).ren (posN ids)) = ids.map fun j => (H2.getD j .dead).ren (posN ids) := List.map_congr_left fun j hj => by
    have := hF j hj
    simp only [List.getD, this]
  rw [e]
  exact Obs_on hp key
end Go.Abs
namespace Go.Abs
open Go
noncomputable def sameAt (h : HP) (p : Nat × AO) : Bool := match rGet h p.1 with
  | some o => beqO o p.2
  | none => false
noncomputable def turned (h : HP) (E : List (Nat × AO)) : List (Nat × AO) := List.rec (motive := fun _ => List (Nat × AO)) [] (fun p _ ih => match sameAt h p with
  | true => ih
  | false => p :: ih) E
theorem turned_cons (h : HP) (p : Nat × AO) (E : List (Nat × AO)) : turned h (p :: E) = (match sameAt h p with
  | true => turned h E
  | false => p :: turned h E) := rfl
theorem turned_sub (h : HP) : ∀ (E : List (Nat × AO)), ∀ p ∈ turned h E, p ∈ E
  | q :: E, p, hp => by
    rw [turned_cons] at hp
    split at hp
    · exact List.mem_cons_of_mem _ (turned_sub h E p hp)
    · rcases List.mem_cons.1 hp with rfl | hp
      · exact List.mem_cons_self ..
      · exact List.mem_cons_of_mem _ (turned_sub h E p hp)
theorem turned_eq {h : HP} (hk : h.ok) : ∀ (E : List (Nat × AO)) (H2 : List AO), (E.map (·.1)).Nodup → (∀ p ∈ E, H2[p.1]? = h.L[p.1]?) → apE (turned h E) H2 = apE E H2
  | [], H2, _, _ => rfl
  | q :: E, H2, hn, hs => by
    simp only [List.map_cons, List.nodup_cons] at hn
    rw [turned_cons, apE_cons]
    cases hq : sameAt h q
    · dsimp only
      rw [apE_cons]
      refine turned_eq hk E _ hn.2 fun p hp => ?_
      rw [List.getElem?_set_ne (fun e => hn.1 (by rw [e]; exact List.mem_map_of_mem hp))]
      exact hs p (List.mem_cons_of_mem _ hp)
    · dsimp only
      have e : H2.set q.1 q.2 = H2 := by
        unfold sameAt at hq
        rw [rGet_eq hk] at hq
        have hs1 := hs q (List.mem_cons_self ..)
        cases hh : h.L[q.1]? with
        | none => rw [hh] at hq; cases hq
        | some o =>
          rw [hh] at hq hs1
          have := beqO_spec hq
          subst this
          apply List.ext_getElem?
          intro i
          rw [List.getElem?_set]
          split
          · rename_i hi
            subst hi
            split
            · rw [hs1]
            · rw [List.getElem?_eq_none (by omega)]
          · rfl
      rw [e]
      exact turned_eq hk E H2 hn.2 fun p hp => hs p (List.mem_cons_of_mem _ hp)
theorem updE_keys (τ : Nat → Nat) : ∀ (k : Nat) (ids : List Nat) (Ho : List AO), (updE τ k ids Ho).map (·.1) = ids
  | 0, [], Ho => by simp only [updE, List.map_nil]
  | k + 1, [], Ho => by simp only [updE, List.map_nil]
  | 0, id :: ids, Ho => by simp only [updE, List.map_cons, updE_keys τ 0 ids Ho]
  | k + 1, id :: ids, [] => by simp only [updE, List.map_cons, updE_keys τ k ids []]
  | k + 1, id :: ids, o :: Ho => by simp only [updE, List.map_cons, updE_keys τ k ids Ho]
theorem LCl.less {P : Program} {N : Nat} {n : FuncId} {args : List AV} {h : HP} (hk : h.ok) {F : List Nat} {v : AV} {E : List (Nat × AO)} {Hn : List AO} (hc : LCl P N n args h.L F v E Hn) (hn : (E.map (·.1)).Nodup) (hF : ∀ p ∈ E, p.1 ∈ F) : LCl P N n args h.L F v (turned h E) Hn := fun H2 hl hs => by
  rw [turned_eq hk E H2 hn fun p hp => hs _ (hF p hp)]
  exact hc H2 hl hs
noncomputable def dCall4 (h : HP) (s : Nat) (ids : List Nat) (v : AV) (E : List (Nat × AO)) (Hn : List AO) (slots : List Nat) : Option (AV × HP × Fo) :=
  match allAt (fun t => Nat.blt t h.n) slots with
  | true => match allAt (fun t => (match memN t (E.map (·.1)) with
      | true => false
      | false => true)) slots with
    | true => match allAt (fun t => Nat.blt t h.n) (E.map (·.1)) with
      | true => some (v.ren (mv h.n slots), rSets h (E.map (fun p => (p.1, p.2.ren (mv h.n slots))) ++ slots.zip (Hn.map (·.ren (mv h.n slots)))), ⟨slots ++ ids, E.map (fun p => (p.1, p.2.ren (mv h.n slots))) ++ slots.zip (Hn.map (·.ren (mv h.n slots))), slots⟩)
      | false => none
    | false => none
  | false => none
noncomputable def dCall3 (h : HP) (s : Nat) (ids : List Nat) (r : AV) (Hr : List AO) : Option (AV × HP × Fo) :=
  dCall4 h s ids (r.ren (tau ids ids.length h.n)) (turned h (updE (tau ids ids.length h.n) ids.length ids Hr)) ((Hr.drop ids.length).map (·.ren (tau ids ids.length h.n))) (List.range' s ((Hr.drop ids.length).map (·.ren (tau ids ids.length h.n))).length)
noncomputable def dCall2 (h : HP) (s : Nat) (ids : List Nat) (v : AV) (hr : HP) (keep : List Nat) : Option (AV × HP × Fo) :=
  match closedN hr keep [v] with
  | true => match firstN ids.length keep with
    | true => dCall3 h s ids (v.ren (posN keep)) (keep.map fun j => (hr.L.getD j .dead).ren (posN keep))
    | false => none
  | false => none
noncomputable def dCall1 (h : HP) (s : Nat) (ids : List Nat) : OR2 → Option (AV × HP × Fo)
  | some (v, hr) => dCall2 h s ids v hr (newIds ids.length hr v)
  | none => none
noncomputable def dCall0 (call : CT) (h : HP) (s : Nat) (n : FuncId) (args : List AV) (ids : List Nat) : Option (AV × HP × Fo) := match closedN h ids args with
  | true => dCall1 h s ids (call n (rens (posN ids) args) (packH h ids))
  | false => none
noncomputable def dCall (call : CT) (h : HP) (s : Nat) (n : FuncId) (args : List AV) : Option (AV × HP × Fo) := dCall0 call h s n args (reach h 100000 (idsVs args []) [])
noncomputable def dCallV (call : CT) (h : HP) (s : Nat) (args : List AV) : AV → Option (AV × HP × Fo)
  | .fn (.func n) first cap => dCall call h s n (first ++ args ++ cap)
  | _ => none
noncomputable def dExec (P : Program) (call : CT) (g : List AV) (h : HP) (s : Nat) (op : Op) : Option (AV × HP × Fo) := match op with
  | .call ⟨.value f, args, _⟩ => dCallV call h s (args.toList.map (evF g)) (evF g f)
  | op => dRes h h.n s (opIds g op) (dAX P g h op)
noncomputable def dGuard (g : List AV) : Option (Tmp × Bool) → Option Bool
  | none => some true
  | some (d, want) => gB want (nthO g d)
section
variable {P : Program} {call : CT} {k N : Nat} {An : List (List Nat)}
theorem dCall_ok (hc : CTok P call) {h : HP} (hk : h.ok) (hN : h.n = N) {n : FuncId} {args : List AV} {acc : List Fo} {v : AV} {h' : HP} {f : Fo} (e : dCall call h (slot k acc) n args = some (v, h', f)) {R : List LOp → List AV → List AO → List Fo → Prop} {os : List LOp} {dst : Option Tmp} {g : List AV}
    (hR : R os (put g dst v) h'.L (f :: acc)) : YCall P k N R os dst g h.L acc n args := by
  subst hN
  unfold dCall dCall0 at e
  generalize hids : reach h 100000 (idsVs args []) [] = ids at e
  split at e
  · rename_i hcl
    cases hr : call n (rens (posN ids) args) (packH h ids) with
    | none => rw [hr] at e; cases e
    | some vh =>
      obtain ⟨v0, hr0⟩ := vh
      rw [hr] at e
      obtain ⟨⟨k1, l1⟩, a1⟩ := hc _ _ _ _ _ (packH_ok h ids) hr
      simp only [dCall1] at e
      generalize hkp : newIds ids.length hr0 v0 = keep at e
      unfold dCall2 at e
      split at e
      · rename_i hcl2
        split at e
        · rename_i hfirst
          obtain ⟨c1, c2, c3, c4⟩ := closedN_spec hcl2
          simp only [okVs, Bool.and_true] at c3
          have hA : AFn P n ids.length (rens (posN ids) args) (packH h ids).L (fun v H => v = v0.ren (posN keep) ∧ H = keep.map fun j => (hr0.L.getD j .dead).ren (posN keep)) :=
            (AFn.of_ACall a1).post (VS_keep keep (posN keep) (fun j => memN j keep) (fun j hj => posN_get hj) (firstN_spec hfirst) c1 (fun j hj => by rw [HP.len k1]; exact c2 j hj) c3 (fun j o hj ho => by
              have := c4 j hj
              unfold okAt at this
              rw [rGet_eq k1, ho] at this
              exact this))
          have hL := LCl_run hk hcl hA
          have hL2 := hL.less hk (by rw [updE_keys]; exact (closedN_spec hcl).1) (fun p hp => by
            have : p.1 ∈ (updE (tau ids ids.length h.n) ids.length ids (keep.map fun j => (hr0.L.getD j .dead).ren (posN keep))).map (·.1) := List.mem_map_of_mem hp
            rwa [updE_keys] at this)
          unfold dCall3 dCall4 at e
          split at e
          · rename_i s1
            split at e
            · rename_i s2
              split at e
              · rename_i s3
                cases e
                unfold YCall
                refine ⟨_, _, _, _, hL2, fun s hs => ⟨?_, ?_⟩, ?_⟩
                · have := allAt_spec s1 s hs
                  rwa [Nat.blt_eq] at this
                · have := allAt_spec s2 s hs
                  intro q
                  rw [memN_spec.2 q] at this
                  cases this
                · rw [(rSets_ok _ hk ?_).2.2] at hR
                  · exact hR
                  · intro p hp
                    rcases List.mem_append.1 hp with hp | hp
                    · obtain ⟨q, hq, rfl⟩ := List.mem_map.1 hp
                      have := allAt_spec s3 q.1 (List.mem_map_of_mem hq)
                      rwa [Nat.blt_eq] at this
                    · have := allAt_spec s1 p.1 (List.of_mem_zip hp).1
                      rwa [Nat.blt_eq] at this
              · cases e
            · cases e
          · cases e
        · cases e
      · cases e
  · cases e
theorem dGuard_eq (g : List AV) (d : Tmp) (want : Bool) : dGuard g (some (d, want)) = gB want g[d]? := by simp only [dGuard, nthO_eq]
theorem dRes_keep {h : HP} (hk : h.ok) {s : Nat} {F : List Nat} {x : XR} {v : AV} {h' : HP} {f : Fo} (e : dRes h h.n s F x = some (v, h', f)) : h'.ok ∧ h'.n = h.n := by
  unfold dRes at e
  split at e
  · cases e; exact ⟨hk, rfl⟩
  · split at e
    · cases e; exact ⟨rSet_ok hk _ _, rfl⟩
    · cases e
  · split at e
    · cases e; exact ⟨rSet_ok hk _ _, rfl⟩
    · cases e
  · split at e
    · cases e; exact ⟨rSet_ok (rSet_ok hk _ _) _ _, rfl⟩
    · cases e
  · cases e
theorem dRes_ok {h : HP} (hk : h.ok) (hN : h.n = N) {F : List Nat} {x : XR} {acc : List Fo} {v : AV} {h' : HP} {f : Fo} (e : dRes h h.n (slot k acc) F x = some (v, h', f)) {Q : List AV → List AO → Prop} {R : List LOp → List AV → List AO → List Fo → Prop} {os : List LOp} {dst : Option Tmp} {g : List AV}
    (hR : R os (put g dst v) h'.L (f :: acc)) : YRes P k N An Q R os dst g h.L acc F x := by
  subst hN
  unfold dRes at e
  unfold YRes
  split at e
  · cases e; exact hR
  · split at e
    · rename_i hb
      cases e
      rw [Nat.blt_eq] at hb
      rw [rSet_eq hk hb] at hR
      exact hR
    · cases e
  · split at e
    · rename_i hg
      cases e
      have hlt := rGet_lt hg
      rw [rGet_eq hk] at hg
      rw [rSet_eq hk hlt] at hR
      exact ⟨hg, hR⟩
    · cases e
  · split at e
    · rename_i hg hne hlt2
      cases e
      have hlt := rGet_lt hg
      rw [rGet_eq hk] at hg
      rw [Nat.blt_eq] at hlt2
      rw [rSet_eq (rSet_ok hk _ _) hlt, rSet_eq hk hlt2] at hR
      exact ⟨⟨hg, fun q => by rw [q] at hne; simp at hne⟩, hR⟩
    · cases e
  · cases e
theorem dCall_keep {h : HP} (hk : h.ok) {s : Nat} {n : FuncId} {args : List AV} {v : AV} {h' : HP} {f : Fo} (e : dCall call h s n args = some (v, h', f)) : h'.ok ∧ h'.n = h.n := by
  unfold dCall dCall0 at e
  split at e
  · generalize call n _ _ = o at e
    cases o with
    | none => cases e
    | some vh =>
      simp only [dCall1, dCall2] at e
      split at e
      · split at e
        · unfold dCall3 dCall4 at e
          split at e
          · rename_i s1
            split at e
            · split at e
              · rename_i s3
                cases e
                refine (fun this => ⟨this.1, this.2.1⟩) (rSets_ok _ hk ?_)
                intro p hp
                rcases List.mem_append.1 hp with hp | hp
                · obtain ⟨q, hq, rfl⟩ := List.mem_map.1 hp
                  have := allAt_spec s3 q.1 (List.mem_map_of_mem hq)
                  rwa [Nat.blt_eq] at this
                · have := allAt_spec s1 p.1 (List.of_mem_zip hp).1
                  rwa [Nat.blt_eq] at this
              · cases e
            · cases e
          · cases e
        · cases e
      · cases e
  · cases e
theorem dExec_keep {g : List AV} {h : HP} (hk : h.ok) {s : Nat} {op : Op} {v : AV} {h' : HP} {f : Fo} (e : dExec P call g h s op = some (v, h', f)) : h'.ok ∧ h'.n = h.n := by
  unfold dExec at e
  split at e
  · rename_i f args _
    generalize evF g f = x at e
    cases x <;> first | (cases e; done) | skip
    rename_i fn a b
    cases fn <;> first | (cases e; done) | skip
    exact dCall_keep hk e
  · exact dRes_keep hk e
theorem dExec_ok (hc : CTok P call) {g : List AV} {h : HP} (hk : h.ok) (hN : h.n = N) {op : Op} {acc : List Fo} {v : AV} {h' : HP} {f : Fo} (e : dExec P call g h (slot k acc) op = some (v, h', f)) {Q : List AV → List AO → Prop} {R : List LOp → List AV → List AO → List Fo → Prop} {os : List LOp} {dst : Option Tmp}
    (hR : R os (put g dst v) h'.L (f :: acc)) : YDo P k N An Q R os dst g h.L acc op := by
  unfold dExec at e
  unfold YDo
  split at e
  · rename_i f args ats
    dsimp only
    rw [evF_fun] at e
    generalize ev g f = x at *
    cases x <;> first | (cases e; done) | skip
    rename_i fn a b
    cases fn <;> first | (cases e; done) | skip
    simp only [YCallV]
    exact dCall_ok hc hk hN e hR
  · rename_i h1
    cases hx : dAX P g h op with
    | none => rw [hx] at e; cases e
    | some r =>
      have ha := dAX_ok hk hx
      rw [hx] at e
      rw [← ha] at e
      split
      · rename_i f args ats; exact (h1 _ _ _ rfl).elim
      · exact dRes_ok hk hN e hR
end
def ancStep (acc : List (List Nat)) (o : Oper) : List (List Nat) := acc ++ [(waits o ++ (waits o).flatMap fun l => acc.getD l []).eraseDups]
def ancs (ops : List Oper) : List (List Nat) := ops.foldl ancStep []
def padH (s : Nat) (h : HP) : HP := ⟨h.n + s, List.replicate s .dead ++ h.r⟩
def newKind : Op → Nat
  | .box _ _ | .alloc _ | .buildSlice _ _ _ | .makeSlice _ _ _ | .convert _ _ _ => 1
  | .call ⟨.builtin .append, _, _⟩ => 1
  | .call ⟨.value _, _, _⟩ => 6
  | _ => 0
def newMany (ops : List Oper) : Nat := (ops.map fun o => newKind o.op).sum
theorem padH_ok {h : HP} (hk : h.ok) (s : Nat) : (padH s h).ok ∧ (padH s h).L = h.L ++ List.replicate s .dead := by
  unfold padH HP.ok HP.L at *
  refine ⟨by simp [hk]; omega, ?_⟩
  simp only [List.reverse_append, List.reverse_replicate]
end Go.Abs
