/- Part 25 of the texts that lead to bestWeakenCard_holds. No condition. -/
import Derived.Laws.Externs
import Derived.Lib.Builder
import Derived.Test.YthoonenhakbkgaaGreatDoorH20
import Derived.Test.YthoonenhakbkgaaGreatDoorH23
import Derived.Test.YthoonenhakbkgaaGreatDoorH24
set_option linter.unusedSimpArgs false
set_option linter.unusedVariables false
set_option linter.unnecessarySimpa false
namespace Go.Abs
open Go
section
variable {P : Program} {H : List AO} {g : List AV}
theorem OpSem.toUnsafe {x : Operand} {src dst t : TypeId} {j : TypeInfo} {id : Nat} {T : TypeId} {cs : List AV} (hs : P.underlying src = some (.pointer t)) (hd : P.underlying dst = some .unsafePointer) (ht : P.info? t = some j) (hj : j.size ≠ 0) (hx : ev g x = .pt id 0) (hid : H[id]? = some (.tc T cs)) : OpSem P g H (.convert src dst x) (.pt id 0) H := fun I m w ac o hop hr hv => by
  have hpa := hv x (by simp [Op.operands])
  rw [hx] at hpa
  obtain ⟨L, c, hm, q1, q2, q3, q4, q5, q6, q7, qb, q8⟩ := tcOR hr hid hpa
  have := Lib.run_to_unsafe (P := P) (w := w) (e := T) (cells := c.size) ⟨L.b, 0, none⟩ hs hd ht hj (by simp [World.shape?, q6]) (by show 0 < c.size; omega)
  refine OpS.of_value hr hpa ?_
  rw [q5]
  simp [execOp, hop, q5, this]
theorem OpSem.fromUnsafe {x : Operand} {src dst t : TypeId} {j : TypeInfo} {id : Nat} {cs : List AV} (hs : P.underlying src = some .unsafePointer) (hd : P.underlying dst = some (.pointer t)) (ht : P.info? t = some j) (hl : liesAt P P.depth bty (2 / P.cellsOf bty) 0 t 1 = true) (hx : ev g x = .pt id 0) (hid : H[id]? = some (.tc bty cs)) : OpSem P g H (.convert src dst x) (.pt id 0) H := fun I m w ac o hop hr hv => by
  have hpa := hv x (by simp [Op.operands])
  rw [hx] at hpa
  obtain ⟨L, c, hm, q1, q2, q3, q4, q5, q6, q7, qb, q8⟩ := tcOR hr hid hpa
  have := Lib.run_from_unsafe (P := P) (w := w) (e := bty) (cells := c.size) ⟨L.b, 0, none⟩ hs hd ht (by simp [World.shape?, q6]) (by rw [qb rfl]; exact hl)
  refine OpS.of_value hr hpa ?_
  rw [q5]
  simp [execOp, hop, q5, this]
theorem OpSem.neqSame {x y : Operand} {t u e : TypeId} {j : TypeInfo} {id off : Nat} (hp : P.underlying t = some (.pointer e)) (he : P.info? e = some j) (hx : ev g x = .pt id off) (hy : ev g y = .pt id off) : OpSem P g H (.binOp .neq t x y u) (.v (.bool false)) H := fun I m w ac o hop hr hv => by
  have h1 := hv x (by simp [Op.operands])
  have h2 := hv y (by simp [Op.operands])
  rw [hx] at h1
  rw [hy] at h2
  simp only [VR] at h1 h2
  obtain ⟨L, r1, r2⟩ := h1
  obtain ⟨L', s1, s2⟩ := h2
  rw [r1] at s1; cases s1
  have hrun := Lib.run_neq_ptr_same (P := P) (w := w) ⟨L.b, L.o + off, none⟩ hp he
  have hg : (eqGuard .neq t x y (ac.eval x) (ac.eval y)).run P w = .ok () w := eqGuard_ok (by rw [r2]; simp) (by rw [r2]; rfl)
  have : (do eqGuard .neq t x y (ac.eval x) (ac.eval y); Go.binOp .neq t (ac.eval x) (ac.eval y) : Sem Value).run P w = .ok (.bool false) w := by
    simp only [Sem.run_bind, hg, Result.andThen_ok]
    rw [r2, s2]; exact hrun
  exact OpS.of_sok (SOK.same hr this (by simp only [VR])) (by simp [execOp, hop])
theorem OpSem.isNil {op : BinOp} {x y : Operand} {t u : TypeId} {r : Value} (e : xNil P op t (ev g x) (ev g y) = some r) : OpSem P g H (.binOp op t x y u) (.v r) H := fun I m w ac o hop hr hv =>
  OpS.of_sok (SOK.same hr (xNil_ok (P := P) e (hv x (by simp [Op.operands])) (hv y (by simp [Op.operands])) x y) (by simp only [VR])) (by simp [execOp, hop])
theorem ACall_noEscape {f : FuncId} {fn : Func} (hf : P.funcs[f]? = some fn) (hname : (fn.name == "runtime.NumGoroutine") = false) (hb : fn.body.isNone = true) (hn : Extern.findNext fn = none) (he : Extern.find fn = some Extern.AbiNoEscape.same) (v : AV) :
    ACall P f [v] H (fun v1 H1 => v1 = v ∧ H1 = H) := fun I m w xs hr hv => by
  simp only [VRs] at hv
  obtain ⟨x, _, hxs, hx, rfl⟩ := hv
  obtain rfl : xs = #[x] := by apply Array.ext'; simpa using hxs
  unfold CallsFn
  rw [run_callFunc_extern hf hname hb hn he, Lib.run_noEscape]
  exact ⟨v, H, I, m, ⟨rfl, rfl⟩, hx, hr, Ext.refl _ _ _ _⟩
def CkCode (P : Program) (f ne : FuncId) (bT pT uT tI : TypeId) : Prop :=
  ∃ (i0 i1 i2 : Nat) (o0 o1 o2 : Array Oper) (X : Code) (a1 : Array TypeId), FnAt P f (.seq (.region i0 o0 false) (.cond (.tmp 6) (.region i1 o1 false) (.seq (.region i2 o2 false) (.cond (.tmp 19) X .skip)))) 20 [] ∧
    o0.toList.map core = plainC [(some 2, .move (.tmp 0)), (some 3, .nilCheck (.tmp 2)), (some 4, .fieldAddr bT (.tmp 3) 0), (some 5, .load pT (.tmp 4)), (some 6, .binOp .eql pT (.tmp 5) (.const (.pointer none)) pT)] ∧
    o1.toList.map core = plainC [(some 7, .move (.tmp 0)), (some 8, .move (.tmp 0)), (some 9, .convert pT uT (.tmp 8)), (some 10, .call ⟨.value (.func ne), #[.tmp 9], a1⟩), (some 11, .convert uT pT (.tmp 10)), (some 12, .nilCheck (.tmp 7)), (some 13, .fieldAddr bT (.tmp 12) 0), (none, .store pT (.tmp 13) (.tmp 11))] ∧
    o2.toList.map core = plainC [(some 14, .move (.tmp 0)), (some 15, .nilCheck (.tmp 14)), (some 16, .fieldAddr bT (.tmp 15) 0), (some 17, .load pT (.tmp 16)), (some 18, .move (.tmp 0)), (some 19, .binOp .neq pT (.tmp 17) (.tmp 18) pT)]
theorem ck_ok {f ne : FuncId} {pT uT tI : TypeId} (hc : CkCode P f ne bty pT uT tI) {fs : Array Field} {fd : Field} {b1 b2 p1 : Nat} {z z2 : List Value} (hb : ti P bty = some ⟨.struct fs, b1, b2, z⟩) (hf : fs[0]? = some fd) (ht : fd.type = pT) (ho : fd.offset = 0) (hp : ti P pT = some ⟨.pointer bty, 1, p1, z2⟩)
    (hpu : P.underlying pT = some (.pointer bty)) (hu : P.underlying uT = some .unsafePointer) {j : TypeInfo} (hj : P.info? bty = some j) (hj0 : j.size ≠ 0) (hl : liesAt P P.depth bty (2 / P.cellsOf bty) 0 bty 1 = true)
    {fn : Func} (hnf : P.funcs[ne]? = some fn) (hname : (fn.name == "runtime.NumGoroutine") = false) (hnb : fn.body.isNone = true) (hnn : Extern.findNext fn = none) (hne : Extern.find fn = some Extern.AbiNoEscape.same) : CcOK P bty f := fun id p s H hid hpp => by
  obtain ⟨i0, i1, i2, o0, o1, o2, X, a1, ⟨fn, f1, f2, f3, f4, f5⟩, c0, c1, c2⟩ := hc
  have hidlt : id < H.length := (List.getElem?_eq_some_iff.1 hid).1
  have hfa : ∀ (g : List AV) (H : List AO) (x : Tmp), ev g (.tmp x) = .pt id 0 → aop P g H (.fieldAddr bty (.tmp x) 0) = some (.pt id 0, H) := fun g H x hx => by
    simp only [aop, hb, hf, ht, hp, hx, ho]
    rfl
  have hap : apart P pT [p, s] 0 = some p := by simp [apart, hp, isAggD]
  refine ACall_of_AW f1 f2 f3 ?_
  rw [f4]
  refine AW_seq (AW_region (AOps_ofS c0 ?_))
  have hnil : xNil P .eql pT p (.v (.pointer none)) = some (.bool (isNilV p)) := by
    rcases hpp with rfl | rfl
    · simp [xNil, isNilV, nilK, hpu, flipB]
    · simp [xNil, isNilV, nilK, hpu, flipB]
  refine ⟨_, _, .inl rfl, .pt id 0, _, .inl (by simp [aop, ev, put]), .pt id 0, _, .inl (hfa _ _ 3 (by simp [ev, put])), p, _, .inr (OpSem.loadTC (id := id) (off := 0) (T := bty) (cs := [p, s]) (by simp [ev, put]) hid hap), .v (.bool (isNilV p)), H, .inr (OpSem.isNil (by simpa [ev, put, lift] using hnil)), ?_⟩
  simp only [AOpsS, thenA]
  rcases hpp with rfl | rfl
  · refine AW_cond (t := true) (by simp [ev, put, isNilV]) ?_
    rw [if_pos rfl]
    refine AW_region (AOps_ofS c1 ?_)
    refine ⟨_, _, .inl rfl, _, _, .inl rfl, .pt id 0, _, .inr (OpSem.toUnsafe (id := id) hpu hu hj hj0 (by simp [ev, put]) hid), .pt id 0, H, ⟨ne, [], [], rfl, ?_⟩, .pt id 0, _, .inr (OpSem.fromUnsafe (id := id) hu hpu hj hl (by simp [ev, put]) hid), .pt id 0, _, .inl (by simp [aop, ev, put]), .pt id 0, _, .inl (hfa _ _ 12 (by simp [ev, put])), _, _,
      .inr (OpSem.storeTC (id := id) (off := 0) (T := bty) (v := .pt id 0) hp rfl (by simp [ev, put]) (by simp [ev, put]) rfl rfl hid (by simp)), ?_⟩
    · have := ACall_noEscape (H := H) hnf hname hnb hnn hne (.pt id 0)
      simpa [ev, put] using this
    · simp only [AOpsS, endA, f5]
      exact ⟨_, rfl, rfl, rfl⟩
  · refine AW_cond (t := false) (by simp [ev, put, isNilV]) ?_
    rw [if_neg (by simp)]
    refine AW_seq (AW_region (AOps_ofS c2 ?_))
    refine ⟨_, _, .inl rfl, .pt id 0, _, .inl (by simp [aop, ev, put]), .pt id 0, _, .inl (hfa _ _ 15 (by simp [ev, put])), .pt id 0, _, .inr (OpSem.loadTC (id := id) (off := 0) (T := bty) (cs := [.pt id 0, s]) (by simp [ev, put]) hid hap), _, _, .inl rfl, .v (.bool false), H, .inr (OpSem.neqSame hpu hj (id := id) (off := 0) (by simp [ev, put]) (by simp [ev, put])), ?_⟩
    simp only [AOpsS, thenA]
    refine AW_cond (t := false) (by simp [ev, put]) ?_
    rw [if_neg (by simp)]
    refine AW_skip ?_
    simp only [endA, f5]
    refine ⟨_, rfl, rfl, ?_⟩
    exact (set_self hid).symm
end
end Go.Abs
namespace Go.Abs
open Go
def hpOf (H : List AO) : HP := ⟨H.length, H.reverse⟩
theorem hpOf_ok (H : List AO) : (hpOf H).ok := by simp [HP.ok, hpOf]
theorem hpOf_L (H : List AO) : (hpOf H).L = H := by simp [HP.L, hpOf]
theorem osem_wp' {P : Program} {g : List AV} {H : List AO} {op : Op} {v : AV} {H' : List AO} (h : OpSem P g H op v H') {I : Nat → Prop} {m : List Loc} {a : Act} {w : World} {o : Oper} {Q : Exit → Act → World → Prop} (ho : o.op = op) (hr : HR I m H w) (hg : VRs I m w g a.tmps.toList)
    {K : Act → World → Prop} (hK : ∀ y w' m', VR I m' w' v y → HR I m' H' w' → Ext I m (Own H m) w I m' (Own H' m') w' → K (a.put o.dst y) w') : OWP P o a w K Q := by
  obtain ⟨y, w', m', h3, h4, h5, h6⟩ := h I m w a o ho hr fun x _ => VR.ev hg x
  refine OWP.of ?_ (not_defer h3)
  unfold Oper.wp
  rcases h3 with h3 | ⟨h3, rfl⟩
  · rw [h3]; simp only [Oper.upon]; exact hK _ _ _ h4 h5 h6
  · rw [h3]; simp only [Oper.upon]; exact hK _ _ _ h4 h5 h6
theorem LL_sem [DSt] {P : Program} {N : Nat} {g : List AV} {H : List AO} {op : Op} {v : AV} (F : List Nat) (E : List (Nat × AO)) (h : ∀ (H2 : List AO) (g' : List AV), H2.length = N → (∀ id ∈ F, H2[id]? = H[id]?) → (∀ x ∈ op.operands, ev g' x = ev g x) → OpSem P g' H2 op v (apE E H2)) : LL P N op g H ⟨F, E, []⟩ v := by
  intro H2 g' hl hF hops I m a w o Q ho hr hg hd hv
  refine osem_wp' (h H2 g' hl hF hops) ho hr hg fun y w' m' k1 k2 k3 => ?_
  obtain ⟨nu, rfl⟩ := k3.pre
  obtain rfl := nu_nil hr k2 (apE_len _ _)
  simp only [List.append_nil] at k1 k2 k3
  exact ⟨I, m, k2, put_ok (Ext.vrs hr k3 hg) o.dst k1, put_defers hd, k3.ex, fun _ _ => rfl⟩
noncomputable def dX3 (h : HP) (F : List Nat) (id : Nat) : Option AO → Option (AV × HP × Fo)
  | some o => some (.v undef, rSet h id o, ⟨F, [(id, o)], []⟩)
  | none => none
noncomputable def dX2 (P : Program) (h : HP) (F : List Nat) (k : TypeId) (v : AV) : AV → Option Value → Option (AV × HP × Fo)
  | .mp id, some i => dX3 h F id (xUpd3 P k i v (rGet h id))
  | _, _ => none
noncomputable def dX1 (P : Program) (h : HP) (F : List Nat) (m k v : AV) : Option TypeDesc → Option (AV × HP × Fo)
  | some (.map kt _) => dX2 P h F kt v m (toVal k)
  | _ => none
def dXs (h : HP) (F : List Nat) : Option AV → Option (AV × HP × Fo)
  | some v => some (v, h, ⟨F, [], []⟩)
  | none => none
def dXb (h : HP) (F : List Nat) : Option Value → Option Value → Option (AV × HP × Fo)
  | some v, _ => some (.v v, h, ⟨F, [], []⟩)
  | none, some v => some (.v v, h, ⟨F, [], []⟩)
  | none, none => none
noncomputable def dXc3 (h : HP) (F : List Nat) (id : Nat) (v : AV) : Option AO → Option (AV × HP × Fo)
  | some o => some (v, rSet h id o, ⟨F, [(id, o)], []⟩)
  | none => none
noncomputable def dXc2 (h : HP) (F : List Nat) (v : AV) (h' : HP) : AV → Option (AV × HP × Fo)
  | .sl id _ _ => dXc3 h F id v (rGet h' id)
  | _ => none
noncomputable def dXc1 (h : HP) (F : List Nat) (s : AV) : OR2 → Option (AV × HP × Fo)
  | some (v, h') => dXc2 h F v h' s
  | none => none
noncomputable def dXc (P : Program) (g : List AV) (h : HP) (F : List Nat) (ats : List TypeId) : List Operand → Option (AV × HP × Fo)
  | [s, x] => dXc1 h F (evF g s) (zCopy0 P h (evF g s) (evF g x) (nthO ats 0) (nthO ats 1))
  | _ => none
noncomputable def dX (P : Program) (g : List AV) (h : HP) : Op → Option (AV × HP × Fo)
  | .lookup t x i ok => dXs h (opIds g (.lookup t x i ok)) (xLook P h t (evF g x) (evF g i) ok)
  | .mapUpdate t m k x => dX1 P h (opIds g (.mapUpdate t m k x)) (evF g m) (evF g k) (evF g x) (P.underlying t)
  | .insert t m k x => dX1 P h (opIds g (.insert t m k x)) (evF g m) (evF g k) (evF g x) (P.underlying t)
  | .slice t x lo hi (some mx) => dXs h (opIds g (.slice t x lo hi (some mx))) (s3Do P h t (evF g x) (lo.map (evF g)) (hi.map (evF g)) (evF g mx))
  | .binOp op t x y u => dXb h (opIds g (.binOp op t x y u)) (xEq P op t (evF g x) (evF g y)) (xNil P op t (evF g x) (evF g y))
  | .call ⟨.builtin .copy, args, ats⟩ => dXc P g h (opIds g (.call ⟨.builtin .copy, args, ats⟩)) ats.toList args.toList
  | _ => none
section
variable {P : Program} {call : CT} {k N : Nat} {An : List (List Nat)}
theorem xLook_local {h h2 : HP} {t : TypeId} {x i : AV} {ok : Bool} (hs : ∀ id, x = .mp id → rGet h2 id = rGet h id) : xLook P h2 t x i ok = xLook P h t x i ok := by
  unfold xLook
  split
  · unfold xLook1
    split
    · split
      · rename_i id; rw [hs id rfl]
      · rfl
      · rfl
    · rfl
  · rfl
theorem opIds_mem {g : List AV} {op : Op} {x : Operand} (hx : x ∈ op.operands) {id : Nat} (h : id ∈ vid (ev g x)) : id ∈ opIds g op := by
  have : ∀ l : List Operand, x ∈ l → id ∈ idsOf g l := by
    intro l
    induction l with
    | nil => intro h; cases h
    | cons y l ih =>
      intro hm
      simp only [idsOf]
      rcases List.mem_cons.1 hm with rfl | hm
      · exact List.mem_append_left _ h
      · exact List.mem_append_right _ (ih hm)
  exact this _ (Array.mem_toList_iff.2 hx)
theorem zCopy_local {h h2 : HP} {t : TypeId} {s x v : AV} {h' : HP} (hs : ∀ id ∈ vid s, rGet h2 id = rGet h id) (hx : ∀ id ∈ vid x, rGet h2 id = rGet h id) (e : zCopy P h t s x = some (v, h')) :
    ∃ id a b o, s = .sl id a b ∧ h' = rSet h id o ∧ id < h.n ∧ zCopy P h2 t s x = some (v, rSet h2 id o) := by
  unfold zCopy at e ⊢
  split at e
  · rename_i ed _ _ _ hd
    cases he : ti P ed with
    | none => rw [he] at e; cases e
    | some te =>
      rw [he] at e
      simp only [zCopy2] at e
      split at e
      · rename_i id off len
        cases hg : rGet h id with
        | none => rw [hg] at e; cases e
        | some o =>
          have hlt := rGet_lt hg
          rw [hg] at e
          cases o <;> first | (cases e; done) | skip
          rename_i sz cs
          simp only [zCopy3] at e
          cases hn : lenA x with
          | none => rw [hn] at e; cases e
          | some n =>
            rw [hn] at e
            simp only [zCopy4] at e
            have hl : ∀ a b, oFirst h2 a b x = oFirst h a b x := fun a b => by
              cases x with
              | sl i2 o2 k2 => simp only [oFirst]; rw [hx i2 (by simp [vid])]
              | _ => rfl
            cases hf : oFirst h te.size (Nat.min n len) x with
            | none => rw [hf] at e; cases e
            | some new =>
              rw [hf] at e
              simp only [zCopy5] at e
              split at e
              · rename_i hc
                cases e
                refine ⟨id, off, len, _, rfl, rfl, hlt, ?_⟩
                simp only [zCopy2]
                rw [hs id (by simp [vid]), hg]
                simp only [zCopy3, hn, zCopy4, hl, hf, zCopy5]
                rw [if_pos hc]
              · cases e
      · cases e
  · cases e
theorem s3Do_local {h h2 : HP} {t : TypeId} {x mx : AV} {lo hi : Option AV} (hs : ∀ id a b, x = .sl id a b → rGet h2 id = rGet h id) : s3Do P h2 t x lo hi mx = s3Do P h t x lo hi mx := by
  have e : ∀ (n l u : Nat), s3Go h2 n x l u = s3Go h n x l u := fun n l u => by
    unfold s3Go
    cases x <;> first | rfl | skip
    rename_i id a b
    dsimp only
    rw [hs id a b rfl]
  unfold s3Do
  simp only [e]
theorem dX_ok [DSt] {g : List AV} {h : HP} (hk : h.ok) (hN : h.n = N) {op : Op} {v : AV} {h1 : HP} {f : Fo} (e : dX P g h op = some (v, h1, f)) : (h1.ok ∧ h1.n = N) ∧ LL P N op g h.L f v ∧ h1.L = apE f.E h.L := by
  subst hN
  have get : ∀ {H2 : List AO} {id : Nat}, H2[id]? = h.L[id]? → rGet (hpOf H2) id = rGet h id := fun {H2 id} q => by
    rw [rGet_eq (hpOf_ok _), rGet_eq hk, hpOf_L, q]
  unfold dX at e
  split at e
  · rename_i t x i ok
    rw [evF_eq, evF_eq] at e
    cases hx : xLook P h t (ev g x) (ev g i) ok with
    | none => rw [hx] at e; cases e
    | some v0 =>
      rw [hx] at e
      cases e
      refine ⟨⟨hk, rfl⟩, LL_sem _ [] fun H2 g' hl hF hops => ?_, rfl⟩
      have h1 : xop P g' (hpOf H2) (.lookup t x i ok) = some (v, hpOf H2) := by
        simp only [xop, evF_eq]
        rw [hops x (by simp [Op.operands]), hops i (by simp [Op.operands]), xLook_local (h := h) fun id hid => get (hF id (opIds_mem (x := x) (by simp [Op.operands]) (by rw [hid]; simp [vid]))), hx]
        rfl
      have := (xop_ok (hpOf_ok H2) _ h1).2
      rw [hpOf_L] at this
      exact this
  · rename_i t m k x
    simp only [evF_eq] at e
    cases ht : P.underlying t with
    | none => rw [ht] at e; cases e
    | some d =>
      rw [ht] at e
      cases d <;> first | (cases e; done) | skip
      rename_i kt et
      simp only [dX1] at e
      generalize hm : ev g m = mv at e
      generalize hkv : toVal (ev g k) = kv at e
      unfold dX2 at e
      split at e
      · rename_i id i
        cases hu : xUpd3 P kt i (ev g x) (rGet h id) with
        | none => rw [hu] at e; cases e
        | some o =>
          rw [hu] at e
          cases e
          have hlt : id < h.n := by
            cases hg : rGet h id with
            | none => rw [hg] at hu; cases hu
            | some o => exact rGet_lt hg
          refine ⟨⟨rSet_ok hk _ _, rfl⟩, LL_sem _ _ fun H2 g' hl hF hops => ?_, rSet_eq hk hlt _⟩
          have h1 : xop P g' (hpOf H2) (.mapUpdate t m k x) = some (.v undef, rSet (hpOf H2) id o) := by
            simp only [xop, evF_eq, xUpd, ht]
            rw [hops m (by simp [Op.operands]), hops k (by simp [Op.operands]), hops x (by simp [Op.operands]), hm, hkv]
            simp only [xUpd2]
            rw [get (hF id (opIds_mem (x := m) (by simp [Op.operands]) (by rw [hm]; simp [vid]))), hu]
            rfl
          have := (xop_ok (hpOf_ok H2) _ h1).2
          rw [hpOf_L, rSet_eq (hpOf_ok H2) (by show id < H2.length; omega), hpOf_L] at this
          exact this
      · cases e
  · rename_i t m k x
    simp only [evF_eq] at e
    cases ht : P.underlying t with
    | none => rw [ht] at e; cases e
    | some d =>
      rw [ht] at e
      cases d <;> first | (cases e; done) | skip
      rename_i kt et
      simp only [dX1] at e
      generalize hm : ev g m = mv at e
      generalize hkv : toVal (ev g k) = kv at e
      unfold dX2 at e
      split at e
      · rename_i id i
        cases hu : xUpd3 P kt i (ev g x) (rGet h id) with
        | none => rw [hu] at e; cases e
        | some o =>
          rw [hu] at e
          cases e
          have hlt : id < h.n := by
            cases hg : rGet h id with
            | none => rw [hg] at hu; cases hu
            | some o => exact rGet_lt hg
          refine ⟨⟨rSet_ok hk _ _, rfl⟩, LL_sem _ _ fun H2 g' hl hF hops => ?_, rSet_eq hk hlt _⟩
          have h1 : xop P g' (hpOf H2) (.insert t m k x) = some (.v undef, rSet (hpOf H2) id o) := by
            simp only [xop, evF_eq, xUpd, ht]
            rw [hops m (by simp [Op.operands]), hops k (by simp [Op.operands]), hops x (by simp [Op.operands]), hm, hkv]
            simp only [xUpd2]
            rw [get (hF id (opIds_mem (x := m) (by simp [Op.operands]) (by rw [hm]; simp [vid]))), hu]
            rfl
          have := (xop_ok (hpOf_ok H2) _ h1).2
          rw [hpOf_L, rSet_eq (hpOf_ok H2) (by show id < H2.length; omega), hpOf_L] at this
          exact this
      · cases e
  · rename_i t x lo hi mx
    simp only [evF_eq] at e
    have em : (lo.map (evF g)) = lo.map (ev g) := by cases lo <;> simp [evF_eq]
    have em2 : (hi.map (evF g)) = hi.map (ev g) := by cases hi <;> simp [evF_eq]
    rw [em, em2] at e
    cases hx : s3Do P h t (ev g x) (lo.map (ev g)) (hi.map (ev g)) (ev g mx) with
    | none => rw [hx] at e; cases e
    | some v0 =>
      rw [hx] at e
      cases e
      refine ⟨⟨hk, rfl⟩, LL_sem _ [] fun H2 g' hl hF hops => ?_, rfl⟩
      have h1 : s3Op P g' (hpOf H2) (.slice t x lo hi (some mx)) = some (v, hpOf H2) := by
        have e1 : lo.map (evF g') = lo.map (ev g) := by
          cases lo with
          | none => rfl
          | some y => simp only [Option.map_some, evF_eq]; rw [hops y (by simp [Op.operands])]
        have e2 : hi.map (evF g') = hi.map (ev g) := by
          cases hi with
          | none => rfl
          | some y => simp only [Option.map_some, evF_eq]; rw [hops y (by simp [Op.operands])]
        simp only [s3Op, evF_eq]
        rw [e1, e2, hops x (by simp [Op.operands]), hops mx (by simp [Op.operands]), s3Do_local (h := h) fun id a b hid => get (hF id (opIds_mem (x := x) (by simp [Op.operands]) (by rw [hid]; simp [vid]))), hx]
      have := (s3Op_ok (hpOf_ok H2) _ h1).2
      rw [hpOf_L] at this
      exact this
  · rename_i bop t x y u
    rw [evF_eq, evF_eq] at e
    cases hx : xEq P bop t (ev g x) (ev g y) with
    | some v0 =>
      rw [hx] at e
      cases e
      refine ⟨⟨hk, rfl⟩, LL_sem _ [] fun H2 g' hl hF hops => ?_, rfl⟩
      have h1 : xop P g' (hpOf H2) (.binOp bop t x y u) = some (.v v0, hpOf H2) := by
        simp only [xop, evF_eq]
        rw [hops x (by simp [Op.operands]), hops y (by simp [Op.operands]), hx]
        rfl
      have := (xop_ok (hpOf_ok H2) _ h1).2
      rw [hpOf_L] at this
      exact this
    | none =>
      rw [hx] at e
      cases hn : xNil P bop t (ev g x) (ev g y) with
      | none => rw [hn] at e; cases e
      | some v0 =>
        rw [hn] at e
        cases e
        refine ⟨⟨hk, rfl⟩, LL_sem _ [] fun H2 g' hl hF hops I m w a o ho hr hxv => ?_, rfl⟩
        have hxx := hxv x (by simp [Op.operands])
        have hyy := hxv y (by simp [Op.operands])
        rw [hops x (by simp [Op.operands])] at hxx
        rw [hops y (by simp [Op.operands])] at hyy
        have h1 := xNil_ok (P := P) hn hxx hyy x y
        refine OpS.of_sok (SOK.same hr h1 (by simp only [VR])) ?_
        simp [execOp, ho]
  · rename_i args ats
    unfold dXc at e
    split at e
    · rename_i s x ha
      obtain rfl := arr2 ha
      rw [evF_eq, evF_eq] at e
      cases hz : zCopy0 P h (ev g s) (ev g x) (nthO ats.toList 0) (nthO ats.toList 1) with
      | none => rw [hz] at e; cases e
      | some vh =>
        obtain ⟨v0, h0⟩ := vh
        rw [hz] at e
        simp only [dXc1] at e
        have hz' := hz
        unfold zCopy0 at hz'
        split at hz'
        · rename_i t u ht hu
          have loc : ∀ {h2 : HP}, (∀ id ∈ opIds g (.call ⟨.builtin .copy, #[s, x], ats⟩), rGet h2 id = rGet h id) → ∃ id a b o, ev g s = .sl id a b ∧ h0 = rSet h id o ∧ id < h.n ∧ zCopy P h2 t (ev g s) (ev g x) = some (v0, rSet h2 id o) := fun {h2} q =>
            zCopy_local (fun id hid => q id (opIds_mem (x := s) (by simp [Op.operands, Call.operands]) hid)) (fun id hid => q id (opIds_mem (x := x) (by simp [Op.operands, Call.operands]) hid)) hz'
          obtain ⟨id, a, b, o, e1, e2, e3, _⟩ := loc (h2 := h) fun _ _ => rfl
          rw [e1] at e
          simp only [dXc2] at e
          have e4 : rGet h0 id = some o := by
            rw [e2, rGet_eq (rSet_ok hk _ _), rSet_eq hk e3]
            simp [HP.len hk, e3]
          rw [e4] at e
          cases e
          refine ⟨⟨rSet_ok hk _ _, rfl⟩, LL_sem _ _ fun H2 g' hl hF hops => ?_, rSet_eq hk e3 _⟩
          obtain ⟨id2, a2, b2, o2, f1, f2, f3, f4⟩ := loc (h2 := hpOf H2) fun i hi => get (hF i hi)
          rw [e1] at f1
          cases f1
          have ho : o2 = o := by
            have q1 : rGet h0 id = some o2 := by
              rw [f2, rGet_eq (rSet_ok hk _ _), rSet_eq hk e3]
              simp [HP.len hk, e3]
            rw [e4] at q1
            cases q1
            rfl
          subst ho
          have h1 : wop P g' (hpOf H2) (.call ⟨.builtin .copy, #[s, x], ats⟩) = some (v, rSet (hpOf H2) id o2) := by
            simp only [wop, zBuiltin, evF_eq]
            rw [hops s (by simp [Op.operands, Call.operands]), hops x (by simp [Op.operands, Call.operands]), ht, hu]
            exact f4
          have := (wop_ok (hpOf_ok H2) _ h1).2
          rw [hpOf_L, rSet_eq (hpOf_ok H2) (by show id < H2.length; omega), hpOf_L] at this
          exact this
        · cases hz'
    · cases e
  · cases e
end
end Go.Abs
namespace Go.Abs
open Go
section
variable {P : Program} {I : Nat → Prop} {m : List Loc} {H : List AO} {w : World}
theorem HR.unfx (hr : HR I m H w) {id sz : Nat} {cs : List AV} {r : Option Nat} (hid : H[id]? = some (.fx sz cs r)) : HR I m (H.set id (.cells sz cs)) w := by
  have hlt : id < m.length := by rw [hr.len]; exact (List.getElem?_eq_some_iff.1 hid).1
  have hm : m[id]? = some m[id] := List.getElem?_eq_getElem hlt
  have hob := hr.ob id _ _ hid hm
  simp only [OR] at hob
  by_cases hc : m[id].cap = 0
  · refine (hr.set (w' := w) hid rfl hm rfl (fun _ _ => rfl) rfl rfl rfl ?_).1
    simp only [OR]
    exact hob.1
  · refine (hr.set (w' := w) hid rfl hm rfl (fun _ _ => rfl) rfl rfl rfl ?_).1
    simp only [OR]
    exact hob.1
structure ApI (P : Program) (H : List AO) (t u ed : TypeId) (te : TI) (x : AV) (n : Nat) (new : List AV) : Prop where
  sl : ∃ a b z, ti P t = some ⟨.slice ed, a, b, z⟩
  el : ti P ed = some te
  ar : ∃ dd a b z, ti P u = some ⟨dd, a, b, z⟩ ∧ isIntD dd = false
  one : te.size = 1
  len : lenA x = some n
  fst : firstA H 1 n x = some new
  all : new.all (·.one) = true
  nl : new.length = n
theorem OpSem.appendFull {g : List AV} {s x : Operand} {t u ed : TypeId} {te : TI} {n id len : Nat} {new cs : List AV} (h : ApI P H t u ed te (ev g x) n new) (hs : ev g s = .sl id 0 len) (hid : H[id]? = some (.fx 1 cs none)) (hcl : cs.length = len) (hcone : cs.all (·.one) = true) (h0 : n ≠ 0) (hb : (len + n) * te.bytes ≤ 140737488355328) (h63 : len + n ≤ 9223372036854775807) :
    OpSem P g H (.call ⟨.builtin .append, #[s, x], #[t, u]⟩) (.sl H.length 0 (len + n)) (H ++ [.cells 1 (cs ++ new)]) := fun I m w ac o hop hr hx => by
  obtain ⟨⟨d1, d2, d3, hd⟩, hte, ⟨dd, e1, e2, e3, hu, hz⟩, hs1, hlen, hfst, hone, hnl⟩ := h
  have hpa := hx s (by simp [Op.operands, Call.operands])
  have hpb := hx x (by simp [Op.operands, Call.operands])
  rw [hs] at hpa
  have hpa0 := hpa
  simp only [VR] at hpa
  obtain ⟨L, A, c, hlk, hcap, hlc, hA, hval⟩ := hpa
  have hm := (lk_get hlk).1
  have hob := hr.ob id _ _ hid hm
  simp only [OR, roomOK] at hob
  obtain ⟨⟨q1, q2, q3⟩, q4⟩ := hob
  rw [q1, Nat.mul_one, Nat.zero_add] at hcap
  have hcc : c = len := by omega
  have hl := lenA_any (P := P) hlen hpb
  have hf := firstA_any (P := P) hr hfst hpb
  have hdeg := hr.unfx hid
  have hlt : id < H.length := (List.getElem?_eq_some_iff.1 hid).1
  have holds : firstA (H.set id (.cells 1 cs)) 1 len (.sl id 0 len) = some cs := by
    simp only [firstA, List.getElem?_set_self hlt]
    rw [if_pos ⟨trivial, Nat.le_refl _, by omega⟩]
    simp only [List.drop_zero]
    rw [List.take_of_length_le (by omega)]
  rw [hval] at hpa0
  obtain ⟨k, w', arr, rest, xs, h1, h2, h3, h4, h5, h6, h7, h8, h9⟩ := append_new (P := P) (I := I) (m := m) (w := w) (ty := o.type) (A := A) (sLen := len) (sCap := c) (olds := cs) (news := new) hd rfl hu hz hte hl (by omega) hb h63 (fun w' hw' => by rw [hs1]; exact firstA_any hdeg holds hpa0 w' hw') (by rw [hs1]; exact hf) (by rw [hs1]; omega) (by rw [hs1, Nat.mul_one]; exact hnl)
  have hall2 : (cs ++ new).all (·.one) = true := by rw [List.all_append, hcone, hone]; rfl
  obtain ⟨h10, h11⟩ := hr.newCells 1 h9 hall2 h7 (fz := (0, 0)) (by intro j _ h; simp at h) h3 h4 h5 h6
  have hsok : SOK P I m H w (Builtin.append_ #[t, u] o.type #[.slice A len c, ac.eval x]) (.sl H.length 0 (len + n)) (H ++ [.cells 1 (cs ++ new)]) := by
    refine ⟨_, w', _, h1, ?_, h10, h11⟩
    simp only [VR]
    exact ⟨_, _, k, by rw [← hr.len]; exact last_lk _ (by simp), by simp [h8, hs1], h2, .inr rfl, rfl⟩
  rw [← hval] at hsok
  exact OpS.of_sok hsok (by simp [execOp, hop, resolve, invoke, builtin])
theorem OpSem.appendIn {g : List AV} {s x : Operand} {t u ed : TypeId} {te : TI} {n id len : Nat} {new cs : List AV} (h : ApI P H t u ed te (ev g x) n new) (hs : ev g s = .sl id 0 len)
    (hid : (∃ r, H[id]? = some (.fx 1 cs (some r)) ∧ n ≤ r ∧ cs.length = len) ∨ (H[id]? = some (.cells 1 cs) ∧ len + n ≤ cs.length)) (h0 : n ≠ 0) :
    OpSem P g H (.call ⟨.builtin .append, #[s, x], #[t, u]⟩) (.sl id 0 (len + n)) (H.set id (.cells 1 (cs.take len ++ new ++ cs.drop (len + n)))) := fun I m w ac o hop hr hx => by
  obtain ⟨⟨d1, d2, d3, hd⟩, hte, ⟨dd, e1, e2, e3, hu, hz⟩, hs1, hlen, hfst, hone, hnl⟩ := h
  have hpa := hx s (by simp [Op.operands, Call.operands])
  have hpb := hx x (by simp [Op.operands, Call.operands])
  rw [hs] at hpa
  simp only [VR] at hpa
  obtain ⟨L, A, c, hlk, hcap, hlc, hA, hval⟩ := hpa
  have hm := (lk_get hlk).1
  have hl := lenA_any (P := P) hlen hpb
  have hf := firstA_any (P := P) hr hfst hpb
  have hu1 := run_underlying' (w := w) hu
  have core : ∃ o0, H[id]? = some o0 ∧ o0.alive = true ∧ L.sz = 1 ∧ len + n ≤ L.cap ∧ len ≤ cs.length ∧ cs.length ≤ L.cap ∧ (L.cap ≠ 0 → ∃ c E fz, w.heap[L.b]? = some (.cells c E fz) ∧ (∀ j, fz.1 ≤ j → j < fz.2 → c.size ≤ j) ∧ L.o + L.cap ≤ c.size ∧ ∀ (i : Nat) x, cs[i]? = some x → ∃ y, c[L.o + i]? = some y ∧ VR I m w x y ∧ x.one = true) := by
    rcases hid with ⟨r, h1, h2, h3⟩ | ⟨h1, h2⟩
    · have hob := hr.ob id _ _ h1 hm
      simp only [OR, roomOK] at hob
      obtain ⟨⟨q1, q2, q3⟩, q4⟩ := hob
      exact ⟨_, h1, rfl, q1, by omega, by omega, q2, q3⟩
    · have hob := hr.ob id _ _ h1 hm
      simp only [OR] at hob
      obtain ⟨q1, q2, q3⟩ := hob
      exact ⟨_, h1, rfl, q1, by omega, by omega, q2, q3⟩
  obtain ⟨o0, ho0, hal, q1, q2, q2', q2'', q3⟩ := core
  rw [q1, Nat.mul_one, Nat.zero_add] at hcap
  have hc0 : c ≠ 0 := by omega
  have hcap0 : L.cap ≠ 0 := by omega
  have hA' := hA.resolve_left hc0
  rw [Nat.add_zero] at hA'
  subst hA'
  obtain ⟨ce, E, fz, r1, r2, r3, r4⟩ := q3 hcap0
  obtain ⟨zs, hz1, hz2⟩ := hf w rfl
  have hzl := hz2.len
  have hroom : len + n ≤ c := by omega
  obtain ⟨cur', w', h4, h5, h6, h7, h8, h9, h10, h11, h12⟩ := run_storeCells' P L.b (L.o + len) zs.toList 0 ce w r1 r2 (by rw [hzl, hnl]; omega) (hz2.one hone)
  have hgo := hr.set (w' := w') (o' := .cells 1 (cs.take len ++ new ++ cs.drop (len + n))) ho0 hal hm h5 (fun b hb => h8 b (hb hcap0)) h9 h10 h11 (by
    simp only [OR]
    refine ⟨q1, by simp only [List.length_append, List.length_take, List.length_drop]; omega, fun _ => ⟨cur', E, fz, h6, by rw [h7]; exact r2, by omega, fun k v hv => ?_⟩⟩
    have mono : ∀ v y, VR I m w v y → VR I m w' v y := fun v y h => by
      have := VR.mono (nu := []) (I' := I) (w' := w') (fun _ h => h) (fun b hb => h8 b fun e => hr.imm b hb ⟨id, _, L, ho0, hal, hm, hcap0, e.symm⟩) v y h
      simpa using this
    have hget : cur'[L.o + k]? = cur'.toList[L.o + k]? := by simp
    have hcel : ce.toList.length = ce.size := Array.length_toList
    rw [hget, h12, hzl]
    simp only [List.append_assoc, List.getElem?_append, List.length_take, hcel, List.getElem?_take, List.getElem?_drop, Nat.add_zero] at hv ⊢
    have hmin : min len cs.length = len := by omega
    have hmin2 : min (L.o + len) ce.size = L.o + len := by omega
    rw [hmin] at hv
    rw [hmin2]
    by_cases hk : k < len
    · rw [if_pos hk, if_pos hk] at hv
      rw [if_pos (by omega), if_pos (by omega)]
      obtain ⟨y, s1, s2, s3⟩ := r4 _ v hv
      exact ⟨y, by simpa using s1, mono v y s2, s3⟩
    · rw [if_neg hk] at hv
      rw [if_neg (by omega)]
      by_cases hk2 : k - len < new.length
      · rw [if_pos hk2] at hv
        rw [show L.o + k - (L.o + len) = k - len by omega, if_pos (by rw [hzl]; exact hk2)]
        obtain ⟨y, s1, s2⟩ := hz2.get _ v hv
        exact ⟨y, s1, mono v y s2, List.all_eq_true.1 hone v (List.mem_of_getElem? hv)⟩
      · rw [if_neg hk2] at hv
        rw [show L.o + k - (L.o + len) = k - len by omega, if_neg (by rw [hzl]; exact hk2)]
        obtain ⟨y, s1, s2, s3⟩ := r4 _ v hv
        refine ⟨y, ?_, mono v y s2, s3⟩
        rw [← Array.getElem?_toList] at s1
        rw [← s1]
        congr 1
        omega)
  have hsok : SOK P I m H w (Builtin.append_ #[t, u] o.type #[.slice (some ⟨L.b, L.o, none⟩) len c, ac.eval x]) (.sl id 0 (len + n)) (H.set id (.cells 1 (cs.take len ++ new ++ cs.drop (len + n)))) := by
    refine ⟨.slice (some ⟨L.b, L.o, none⟩) (len + n) c, w', m, ?_, ?_, hgo.1, hgo.2⟩
    · cases dd <;> first
        | (simp [isIntD] at hz; done)
        | (simp only [Builtin.append_, List.getElem?_toArray, List.getElem?_cons_zero, List.getElem?_cons_succ, Sem.run_bind, run_underlying' hd, Result.andThen_ok, run_sizeOf' hte, hu1, Sem.run_pure, hl, Sem.run_ite, Bool.false_eq_true, if_false, hroom, if_true, Bool.not_false, hs1, hz1, Nat.mul_one, add_none, h4])
    · simp only [VR]
      exact ⟨L, _, c, hlk, by rw [q1]; omega, hroom, .inr rfl, rfl⟩
  rw [← hval] at hsok
  exact OpS.of_sok hsok (by simp [execOp, hop, resolve, invoke, builtin])
end
theorem BW_room [DSt] {P : Program} {k : Nat} {c : Code} {Q : Exit → List AV → List AO → Prop} {g : List AV} {H : List AO} (tmp : Nat) {id len : Nat} {cs : List AV} (hg : g[tmp]? = some (.sl id 0 len)) (hid : H[id]? = some (.cells 1 cs)) (hcl : cs.length = len)
    (h1 : BW P k c Q g (H.set id (.fx 1 cs none))) (h2 : BW P k c Q g (H.set id (.fx 1 cs (some 1)))) : BW P k c Q g H := by
  intro I m a w hr hv hdf
  have hlt : id < m.length := by rw [hr.len]; exact (List.getElem?_eq_some_iff.1 hid).1
  have hm : m[id]? = some m[id] := List.getElem?_eq_getElem hlt
  have hob := hr.ob id _ _ hid hm
  obtain ⟨y, hy, hvr⟩ := hv.get tmp _ hg
  simp only [VR] at hvr
  obtain ⟨L, A, cp, hlk, hcap, hlc, _⟩ := hvr
  have hL : L = m[id] := by
    have := (lk_get hlk).1
    rw [hm] at this
    exact (Option.some.inj this).symm
  subst hL
  have hs1 : m[id].sz = 1 := by simp only [OR] at hob; exact hob.1
  rw [hs1, Nat.mul_one, Nat.zero_add] at hcap
  have own : ∀ (r : Option Nat) (b : Nat), Own (H.set id (.fx 1 cs r)) m b → Own H m b := fun r b ⟨j, oj, Lj, q1, q2, q3⟩ => by
    by_cases hj : j = id
    · subst hj
      exact ⟨_, _, Lj, hid, rfl, q3⟩
    · rw [List.getElem?_set_ne (Ne.symm hj)] at q1
      exact ⟨j, oj, Lj, q1, q2, q3⟩
  have go : ∀ r : Option Nat, roomOK r cs.length m[id].cap → BW P k c Q g (H.set id (.fx 1 cs r)) → WPA P c (fun e a' w' => ∃ g' H' I' m', Q e g' H' ∧ HR I' m' H' w' ∧ VRs I' m' w' g' a'.tmps.toList ∧ a'.defers = DSt.l ∧ Ex I (Own H m) w I' (Own H' m') w' ∧ Kp k m m') a w := fun r hroom hb => by
    have hr2 := (hr.set (w' := w) (o' := .fx 1 cs r) hid rfl hm rfl (fun _ _ => rfl) rfl rfl rfl (by
      simp only [OR] at hob ⊢
      exact ⟨hob, hroom⟩)).1
    refine wp_mono (hb I m a w hr2 hv hdf) ?_
    rintro e a' w' ⟨g', H', I', m', k1, k2, k3, k4, k5, k6⟩
    refine ⟨g', H', I', m', k1, k2, k3, k4, ⟨k5.os, k5.tape, k5.output, k5.size, fun b hb hn => k5.blk b hb fun q => hn (own r b q), k5.imm, fun b hb => (k5.ow b hb).imp (own r b) _root_.id, fun b hb => ?_⟩, k6⟩
    rcases k5.inew b hb with q | q | q
    · exact .inl q
    · exact .inr (.inl (own r b q))
    · exact .inr (.inr q)
  by_cases hc : cp = len
  · exact go none (by simp only [roomOK]; omega) h1
  · exact go (some 1) (by simp only [roomOK]; omega) h2
end Go.Abs
namespace Go.Abs
open Go
theorem LL_semNew [DSt] {P : Program} {N : Nat} {g : List AV} {H : List AO} {op : Op} {v : AV} {ob : AO} {s : Nat} (F : List Nat) (hs : H[s]? = some .dead)
    (h : ∀ (H2 : List AO) (g' : List AV), H2.length = N → (∀ id ∈ F, H2[id]? = H[id]?) → (∀ x ∈ op.operands, ev g' x = ev g x) → OpSem P g' H2 op v (H2 ++ [ob])) :
    LL P N op g H ⟨s :: F, [(s, ob.ren (mv N [s]))], [s]⟩ (v.ren (mv N [s])) := by
  intro H2 g' hl hF hops I m a w o Q ho hr hg hd hv
  have h1 := h H2 g' hl (fun id hid => hF id (List.mem_cons_of_mem _ hid)) hops
  have hs2 : H2[s]? = some .dead := by rw [hF s (List.mem_cons_self ..)]; exact hs
  have hslt : s < H2.length := (List.getElem?_eq_some_iff.1 hs2).1
  refine osem_wp' h1 ho hr hg fun y w' m' k1 k2 k3 => ?_
  obtain ⟨nu, rfl⟩ := k3.pre
  have hmv := HR.move (E := []) (Hn := [ob]) (slots := [s]) hr (by simpa [apE] using k2) (by simpa [apE] using k3.ex) rfl (by simp) (fun t ht => by
    rw [List.mem_singleton] at ht; subst ht
    exact ⟨hslt, hv t (List.mem_singleton_self _), by simp⟩)
  obtain ⟨L, rfl⟩ := nu_one hr k2 (by simp)
  simp only [List.map_nil, List.nil_append, List.map_cons, List.zip_cons_cons, List.zip_nil_right, hl] at hmv
  obtain ⟨q1, q2, q3, q4⟩ := hmv
  refine ⟨I, _, q1, ?_, put_defers hd, q4, fun id hid => ?_⟩
  · exact put_ok (VRs.le q3 (fun _ h => h) (fun b hb => k3.blk b (hr.ilt b hb) (hr.imm b hb)) hg) o.dst (VR.ren q2 v y k1)
  · exact setAll_other _ _ _ hid
structure RmP where
  n : Nat
  new : List AV
  bytes : Nat
noncomputable def rmPre (P : Program) (H : List AO) (t u : TypeId) (x : AV) : Option RmP := match ti P t, ti P u with
  | some ⟨.slice ed, _, _, _⟩, some ⟨dd, _, _, _⟩ => match ti P ed, lenA x with
    | some te, some n => match firstA H 1 n x with
      | some new => if isIntD dd = false ∧ te.size = 1 ∧ n ≠ 0 ∧ new.all (·.one) = true ∧ new.length = n then some ⟨n, new, te.bytes⟩ else none
      | none => none
    | _, _ => none
  | _, _ => none
def rmRow (cs new : List AV) (len n : Nat) : AO := .cells 1 (cs.take len ++ new ++ cs.drop (len + n))
noncomputable def rmX (P : Program) (H : List AO) (t u : TypeId) (s x : AV) : Option (AV × AX) := match s with
  | .sl id 0 len => match rmPre P H t u x with
    | some p => match H[id]? with
      | some (.fx 1 cs none) => if cs.length = len ∧ cs.all (·.one) = true ∧ (len + p.n) * p.bytes ≤ 140737488355328 ∧ len + p.n ≤ 9223372036854775807 then some (.sl H.length 0 (len + p.n), .new (.cells 1 (cs ++ p.new))) else none
      | some (.fx 1 cs (some r)) => if p.n ≤ r ∧ cs.length = len then some (.sl id 0 (len + p.n), .set id (rmRow cs p.new len p.n)) else none
      | some (.cells 1 cs) => if len + p.n ≤ cs.length then some (.sl id 0 (len + p.n), .set id (rmRow cs p.new len p.n)) else none
      | _ => none
    | none => none
  | _ => none
theorem rmX_sem {P : Program} {g : List AV} {H : List AO} {t u : TypeId} {s x : Operand} {v : AV} {ax : AX} (e : rmX P H t u (ev g s) (ev g x) = some (v, ax)) : OpSem P g H (.call ⟨.builtin .append, #[s, x], #[t, u]⟩) v (ax.to H) := by
  unfold rmX at e
  split at e
  case h_2 => cases e
  rename_i id len hs
  cases hp : rmPre P H t u (ev g x) with
  | none => rw [hp] at e; cases e
  | some p =>
    rw [hp] at e
    have key : ∃ ed te, ApI P H t u ed te (ev g x) p.n p.new ∧ p.n ≠ 0 ∧ p.bytes = te.bytes := by
      unfold rmPre at hp
      split at hp
      case h_2 => cases hp
      rename_i ed a1 a2 a3 dd b1 b2 b3 h1 h2
      split at hp
      case h_2 => cases hp
      rename_i te n h3 h4
      split at hp
      case h_2 => cases hp
      rename_i new h5
      split at hp
      case isFalse => cases hp
      rename_i hc
      injection hp with hp
      subst hp
      exact ⟨ed, te, ⟨⟨_, _, _, h1⟩, h3, ⟨_, _, _, _, h2, hc.1⟩, hc.2.1, h4, h5, hc.2.2.2.1, hc.2.2.2.2⟩, hc.2.2.1, rfl⟩
    obtain ⟨ed, te, hA, hn0, hby⟩ := key
    dsimp only at e
    split at e
    · rename_i cs ho
      split at e
      case isFalse => cases e
      rename_i hc
      cases e
      simp only [AX.to]
      exact OpSem.appendFull hA hs ho hc.1 hc.2.1 hn0 (by rw [← hby]; exact hc.2.2.1) hc.2.2.2
    · rename_i cs r ho
      split at e
      case isFalse => cases e
      rename_i hc
      cases e
      simp only [AX.to]
      exact OpSem.appendIn hA hs (.inl ⟨r, ho, hc.1, hc.2⟩) hn0
    · rename_i cs ho
      split at e
      case isFalse => cases e
      rename_i hc
      cases e
      simp only [AX.to]
      exact OpSem.appendIn hA hs (.inr ⟨ho, hc⟩) hn0
    · cases e
theorem rmX_local {P : Program} {H H2 : List AO} {t u : TypeId} {s x : AV} (hl : H2.length = H.length) (h1 : ∀ id ∈ vid s, H2[id]? = H[id]?) (h2 : ∀ id ∈ vid x, H2[id]? = H[id]?) : rmX P H2 t u s x = rmX P H t u s x := by
  have hp : rmPre P H2 t u x = rmPre P H t u x := by
    unfold rmPre
    simp only [firstA_local h2]
  unfold rmX
  rw [hp]
  split
  · rename_i id len
    rw [h1 id (by simp [vid]), hl]
  · rfl
noncomputable def dR2 (P : Program) (g : List AV) (h : HP) (s : Nat) (F : List Nat) : List Operand → List TypeId → Option (AV × HP × Fo)
  | [a, x], [t, u] => dRes h h.n s F (rmX P h.L t u (evF g a) (evF g x))
  | _, _ => none
noncomputable def dR (P : Program) (g : List AV) (h : HP) (s : Nat) : Op → Option (AV × HP × Fo)
  | .call ⟨.builtin .append, args, ats⟩ => dR2 P g h s (opIds g (.call ⟨.builtin .append, args, ats⟩)) args.toList ats.toList
  | _ => none
theorem dR_ok [DSt] {P : Program} {N : Nat} {g : List AV} {h : HP} (hk : h.ok) (hN : h.n = N) {s : Nat} {op : Op} {v : AV} {h1 : HP} {f : Fo} (e : dR P g h s op = some (v, h1, f)) : (h1.ok ∧ h1.n = N) ∧ LL P N op g h.L f v ∧ h1.L = apE f.E h.L := by
  subst hN
  unfold dR at e
  split at e
  case h_2 => cases e
  rename_i args ats
  generalize hF : opIds g (.call ⟨.builtin .append, args, ats⟩) = F at e
  unfold dR2 at e
  split at e
  case h_2 => cases e
  rename_i a x t u ha ht
  have ha : args = #[a, x] := by apply Array.toList_inj.1; rw [ha]
  have ht : ats = #[t, u] := by apply Array.toList_inj.1; rw [ht]
  subst ha; subst ht
  simp only [evF_eq] at e
  have hma : a ∈ (Op.call ⟨.builtin .append, #[a, x], #[t, u]⟩).operands := by simp [Op.operands, Call.operands]
  have hmx : x ∈ (Op.call ⟨.builtin .append, #[a, x], #[t, u]⟩).operands := by simp [Op.operands, Call.operands]
  cases hx : rmX P h.L t u (ev g a) (ev g x) with
  | none => rw [hx] at e; cases e
  | some r =>
    obtain ⟨v0, ax⟩ := r
    rw [hx] at e
    have sem : ∀ (H2 : List AO) (g' : List AV), H2.length = h.n → (∀ id ∈ F, H2[id]? = h.L[id]?) → (∀ y ∈ (Op.call ⟨.builtin .append, #[a, x], #[t, u]⟩).operands, ev g' y = ev g y) → OpSem P g' H2 (.call ⟨.builtin .append, #[a, x], #[t, u]⟩) v0 (ax.to H2) := fun H2 g' hl hF2 hops => by
      refine rmX_sem ?_
      rw [hops a hma, hops x hmx, rmX_local (H := h.L) (by rw [hl, HP.len hk]) (fun id hid => hF2 id (by rw [← hF]; exact opIds_mem hma hid)) (fun id hid => hF2 id (by rw [← hF]; exact opIds_mem hmx hid))]
      exact hx
    have hkeep := dRes_keep hk e
    refine ⟨hkeep, ?_⟩
    unfold dRes at e
    split at e
    · rename_i v1 hh
      injection hh with hh; injection hh with hh1 hh2
      subst hh1; subst hh2
      cases e
      exact ⟨LL_sem _ [] sem, rfl⟩
    · rename_i v1 id o hh
      injection hh with hh; injection hh with hh1 hh2
      subst hh1; subst hh2
      split at e
      case h_2 => cases e
      rename_i hb
      cases e
      exact ⟨LL_sem _ _ sem, rSet_eq hk (by rwa [Nat.blt_eq] at hb) _⟩
    · rename_i v1 o hh
      injection hh with hh; injection hh with hh1 hh2
      subst hh1; subst hh2
      split at e
      case h_2 => cases e
      rename_i hg
      have hlt := rGet_lt hg
      rw [rGet_eq hk] at hg
      cases e
      exact ⟨LL_semNew _ hg sem, rSet_eq hk hlt _⟩
    · rename_i v1 id o hh
      injection hh with hh; injection hh with hh1 hh2
      subst hh2
      exfalso
      unfold rmX at hx
      split at hx
      case h_2 => cases hx
      split at hx
      case h_2 => cases hx
      split at hx <;> first | (cases hx; done) | (split at hx <;> cases hx)
    · cases e
end Go.Abs
