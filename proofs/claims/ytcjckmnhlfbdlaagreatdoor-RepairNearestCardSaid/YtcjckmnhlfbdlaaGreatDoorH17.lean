/- Part 17 of the texts that lead to repairNearestCard_holds. No condition. -/
import Derived.Laws.Externs
import Derived.Lib.Builder
import Derived.Test.YtcjckmnhlfbdlaaGreatDoorH13
import Derived.Test.YtcjckmnhlfbdlaaGreatDoorH15
import Derived.Test.YtcjckmnhlfbdlaaGreatDoorH16
set_option linter.all false
namespace Go.Abs
open Go
section
variable {P : Program} {H : List AO} {g : List AV}
theorem OpSem.toUnsafe {x : Operand} {src dst t : TypeId} {j : TypeInfo} {id : Nat} {T : TypeId} {cs : List AV} (hs : P.underlying src = some (.pointer t)) (hd : P.underlying dst = some .unsafePointer) (ht : P.info? t = some j) (hj : j.size ≠ 0) (hx : ev g x = .pt id 0) (hid : H[id]? = some (.tc T cs)) : OpSem P g H (.convert src dst x) (.pt id 0) H := fun I m w ac o hop hr hv => by
 have hpa := hv x (by simp [Op.operands])
 rw [hx] at hpa
 obtain ⟨L, c, hm, q1, q2, q3, q4, q5, q6, q7, qb, q8⟩ := tcOR hr hid hpa
 have := Lib.run_to_unsafe (P := P) (w := w) (e := T) (cells := c.size) ⟨L.b, 0, none⟩ hs hd ht hj (by simp [World.shape?, q6]) (by show 0 < c.size; omega)
 refine OpS.of_value hr hpa ?_
 rw [q5]
 simp [execOp, hop, q5, this]
theorem OpSem.fromUnsafe {x : Operand} {src dst t : TypeId} {j : TypeInfo} {id : Nat} {cs : List AV} (hs : P.underlying src = some .unsafePointer) (hd : P.underlying dst = some (.pointer t)) (ht : P.info? t = some j) (hl : liesAt P P.depth bty (2 / P.cellsOf bty) 0 t 1 = true) (hx : ev g x = .pt id 0) (hid : H[id]? = some (.tc bty cs)) : OpSem P g H (.convert src dst x) (.pt id 0) H := fun I m w ac o hop hr hv => by
 have hpa := hv x (by simp [Op.operands])
 rw [hx] at hpa
 obtain ⟨L, c, hm, q1, q2, q3, q4, q5, q6, q7, qb, q8⟩ := tcOR hr hid hpa
 have := Lib.run_from_unsafe (P := P) (w := w) (e := bty) (cells := c.size) ⟨L.b, 0, none⟩ hs hd ht (by simp [World.shape?, q6]) (by rw [qb rfl]; exact hl)
 refine OpS.of_value hr hpa ?_
 rw [q5]
 simp [execOp, hop, q5, this]
theorem OpSem.neqSame {x y : Operand} {t u e : TypeId} {j : TypeInfo} {id off : Nat} (hp : P.underlying t = some (.pointer e)) (he : P.info? e = some j) (hx : ev g x = .pt id off) (hy : ev g y = .pt id off) : OpSem P g H (.binOp .neq t x y u) (.v (.bool false)) H := fun I m w ac o hop hr hv => by
 have h1 := hv x (by simp [Op.operands])
 have h2 := hv y (by simp [Op.operands])
 rw [hx] at h1
 rw [hy] at h2
 simp only [VR] at h1 h2
 obtain ⟨L, r1, r2⟩ := h1
 obtain ⟨L', s1, s2⟩ := h2
 rw [r1] at s1; cases s1
 have hrun := Lib.run_neq_ptr_same (P := P) (w := w) ⟨L.b, L.o + off, none⟩ hp he
 have hg : (eqGuard .neq t x y (ac.eval x) (ac.eval y)).run P w = .ok () w := eqGuard_ok (by rw [r2]; simp) (by rw [r2]; rfl)
 have : (do eqGuard .neq t x y (ac.eval x) (ac.eval y); Go.binOp .neq t (ac.eval x) (ac.eval y) : Sem Value).run P w = .ok (.bool false) w := by
  simp only [Sem.run_bind, hg, Result.andThen_ok]
  rw [r2, s2]; exact hrun
 exact OpS.of_sok (SOK.same hr this (by simp only [VR])) (by simp [execOp, hop])
theorem OpSem.isNil {op : BinOp} {x y : Operand} {t u : TypeId} {r : Value} (e : xNil P op t (ev g x) (ev g y) = some r) : OpSem P g H (.binOp op t x y u) (.v r) H := fun I m w ac o hop hr hv =>
 OpS.of_sok (SOK.same hr (xNil_ok (P := P) e (hv x (by simp [Op.operands])) (hv y (by simp [Op.operands])) x y) (by simp only [VR])) (by simp [execOp, hop])
theorem ACall_noEscape {f : FuncId} {fn : Func} (hf : P.funcs[f]? = some fn) (hname : (fn.name == "runtime.NumGoroutine") = false) (hb : fn.body.isNone = true) (hn : Extern.findNext fn = none) (he : Extern.find fn = some Extern.AbiNoEscape.same) (v : AV) :
 ACall P f [v] H (fun v1 H1 => v1 = v ∧ H1 = H) := fun I m w xs hr hv => by
 simp only [VRs] at hv
 obtain ⟨x, _, hxs, hx, rfl⟩ := hv
 obtain rfl : xs = #[x] := by apply Array.ext'; simpa using hxs
 unfold CallsFn
 rw [run_callFunc_extern hf hname hb hn he, Lib.run_noEscape]
 exact ⟨v, H, I, m, ⟨rfl, rfl⟩, hx, hr, Ext.refl _ _ _ _⟩
def CkCode (P : Program) (f ne : FuncId) (bT pT uT tI : TypeId) : Prop :=
 ∃ (i0 i1 i2 : Nat) (o0 o1 o2 : Array Oper) (X : Code) (a1 : Array TypeId), FnAt P f (.seq (.region i0 o0 false) (.cond (.tmp 6) (.region i1 o1 false) (.seq (.region i2 o2 false) (.cond (.tmp 19) X .skip)))) 20 [] ∧
  o0.toList.map core = plainC [(some 2, .move (.tmp 0)), (some 3, .nilCheck (.tmp 2)), (some 4, .fieldAddr bT (.tmp 3) 0), (some 5, .load pT (.tmp 4)), (some 6, .binOp .eql pT (.tmp 5) (.const (.pointer none)) pT)] ∧
  o1.toList.map core = plainC [(some 7, .move (.tmp 0)), (some 8, .move (.tmp 0)), (some 9, .convert pT uT (.tmp 8)), (some 10, .call ⟨.value (.func ne), #[.tmp 9], a1⟩), (some 11, .convert uT pT (.tmp 10)), (some 12, .nilCheck (.tmp 7)), (some 13, .fieldAddr bT (.tmp 12) 0), (none, .store pT (.tmp 13) (.tmp 11))] ∧
  o2.toList.map core = plainC [(some 14, .move (.tmp 0)), (some 15, .nilCheck (.tmp 14)), (some 16, .fieldAddr bT (.tmp 15) 0), (some 17, .load pT (.tmp 16)), (some 18, .move (.tmp 0)), (some 19, .binOp .neq pT (.tmp 17) (.tmp 18) pT)]
theorem ck_ok {f ne : FuncId} {pT uT tI : TypeId} (hc : CkCode P f ne bty pT uT tI) {fs : Array Field} {fd : Field} {b1 b2 p1 : Nat} {z z2 : List Value} (hb : ti P bty = some ⟨.struct fs, b1, b2, z⟩) (hf : fs[0]? = some fd) (ht : fd.type = pT) (ho : fd.offset = 0) (hp : ti P pT = some ⟨.pointer bty, 1, p1, z2⟩)
 (hpu : P.underlying pT = some (.pointer bty)) (hu : P.underlying uT = some .unsafePointer) {j : TypeInfo} (hj : P.info? bty = some j) (hj0 : j.size ≠ 0) (hl : liesAt P P.depth bty (2 / P.cellsOf bty) 0 bty 1 = true)
 {fn : Func} (hnf : P.funcs[ne]? = some fn) (hname : (fn.name == "runtime.NumGoroutine") = false) (hnb : fn.body.isNone = true) (hnn : Extern.findNext fn = none) (hne : Extern.find fn = some Extern.AbiNoEscape.same) : CcOK P bty f := fun id p s H hid hpp => by
 obtain ⟨i0, i1, i2, o0, o1, o2, X, a1, ⟨fn, f1, f2, f3, f4, f5⟩, c0, c1, c2⟩ := hc
 have hidlt : id < H.length := (List.getElem?_eq_some_iff.1 hid).1
 have hfa : ∀ (g : List AV) (H : List AO) (x : Tmp), ev g (.tmp x) = .pt id 0 → aop P g H (.fieldAddr bty (.tmp x) 0) = some (.pt id 0, H) := fun g H x hx => by
  simp only [aop, hb, hf, ht, hp, hx, ho]
  rfl
 have hap : apart P pT [p, s] 0 = some p := by simp [apart, hp, isAggD]
 refine ACall_of_AW f1 f2 f3 ?_
 rw [f4]
 refine AW_seq (AW_region (AOps_ofS c0 ?_))
 have hnil : xNil P .eql pT p (.v (.pointer none)) = some (.bool (isNilV p)) := by
  rcases hpp with rfl | rfl
  ·simp [xNil, isNilV, nilK, hpu, flipB]
  ·simp [xNil, isNilV, nilK, hpu, flipB]
 refine ⟨_, _, .inl rfl, .pt id 0, _, .inl (by simp [aop, ev, put]), .pt id 0, _, .inl (hfa _ _ 3 (by simp [ev, put])), p, _, .inr (OpSem.loadTC (id := id) (off := 0) (T := bty) (cs := [p, s]) (by simp [ev, put]) hid hap), .v (.bool (isNilV p)), H, .inr (OpSem.isNil (by simpa [ev, put, lift] using hnil)), ?_⟩
 simp only [AOpsS, thenA]
 rcases hpp with rfl | rfl
 ·refine AW_cond (t := true) (by simp [ev, put, isNilV]) ?_
  rw [if_pos rfl]
  refine AW_region (AOps_ofS c1 ?_)
  refine ⟨_, _, .inl rfl, _, _, .inl rfl, .pt id 0, _, .inr (OpSem.toUnsafe (id := id) hpu hu hj hj0 (by simp [ev, put]) hid), .pt id 0, H, ⟨ne, [], [], rfl, ?_⟩, .pt id 0, _, .inr (OpSem.fromUnsafe (id := id) hu hpu hj hl (by simp [ev, put]) hid), .pt id 0, _, .inl (by simp [aop, ev, put]), .pt id 0, _, .inl (hfa _ _ 12 (by simp [ev, put])), _, _,
   .inr (OpSem.storeTC (id := id) (off := 0) (T := bty) (v := .pt id 0) hp rfl (by simp [ev, put]) (by simp [ev, put]) rfl rfl hid (by simp)), ?_⟩
  ·have := ACall_noEscape (H := H) hnf hname hnb hnn hne (.pt id 0)
   simpa [ev, put] using this
  ·simp only [AOpsS, endA, f5]
   exact ⟨_, rfl, rfl, rfl⟩
 ·refine AW_cond (t := false) (by simp [ev, put, isNilV]) ?_
  rw [if_neg (by simp)]
  refine AW_seq (AW_region (AOps_ofS c2 ?_))
  refine ⟨_, _, .inl rfl, .pt id 0, _, .inl (by simp [aop, ev, put]), .pt id 0, _, .inl (hfa _ _ 15 (by simp [ev, put])), .pt id 0, _, .inr (OpSem.loadTC (id := id) (off := 0) (T := bty) (cs := [.pt id 0, s]) (by simp [ev, put]) hid hap), _, _, .inl rfl, .v (.bool false), H, .inr (OpSem.neqSame hpu hj (id := id) (off := 0) (by simp [ev, put]) (by simp [ev, put])), ?_⟩
  simp only [AOpsS, thenA]
  refine AW_cond (t := false) (by simp [ev, put]) ?_
  rw [if_neg (by simp)]
  refine AW_skip ?_
  simp only [endA, f5]
  refine ⟨_, rfl, rfl, ?_⟩
  exact (set_self hid).symm
end
end Go.Abs
namespace Go.Abs
open Go
def hpOf (H : List AO) : HP := ⟨H.length, H.reverse⟩
theorem hpOf_ok (H : List AO) : (hpOf H).ok := by simp [HP.ok, hpOf]
theorem hpOf_L (H : List AO) : (hpOf H).L = H := by simp [HP.L, hpOf]
theorem osem_wp' {P : Program} {g : List AV} {H : List AO} {op : Op} {v : AV} {H' : List AO} (h : OpSem P g H op v H') {I : Nat → Prop} {m : List Loc} {a : Act} {w : World} {o : Oper} {Q : Exit → Act → World → Prop} (ho : o.op = op) (hr : HR I m H w) (hg : VRs I m w g a.tmps.toList)
 {K : Act → World → Prop} (hK : ∀ y w' m', VR I m' w' v y → HR I m' H' w' → Ext I m (Own H m) w I m' (Own H' m') w' → K (a.put o.dst y) w') : OWP P o a w K Q := by
 obtain ⟨y, w', m', h3, h4, h5, h6⟩ := h I m w a o ho hr fun x _ => VR.ev hg x
 refine OWP.of ?_ (not_defer h3)
 unfold Oper.wp
 rcases h3 with h3 | ⟨h3, rfl⟩
 ·rw [h3]; simp only [Oper.upon]; exact hK _ _ _ h4 h5 h6
 ·rw [h3]; simp only [Oper.upon]; exact hK _ _ _ h4 h5 h6
theorem LL_sem [DSt] {P : Program} {N : Nat} {g : List AV} {H : List AO} {op : Op} {v : AV} (F : List Nat) (E : List (Nat × AO)) (h : ∀ (H2 : List AO) (g' : List AV), H2.length = N → (∀ id ∈ F, H2[id]? = H[id]?) → (∀ x ∈ op.operands, ev g' x = ev g x) → OpSem P g' H2 op v (apE E H2)) : LL P N op g H ⟨F, E, []⟩ v := by
 intro H2 g' hl hF hops I m a w o Q ho hr hg hd hv
 refine osem_wp' (h H2 g' hl hF hops) ho hr hg fun y w' m' k1 k2 k3 => ?_
 obtain ⟨nu, rfl⟩ := k3.pre
 obtain rfl := nu_nil hr k2 (apE_len _ _)
 simp only [List.append_nil] at k1 k2 k3
 exact ⟨I, m, k2, put_ok (Ext.vrs hr k3 hg) o.dst k1, put_defers hd, k3.ex, fun _ _ => rfl⟩
noncomputable def dX3 (h : HP) (F : List Nat) (id : Nat) : Option AO → Option (AV × HP × Fo)
 | some o => some (.v undef, rSet h id o, ⟨F, [(id, o)], []⟩)
 | none => none
noncomputable def dX2 (P : Program) (h : HP) (F : List Nat) (k : TypeId) (v : AV) : AV → Option Value → Option (AV × HP × Fo)
 | .mp id, some i => dX3 h F id (xUpd3 P k i v (rGet h id))
 | _, _ => none
noncomputable def dX1 (P : Program) (h : HP) (F : List Nat) (m k v : AV) : Option TypeDesc → Option (AV × HP × Fo)
 | some (.map kt _) => dX2 P h F kt v m (toVal k)
 | _ => none
def dXs (h : HP) (F : List Nat) : Option AV → Option (AV × HP × Fo)
 | some v => some (v, h, ⟨F, [], []⟩)
 | none => none
def dXb (h : HP) (F : List Nat) : Option Value → Option Value → Option (AV × HP × Fo)
 | some v, _ => some (.v v, h, ⟨F, [], []⟩)
 | none, some v => some (.v v, h, ⟨F, [], []⟩)
 | none, none => none
noncomputable def dXc3 (h : HP) (F : List Nat) (id : Nat) (v : AV) : Option AO → Option (AV × HP × Fo)
 | some o => some (v, rSet h id o, ⟨F, [(id, o)], []⟩)
 | none => none
noncomputable def dXc2 (h : HP) (F : List Nat) (v : AV) (h' : HP) : AV → Option (AV × HP × Fo)
 | .sl id _ _ => dXc3 h F id v (rGet h' id)
 | _ => none
noncomputable def dXc1 (h : HP) (F : List Nat) (s : AV) : OR2 → Option (AV × HP × Fo)
 | some (v, h') => dXc2 h F v h' s
 | none => none
noncomputable def dXc (P : Program) (g : List AV) (h : HP) (F : List Nat) (ats : List TypeId) : List Operand → Option (AV × HP × Fo)
 | [s, x] => dXc1 h F (evF g s) (zCopy0 P h (evF g s) (evF g x) (nthO ats 0) (nthO ats 1))
 | _ => none
noncomputable def dX (P : Program) (g : List AV) (h : HP) : Op → Option (AV × HP × Fo)
 | .lookup t x i ok => dXs h (opIds g (.lookup t x i ok)) (xLook P h t (evF g x) (evF g i) ok)
 | .mapUpdate t m k x => dX1 P h (opIds g (.mapUpdate t m k x)) (evF g m) (evF g k) (evF g x) (P.underlying t)
 | .insert t m k x => dX1 P h (opIds g (.insert t m k x)) (evF g m) (evF g k) (evF g x) (P.underlying t)
 | .slice t x lo hi (some mx) => dXs h (opIds g (.slice t x lo hi (some mx))) (s3Do P h t (evF g x) (lo.map (evF g)) (hi.map (evF g)) (evF g mx))
 | .binOp op t x y u => dXb h (opIds g (.binOp op t x y u)) (xEq P op t (evF g x) (evF g y)) (xNil P op t (evF g x) (evF g y))
 | .call ⟨.builtin .copy, args, ats⟩ => dXc P g h (opIds g (.call ⟨.builtin .copy, args, ats⟩)) ats.toList args.toList
 | _ => none
section
variable {P : Program} {call : CT} {k N : Nat} {An : List (List Nat)}
theorem xLook_local {h h2 : HP} {t : TypeId} {x i : AV} {ok : Bool} (hs : ∀ id, x = .mp id → rGet h2 id = rGet h id) : xLook P h2 t x i ok = xLook P h t x i ok := by
 unfold xLook
 split
 ·unfold xLook1
  split
  ·split
   ·rename_i id; rw [hs id rfl]
   ·rfl
   ·rfl
  ·rfl
 ·rfl
theorem opIds_mem {g : List AV} {op : Op} {x : Operand} (hx : x ∈ op.operands) {id : Nat} (h : id ∈ vid (ev g x)) : id ∈ opIds g op := by
 have : ∀ l : List Operand, x ∈ l → id ∈ idsOf g l := by
  intro l
  induction l with
  | nil => intro h; cases h
  | cons y l ih =>
   intro hm
   simp only [idsOf]
   rcases List.mem_cons.1 hm with rfl | hm
   ·exact List.mem_append_left _ h
   ·exact List.mem_append_right _ (ih hm)
 exact this _ (Array.mem_toList_iff.2 hx)
theorem zCopy_local {h h2 : HP} {t : TypeId} {s x v : AV} {h' : HP} (hs : ∀ id ∈ vid s, rGet h2 id = rGet h id) (hx : ∀ id ∈ vid x, rGet h2 id = rGet h id) (e : zCopy P h t s x = some (v, h')) :
 ∃ id a b o, s = .sl id a b ∧ h' = rSet h id o ∧ id < h.n ∧ zCopy P h2 t s x = some (v, rSet h2 id o) := by
 unfold zCopy at e ⊢
 split at e
 ·rename_i ed _ _ _ hd
  cases he : ti P ed with
  | none => rw [he] at e; cases e
  | some te =>
   rw [he] at e
   simp only [zCopy2] at e
   split at e
   ·rename_i id off len
    cases hg : rGet h id with
    | none => rw [hg] at e; cases e
    | some o =>
     have hlt := rGet_lt hg
     rw [hg] at e
     cases o <;> first | (cases e; done) | skip
     rename_i sz cs
     simp only [zCopy3] at e
     cases hn : lenA x with
     | none => rw [hn] at e; cases e
     | some n =>
      rw [hn] at e
      simp only [zCopy4] at e
      have hl : ∀ a b, oFirst h2 a b x = oFirst h a b x := fun a b => by
       cases x with
       | sl i2 o2 k2 => simp only [oFirst]; rw [hx i2 (by simp [vid])]
       | _ => rfl
      cases hf : oFirst h te.size (Nat.min n len) x with
      | none => rw [hf] at e; cases e
      | some new =>
       rw [hf] at e
       simp only [zCopy5] at e
       split at e
       ·rename_i hc
        cases e
        refine ⟨id, off, len, _, rfl, rfl, hlt, ?_⟩
        simp only [zCopy2]
        rw [hs id (by simp [vid]), hg]
        simp only [zCopy3, hn, zCopy4, hl, hf, zCopy5]
        rw [if_pos hc]
       ·cases e
   ·cases e
 ·cases e
theorem s3Do_local {h h2 : HP} {t : TypeId} {x mx : AV} {lo hi : Option AV} (hs : ∀ id a b, x = .sl id a b → rGet h2 id = rGet h id) : s3Do P h2 t x lo hi mx = s3Do P h t x lo hi mx := by
 have e : ∀ (n l u : Nat), s3Go h2 n x l u = s3Go h n x l u := fun n l u => by
  unfold s3Go
  cases x <;> first | rfl | skip
  rename_i id a b
  dsimp only
  rw [hs id a b rfl]
 unfold s3Do
 simp only [e]
theorem dX_ok [DSt] {g : List AV} {h : HP} (hk : h.ok) (hN : h.n = N) {op : Op} {v : AV} {h1 : HP} {f : Fo} (e : dX P g h op = some (v, h1, f)) : (h1.ok ∧ h1.n = N) ∧ LL P N op g h.L f v ∧ h1.L = apE f.E h.L := by
 subst hN
 have get : ∀ {H2 : List AO} {id : Nat}, H2[id]? = h.L[id]? → rGet (hpOf H2) id = rGet h id := fun {H2 id} q => by
  rw [rGet_eq (hpOf_ok _), rGet_eq hk, hpOf_L, q]
 unfold dX at e
 split at e
 ·rename_i t x i ok
  rw [evF_eq, evF_eq] at e
  cases hx : xLook P h t (ev g x) (ev g i) ok with
  | none => rw [hx] at e; cases e
  | some v0 =>
   rw [hx] at e
   cases e
   refine ⟨⟨hk, rfl⟩, LL_sem _ [] fun H2 g' hl hF hops => ?_, rfl⟩
   have h1 : xop P g' (hpOf H2) (.lookup t x i ok) = some (v, hpOf H2) := by
    simp only [xop, evF_eq]
    rw [hops x (by simp [Op.operands]), hops i (by simp [Op.operands]), xLook_local (h := h) fun id hid => get (hF id (opIds_mem (x := x) (by simp [Op.operands]) (by rw [hid]; simp [vid]))), hx]
    rfl
   have := (xop_ok (hpOf_ok H2) _ h1).2
   rw [hpOf_L] at this
   exact this
 ·rename_i t m k x
  simp only [evF_eq] at e
  cases ht : P.underlying t with
  | none => rw [ht] at e; cases e
  | some d =>
   rw [ht] at e
   cases d <;> first | (cases e; done) | skip
   rename_i kt et
   simp only [dX1] at e
   generalize hm : ev g m = mv at e
   generalize hkv : toVal (ev g k) = kv at e
   unfold dX2 at e
   split at e
   ·rename_i id i
    cases hu : xUpd3 P kt i (ev g x) (rGet h id) with
    | none => rw [hu] at e; cases e
    | some o =>
     rw [hu] at e
     cases e
     have hlt : id < h.n := by
      cases hg : rGet h id with
      | none => rw [hg] at hu; cases hu
      | some o => exact rGet_lt hg
     refine ⟨⟨rSet_ok hk _ _, rfl⟩, LL_sem _ _ fun H2 g' hl hF hops => ?_, rSet_eq hk hlt _⟩
     have h1 : xop P g' (hpOf H2) (.mapUpdate t m k x) = some (.v undef, rSet (hpOf H2) id o) := by
      simp only [xop, evF_eq, xUpd, ht]
      rw [hops m (by simp [Op.operands]), hops k (by simp [Op.operands]), hops x (by simp [Op.operands]), hm, hkv]
      simp only [xUpd2]
      rw [get (hF id (opIds_mem (x := m) (by simp [Op.operands]) (by rw [hm]; simp [vid]))), hu]
      rfl
     have := (xop_ok (hpOf_ok H2) _ h1).2
     rw [hpOf_L, rSet_eq (hpOf_ok H2) (by show id < H2.length; omega), hpOf_L] at this
     exact this
   ·cases e
 ·rename_i t m k x
  simp only [evF_eq] at e
  cases ht : P.underlying t with
  | none => rw [ht] at e; cases e
  | some d =>
   rw [ht] at e
   cases d <;> first | (cases e; done) | skip
   rename_i kt et
   simp only [dX1] at e
   generalize hm : ev g m = mv at e
   generalize hkv : toVal (ev g k) = kv at e
   unfold dX2 at e
   split at e
   ·rename_i id i
    cases hu : xUpd3 P kt i (ev g x) (rGet h id) with
    | none => rw [hu] at e; cases e
    | some o =>
     rw [hu] at e
     cases e
     have hlt : id < h.n := by
      cases hg : rGet h id with
      | none => rw [hg] at hu; cases hu
      | some o => exact rGet_lt hg
     refine ⟨⟨rSet_ok hk _ _, rfl⟩, LL_sem _ _ fun H2 g' hl hF hops => ?_, rSet_eq hk hlt _⟩
     have h1 : xop P g' (hpOf H2) (.insert t m k x) = some (.v undef, rSet (hpOf H2) id o) := by
      simp only [xop, evF_eq, xUpd, ht]
      rw [hops m (by simp [Op.operands]), hops k (by simp [Op.operands]), hops x (by simp [Op.operands]), hm, hkv]
      simp only [xUpd2]
      rw [get (hF id (opIds_mem (x := m) (by simp [Op.operands]) (by rw [hm]; simp [vid]))), hu]
      rfl
     have := (xop_ok (hpOf_ok H2) _ h1).2
     rw [hpOf_L, rSet_eq (hpOf_ok H2) (by show id < H2.length; omega), hpOf_L] at this
     exact this
   ·cases e
 ·rename_i t x lo hi mx
  simp only [evF_eq] at e
  have em : (lo.map (evF g)) = lo.map (ev g) := by cases lo <;> simp [evF_eq]
  have em2 : (hi.map (evF g)) = hi.map (ev g) := by cases hi <;> simp [evF_eq]
  rw [em, em2] at e
  cases hx : s3Do P h t (ev g x) (lo.map (ev g)) (hi.map (ev g)) (ev g mx) with
  | none => rw [hx] at e; cases e
  | some v0 =>
   rw [hx] at e
   cases e
   refine ⟨⟨hk, rfl⟩, LL_sem _ [] fun H2 g' hl hF hops => ?_, rfl⟩
   have h1 : s3Op P g' (hpOf H2) (.slice t x lo hi (some mx)) = some (v, hpOf H2) := by
    have e1 : lo.map (evF g') = lo.map (ev g) := by
     cases lo with
     | none => rfl
     | some y => simp only [Option.map_some, evF_eq]; rw [hops y (by simp [Op.operands])]
    have e2 : hi.map (evF g') = hi.map (ev g) := by
     cases hi with
     | none => rfl
     | some y => simp only [Option.map_some, evF_eq]; rw [hops y (by simp [Op.operands])]
    simp only [s3Op, evF_eq]
    rw [e1, e2, hops x (by simp [Op.operands]), hops mx (by simp [Op.operands]), s3Do_local (h := h) fun id a b hid => get (hF id (opIds_mem (x := x) (by simp [Op.operands]) (by rw [hid]; simp [vid]))), hx]
   have := (s3Op_ok (hpOf_ok H2) _ h1).2
   rw [hpOf_L] at this
   exact this
 ·rename_i bop t x y u
  rw [evF_eq, evF_eq] at e
  cases hx : xEq P bop t (ev g x) (ev g y) with
  | some v0 =>
   rw [hx] at e
   cases e
   refine ⟨⟨hk, rfl⟩, LL_sem _ [] fun H2 g' hl hF hops => ?_, rfl⟩
   have h1 : xop P g' (hpOf H2) (.binOp bop t x y u) = some (.v v0, hpOf H2) := by
    simp only [xop, evF_eq]
    rw [hops x (by simp [Op.operands]), hops y (by simp [Op.operands]), hx]
    rfl
   have := (xop_ok (hpOf_ok H2) _ h1).2
   rw [hpOf_L] at this
   exact this
  | none =>
   rw [hx] at e
   cases hn : xNil P bop t (ev g x) (ev g y) with
   | none => rw [hn] at e; cases e
   | some v0 =>
    rw [hn] at e
    cases e
    refine ⟨⟨hk, rfl⟩, LL_sem _ [] fun H2 g' hl hF hops I m w a o ho hr hxv => ?_, rfl⟩
    have hxx := hxv x (by simp [Op.operands])
    have hyy := hxv y (by simp [Op.operands])
    rw [hops x (by simp [Op.operands])] at hxx
    rw [hops y (by simp [Op.operands])] at hyy
    have h1 := xNil_ok (P := P) hn hxx hyy x y
    refine OpS.of_sok (SOK.same hr h1 (by simp only [VR])) ?_
    simp [execOp, ho]
 ·rename_i args ats
  unfold dXc at e
  split at e
  ·rename_i s x ha
   obtain rfl := arr2 ha
   rw [evF_eq, evF_eq] at e
   cases hz : zCopy0 P h (ev g s) (ev g x) (nthO ats.toList 0) (nthO ats.toList 1) with
   | none => rw [hz] at e; cases e
   | some vh =>
    obtain ⟨v0, h0⟩ := vh
    rw [hz] at e
    simp only [dXc1] at e
    have hz' := hz
    unfold zCopy0 at hz'
    split at hz'
    ·rename_i t u ht hu
     have loc : ∀ {h2 : HP}, (∀ id ∈ opIds g (.call ⟨.builtin .copy, #[s, x], ats⟩), rGet h2 id = rGet h id) → ∃ id a b o, ev g s = .sl id a b ∧ h0 = rSet h id o ∧ id < h.n ∧ zCopy P h2 t (ev g s) (ev g x) = some (v0, rSet h2 id o) := fun {h2} q =>
      zCopy_local (fun id hid => q id (opIds_mem (x := s) (by simp [Op.operands, Call.operands]) hid)) (fun id hid => q id (opIds_mem (x := x) (by simp [Op.operands, Call.operands]) hid)) hz'
     obtain ⟨id, a, b, o, e1, e2, e3, _⟩ := loc (h2 := h) fun _ _ => rfl
     rw [e1] at e
     simp only [dXc2] at e
     have e4 : rGet h0 id = some o := by
      rw [e2, rGet_eq (rSet_ok hk _ _), rSet_eq hk e3]
      simp [HP.len hk, e3]
     rw [e4] at e
     cases e
     refine ⟨⟨rSet_ok hk _ _, rfl⟩, LL_sem _ _ fun H2 g' hl hF hops => ?_, rSet_eq hk e3 _⟩
     obtain ⟨id2, a2, b2, o2, f1, f2, f3, f4⟩ := loc (h2 := hpOf H2) fun i hi => get (hF i hi)
     rw [e1] at f1
     cases f1
     have ho : o2 = o := by
      have q1 : rGet h0 id = some o2 := by
       rw [f2, rGet_eq (rSet_ok hk _ _), rSet_eq hk e3]
       simp [HP.len hk, e3]
      rw [e4] at q1
      cases q1
      rfl
     subst ho
     have h1 : wop P g' (hpOf H2) (.call ⟨.builtin .copy, #[s, x], ats⟩) = some (v, rSet (hpOf H2) id o2) := by
      simp only [wop, zBuiltin, evF_eq]
      rw [hops s (by simp [Op.operands, Call.operands]), hops x (by simp [Op.operands, Call.operands]), ht, hu]
      exact f4
     have := (wop_ok (hpOf_ok H2) _ h1).2
     rw [hpOf_L, rSet_eq (hpOf_ok H2) (by show id < H2.length; omega), hpOf_L] at this
     exact this
    ·cases hz'
  ·cases e
 ·cases e
end
end Go.Abs
namespace Go.Abs
open Go
section
variable {P : Program} {I : Nat → Prop} {m : List Loc} {H : List AO} {w : World}
theorem HR.unfx (hr : HR I m H w) {id sz : Nat} {cs : List AV} {r : Option Nat} (hid : H[id]? = some (.fx sz cs r)) : HR I m (H.set id (.cells sz cs)) w := by
 have hlt : id < m.length := by rw [hr.len]; exact (List.getElem?_eq_some_iff.1 hid).1
 have hm : m[id]? = some m[id] := List.getElem?_eq_getElem hlt
 have hob := hr.ob id _ _ hid hm
 simp only [OR] at hob
 by_cases hc : m[id].cap = 0
 ·refine (hr.set (w' := w) hid rfl hm rfl (fun _ _ => rfl) rfl rfl rfl ?_).1
  simp only [OR]
  exact hob.1
 ·refine (hr.set (w' := w) hid rfl hm rfl (fun _ _ => rfl) rfl rfl rfl ?_).1
  simp only [OR]
  exact hob.1
structure ApI (P : Program) (H : List AO) (t u ed : TypeId) (te : TI) (x : AV) (n : Nat) (new : List AV) : Prop where
  sl : ∃ a b z, ti P t = some ⟨.slice ed, a, b, z⟩
  el : ti P ed = some te
  ar : ∃ dd a b z, ti P u = some ⟨dd, a, b, z⟩ ∧ isIntD dd = false
  one : te.size = 1
  len : lenA x = some n
  fst : firstA H 1 n x = some new
  all : new.all (·.one) = true
  nl : new.length = n
theorem OpSem.appendFull {g : List AV} {s x : Operand} {t u ed : TypeId} {te : TI} {n id len : Nat} {new cs : List AV} (h : ApI P H t u ed te (ev g x) n new) (hs : ev g s = .sl id 0 len) (hid : H[id]? = some (.fx 1 cs none)) (hcl : cs.length = len) (hcone : cs.all (·.one) = true) (h0 : n ≠ 0) (hb : (len + n) * te.bytes ≤ 140737488355328) (h63 : len + n ≤ 9223372036854775807) :
 OpSem P g H (.call ⟨.builtin .append, #[s, x], #[t, u]⟩) (.sl H.length 0 (len + n)) (H ++ [.cells 1 (cs ++ new)]) := fun I m w ac o hop hr hx => by
 obtain ⟨⟨d1, d2, d3, hd⟩, hte, ⟨dd, e1, e2, e3, hu, hz⟩, hs1, hlen, hfst, hone, hnl⟩ := h
 have hpa := hx s (by simp [Op.operands, Call.operands])
 have hpb := hx x (by simp [Op.operands, Call.operands])
 rw [hs] at hpa
 have hpa0 := hpa
 simp only [VR] at hpa
 obtain ⟨L, A, c, hlk, hcap, hlc, hA, hval⟩ := hpa
 have hm := (lk_get hlk).1
 have hob := hr.ob id _ _ hid hm
 simp only [OR, roomOK] at hob
 obtain ⟨⟨q1, q2, q3⟩, q4⟩ := hob
 rw [q1, Nat.mul_one, Nat.zero_add] at hcap
 have hcc : c = len := by omega
 have hl := lenA_any (P := P) hlen hpb
 have hf := firstA_any (P := P) hr hfst hpb
 have hdeg := hr.unfx hid
 have hlt : id < H.length := (List.getElem?_eq_some_iff.1 hid).1
 have holds : firstA (H.set id (.cells 1 cs)) 1 len (.sl id 0 len) = some cs := by
  simp only [firstA, List.getElem?_set_self hlt]
  rw [if_pos ⟨trivial, Nat.le_refl _, by omega⟩]
  simp only [List.drop_zero]
  rw [List.take_of_length_le (by omega)]
 rw [hval] at hpa0
 obtain ⟨k, w', arr, rest, xs, h1, h2, h3, h4, h5, h6, h7, h8, h9⟩ := append_new (P := P) (I := I) (m := m) (w := w) (ty := o.type) (A := A) (sLen := len) (sCap := c) (olds := cs) (news := new) hd rfl hu hz hte hl (by omega) hb h63 (fun w' hw' => by rw [hs1]; exact firstA_any hdeg holds hpa0 w' hw') (by rw [hs1]; exact hf) (by rw [hs1]; omega) (by rw [hs1, Nat.mul_one]; exact hnl)
 have hall2 : (cs ++ new).all (·.one) = true := by rw [List.all_append, hcone, hone]; rfl
 obtain ⟨h10, h11⟩ := hr.newCells 1 h9 hall2 h7 (fz := (0, 0)) (by intro j _ h; simp at h) h3 h4 h5 h6
 have hsok : SOK P I m H w (Builtin.append_ #[t, u] o.type #[.slice A len c, ac.eval x]) (.sl H.length 0 (len + n)) (H ++ [.cells 1 (cs ++ new)]) := by
  refine ⟨_, w', _, h1, ?_, h10, h11⟩
  simp only [VR]
  exact ⟨_, _, k, by rw [← hr.len]; exact last_lk _ (by simp), by simp [h8, hs1], h2, .inr rfl, rfl⟩
 rw [← hval] at hsok
 exact OpS.of_sok hsok (by simp [execOp, hop, resolve, invoke, builtin])
theorem OpSem.appendIn {g : List AV} {s x : Operand} {t u ed : TypeId} {te : TI} {n id len : Nat} {new cs : List AV} (h : ApI P H t u ed te (ev g x) n new) (hs : ev g s = .sl id 0 len)
 (hid : (∃ r, H[id]? = some (.fx 1 cs (some r)) ∧ n ≤ r ∧ cs.length = len) ∨ (H[id]? = some (.cells 1 cs) ∧ len + n ≤ cs.length)) (h0 : n ≠ 0) :
 OpSem P g H (.call ⟨.builtin .append, #[s, x], #[t, u]⟩) (.sl id 0 (len + n)) (H.set id (.cells 1 (cs.take len ++ new ++ cs.drop (len + n)))) := fun I m w ac o hop hr hx => by
 obtain ⟨⟨d1, d2, d3, hd⟩, hte, ⟨dd, e1, e2, e3, hu, hz⟩, hs1, hlen, hfst, hone, hnl⟩ := h
 have hpa := hx s (by simp [Op.operands, Call.operands])
 have hpb := hx x (by simp [Op.operands, Call.operands])
 rw [hs] at hpa
 simp only [VR] at hpa
 obtain ⟨L, A, c, hlk, hcap, hlc, hA, hval⟩ := hpa
 have hm := (lk_get hlk).1
 have hl := lenA_any (P := P) hlen hpb
 have hf := firstA_any (P := P) hr hfst hpb
 have hu1 := run_underlying' (w := w) hu
 have core : ∃ o0, H[id]? = some o0 ∧ o0.alive = true ∧ L.sz = 1 ∧ len + n ≤ L.cap ∧ len ≤ cs.length ∧ cs.length ≤ L.cap ∧ (L.cap ≠ 0 → ∃ c E fz, w.heap[L.b]? = some (.cells c E fz) ∧ (∀ j, fz.1 ≤ j → j < fz.2 → c.size ≤ j) ∧ L.o + L.cap ≤ c.size ∧ ∀ (i : Nat) x, cs[i]? = some x → ∃ y, c[L.o + i]? = some y ∧ VR I m w x y ∧ x.one = true) := by
  rcases hid with ⟨r, h1, h2, h3⟩ | ⟨h1, h2⟩
  ·have hob := hr.ob id _ _ h1 hm
   simp only [OR, roomOK] at hob
   obtain ⟨⟨q1, q2, q3⟩, q4⟩ := hob
   exact ⟨_, h1, rfl, q1, by omega, by omega, q2, q3⟩
  ·have hob := hr.ob id _ _ h1 hm
   simp only [OR] at hob
   obtain ⟨q1, q2, q3⟩ := hob
   exact ⟨_, h1, rfl, q1, by omega, by omega, q2, q3⟩
 obtain ⟨o0, ho0, hal, q1, q2, q2', q2'', q3⟩ := core
 rw [q1, Nat.mul_one, Nat.zero_add] at hcap
 have hc0 : c ≠ 0 := by omega
 have hcap0 : L.cap ≠ 0 := by omega
 have hA' := hA.resolve_left hc0
 rw [Nat.add_zero] at hA'
 subst hA'
 obtain ⟨ce, E, fz, r1, r2, r3, r4⟩ := q3 hcap0
 obtain ⟨zs, hz1, hz2⟩ := hf w rfl
 have hzl := hz2.len
 have hroom : len + n ≤ c := by omega
 obtain ⟨cur', w', h4, h5, h6, h7, h8, h9, h10, h11, h12⟩ := run_storeCells' P L.b (L.o + len) zs.toList 0 ce w r1 r2 (by rw [hzl, hnl]; omega) (hz2.one hone)
 have hgo := hr.set (w' := w') (o' := .cells 1 (cs.take len ++ new ++ cs.drop (len + n))) ho0 hal hm h5 (fun b hb => h8 b (hb hcap0)) h9 h10 h11 (by
  simp only [OR]
  refine ⟨q1, by simp only [List.length_append, List.length_take, List.length_drop]; omega, fun _ => ⟨cur', E, fz, h6, by rw [h7]; exact r2, by omega, fun k v hv => ?_⟩⟩
  have mono : ∀ v y, VR I m w v y → VR I m w' v y := fun v y h => by
   have := VR.mono (nu := []) (I' := I) (w' := w') (fun _ h => h) (fun b hb => h8 b fun e => hr.imm b hb ⟨id, _, L, ho0, hal, hm, hcap0, e.symm⟩) v y h
   simpa using this
  have hget : cur'[L.o + k]? = cur'.toList[L.o + k]? := by simp
  have hcel : ce.toList.length = ce.size := Array.length_toList
  rw [hget, h12, hzl]
  simp only [List.append_assoc, List.getElem?_append, List.length_take, hcel, List.getElem?_take, List.getElem?_drop, Nat.add_zero] at hv ⊢
  have hmin : min len cs.length = len := by omega
  have hmin2 : min (L.o + len) ce.size = L.o + len := by omega
  rw [hmin] at hv
  rw [hmin2]
  by_cases hk : k < len
  ·rw [if_pos hk, if_pos hk] at hv
   rw [if_pos (by omega), if_pos (by omega)]
   obtain ⟨y, s1, s2, s3⟩ := r4 _ v hv
   exact ⟨y, by simpa using s1, mono v y s2, s3⟩
  ·rw [if_neg hk] at hv
   rw [if_neg (by omega)]
   by_cases hk2 : k - len < new.length
   ·rw [if_pos hk2] at hv
    rw [show L.o + k - (L.o + len) = k - len by omega, if_pos (by rw [hzl]; exact hk2)]
    obtain ⟨y, s1, s2⟩ := hz2.get _ v hv
    exact ⟨y, s1, mono v y s2, List.all_eq_true.1 hone v (List.mem_of_getElem? hv)⟩
   ·rw [if_neg hk2] at hv
    rw [show L.o + k - (L.o + len) = k - len by omega, if_neg (by rw [hzl]; exact hk2)]
    obtain ⟨y, s1, s2, s3⟩ := r4 _ v hv
    refine ⟨y, ?_, mono v y s2, s3⟩
    rw [← Array.getElem?_toList] at s1
    rw [← s1]
    congr 1
    omega)
 have hsok : SOK P I m H w (Builtin.append_ #[t, u] o.type #[.slice (some ⟨L.b, L.o, none⟩) len c, ac.eval x]) (.sl id 0 (len + n)) (H.set id (.cells 1 (cs.take len ++ new ++ cs.drop (len + n)))) := by
  refine ⟨.slice (some ⟨L.b, L.o, none⟩) (len + n) c, w', m, ?_, ?_, hgo.1, hgo.2⟩
  ·cases dd <;> first
    | (simp [isIntD] at hz; done)
    | (simp only [Builtin.append_, List.getElem?_toArray, List.getElem?_cons_zero, List.getElem?_cons_succ, Sem.run_bind, run_underlying' hd, Result.andThen_ok, run_sizeOf' hte, hu1, Sem.run_pure, hl, Sem.run_ite, Bool.false_eq_true, if_false, hroom, if_true, Bool.not_false, hs1, hz1, Nat.mul_one, add_none, h4])
  ·simp only [VR]
   exact ⟨L, _, c, hlk, by rw [q1]; omega, hroom, .inr rfl, rfl⟩
 rw [← hval] at hsok
 exact OpS.of_sok hsok (by simp [execOp, hop, resolve, invoke, builtin])
end
end Go.Abs
namespace Go.Abs
open Go
theorem LL_semNew [DSt] {P : Program} {N : Nat} {g : List AV} {H : List AO} {op : Op} {v : AV} {ob : AO} {s : Nat} (F : List Nat) (hs : H[s]? = some .dead)
 (h : ∀ (H2 : List AO) (g' : List AV), H2.length = N → (∀ id ∈ F, H2[id]? = H[id]?) → (∀ x ∈ op.operands, ev g' x = ev g x) → OpSem P g' H2 op v (H2 ++ [ob])) :
 LL P N op g H ⟨s :: F, [(s, ob.ren (mv N [s]))], [s]⟩ (v.ren (mv N [s])) := by
 intro H2 g' hl hF hops I m a w o Q ho hr hg hd hv
 have h1 := h H2 g' hl (fun id hid => hF id (List.mem_cons_of_mem _ hid)) hops
 have hs2 : H2[s]? = some .dead := by rw [hF s (List.mem_cons_self ..)]; exact hs
 have hslt : s < H2.length := (List.getElem?_eq_some_iff.1 hs2).1
 refine osem_wp' h1 ho hr hg fun y w' m' k1 k2 k3 => ?_
 obtain ⟨nu, rfl⟩ := k3.pre
 have hmv := HR.move (E := []) (Hn := [ob]) (slots := [s]) hr (by simpa [apE] using k2) (by simpa [apE] using k3.ex) rfl (by simp) (fun t ht => by
  rw [List.mem_singleton] at ht; subst ht
  exact ⟨hslt, hv t (List.mem_singleton_self _), by simp⟩)
 obtain ⟨L, rfl⟩ := nu_one hr k2 (by simp)
 simp only [List.map_nil, List.nil_append, List.map_cons, List.zip_cons_cons, List.zip_nil_right, hl] at hmv
 obtain ⟨q1, q2, q3, q4⟩ := hmv
 refine ⟨I, _, q1, ?_, put_defers hd, q4, fun id hid => ?_⟩
 ·exact put_ok (VRs.le q3 (fun _ h => h) (fun b hb => k3.blk b (hr.ilt b hb) (hr.imm b hb)) hg) o.dst (VR.ren q2 v y k1)
 ·exact setAll_other _ _ _ hid
structure RmP where
  n : Nat
  new : List AV
  bytes : Nat
noncomputable def rmPre (P : Program) (H : List AO) (t u : TypeId) (x : AV) : Option RmP := match ti P t, ti P u with
 | some ⟨.slice ed, _, _, _⟩, some ⟨dd, _, _, _⟩ => match ti P ed, lenA x with
  | some te, some n => match firstA H 1 n x with
   | some new => if isIntD dd = false ∧ te.size = 1 ∧ n ≠ 0 ∧ new.all (·.one) = true ∧ new.length = n then some ⟨n, new, te.bytes⟩ else none
   | none => none
  | _, _ => none
 | _, _ => none
def rmRow (cs new : List AV) (len n : Nat) : AO := .cells 1 (cs.take len ++ new ++ cs.drop (len + n))
noncomputable def rmX (P : Program) (H : List AO) (t u : TypeId) (s x : AV) : Option (AV × AX) := match s with
 | .sl id 0 len => match rmPre P H t u x with
  | some p => match H[id]? with
   | some (.fx 1 cs none) => if cs.length = len ∧ cs.all (·.one) = true ∧ (len + p.n) * p.bytes ≤ 140737488355328 ∧ len + p.n ≤ 9223372036854775807 then some (.sl H.length 0 (len + p.n), .new (.cells 1 (cs ++ p.new))) else none
   | some (.fx 1 cs (some r)) => if p.n ≤ r ∧ cs.length = len then some (.sl id 0 (len + p.n), .set id (rmRow cs p.new len p.n)) else none
   | some (.cells 1 cs) => if len + p.n ≤ cs.length then some (.sl id 0 (len + p.n), .set id (rmRow cs p.new len p.n)) else none
   | _ => none
  | none => none
 | _ => none
theorem rmX_sem {P : Program} {g : List AV} {H : List AO} {t u : TypeId} {s x : Operand} {v : AV} {ax : AX} (e : rmX P H t u (ev g s) (ev g x) = some (v, ax)) : OpSem P g H (.call ⟨.builtin .append, #[s, x], #[t, u]⟩) v (ax.to H) := by
 unfold rmX at e
 split at e
 case h_2 => cases e
 rename_i id len hs
 cases hp : rmPre P H t u (ev g x) with
 | none => rw [hp] at e; cases e
 | some p =>
  rw [hp] at e
  have key : ∃ ed te, ApI P H t u ed te (ev g x) p.n p.new ∧ p.n ≠ 0 ∧ p.bytes = te.bytes := by
   unfold rmPre at hp
   split at hp
   case h_2 => cases hp
   rename_i ed a1 a2 a3 dd b1 b2 b3 h1 h2
   split at hp
   case h_2 => cases hp
   rename_i te n h3 h4
   split at hp
   case h_2 => cases hp
   rename_i new h5
   split at hp
   case isFalse => cases hp
   rename_i hc
   injection hp with hp
   subst hp
   exact ⟨ed, te, ⟨⟨_, _, _, h1⟩, h3, ⟨_, _, _, _, h2, hc.1⟩, hc.2.1, h4, h5, hc.2.2.2.1, hc.2.2.2.2⟩, hc.2.2.1, rfl⟩
  obtain ⟨ed, te, hA, hn0, hby⟩ := key
  dsimp only at e
  split at e
  ·rename_i cs ho
   split at e
   case isFalse => cases e
   rename_i hc
   cases e
   simp only [AX.to]
   exact OpSem.appendFull hA hs ho hc.1 hc.2.1 hn0 (by rw [← hby]; exact hc.2.2.1) hc.2.2.2
  ·rename_i cs r ho
   split at e
   case isFalse => cases e
   rename_i hc
   cases e
   simp only [AX.to]
   exact OpSem.appendIn hA hs (.inl ⟨r, ho, hc.1, hc.2⟩) hn0
  ·rename_i cs ho
   split at e
   case isFalse => cases e
   rename_i hc
   cases e
   simp only [AX.to]
   exact OpSem.appendIn hA hs (.inr ⟨ho, hc⟩) hn0
  ·cases e
theorem rmX_local {P : Program} {H H2 : List AO} {t u : TypeId} {s x : AV} (hl : H2.length = H.length) (h1 : ∀ id ∈ vid s, H2[id]? = H[id]?) (h2 : ∀ id ∈ vid x, H2[id]? = H[id]?) : rmX P H2 t u s x = rmX P H t u s x := by
 have hp : rmPre P H2 t u x = rmPre P H t u x := by
  unfold rmPre
  simp only [firstA_local h2]
 unfold rmX
 rw [hp]
 split
 ·rename_i id len
  rw [h1 id (by simp [vid]), hl]
 ·rfl
noncomputable def dR2 (P : Program) (g : List AV) (h : HP) (s : Nat) (F : List Nat) : List Operand → List TypeId → Option (AV × HP × Fo)
 | [a, x], [t, u] => dRes h h.n s F (rmX P h.L t u (evF g a) (evF g x))
 | _, _ => none
noncomputable def dR (P : Program) (g : List AV) (h : HP) (s : Nat) : Op → Option (AV × HP × Fo)
 | .call ⟨.builtin .append, args, ats⟩ => dR2 P g h s (opIds g (.call ⟨.builtin .append, args, ats⟩)) args.toList ats.toList
 | _ => none
theorem dR_ok [DSt] {P : Program} {N : Nat} {g : List AV} {h : HP} (hk : h.ok) (hN : h.n = N) {s : Nat} {op : Op} {v : AV} {h1 : HP} {f : Fo} (e : dR P g h s op = some (v, h1, f)) : (h1.ok ∧ h1.n = N) ∧ LL P N op g h.L f v ∧ h1.L = apE f.E h.L := by
 subst hN
 unfold dR at e
 split at e
 case h_2 => cases e
 rename_i args ats
 generalize hF : opIds g (.call ⟨.builtin .append, args, ats⟩) = F at e
 unfold dR2 at e
 split at e
 case h_2 => cases e
 rename_i a x t u ha ht
 have ha : args = #[a, x] := by apply Array.toList_inj.1; rw [ha]
 have ht : ats = #[t, u] := by apply Array.toList_inj.1; rw [ht]
 subst ha; subst ht
 simp only [evF_eq] at e
 have hma : a ∈ (Op.call ⟨.builtin .append, #[a, x], #[t, u]⟩).operands := by simp [Op.operands, Call.operands]
 have hmx : x ∈ (Op.call ⟨.builtin .append, #[a, x], #[t, u]⟩).operands := by simp [Op.operands, Call.operands]
 cases hx : rmX P h.L t u (ev g a) (ev g x) with
 | none => rw [hx] at e; cases e
 | some r =>
  obtain ⟨v0, ax⟩ := r
  rw [hx] at e
  have sem : ∀ (H2 : List AO) (g' : List AV), H2.length = h.n → (∀ id ∈ F, H2[id]? = h.L[id]?) → (∀ y ∈ (Op.call ⟨.builtin .append, #[a, x], #[t, u]⟩).operands, ev g' y = ev g y) → OpSem P g' H2 (.call ⟨.builtin .append, #[a, x], #[t, u]⟩) v0 (ax.to H2) := fun H2 g' hl hF2 hops => by
   refine rmX_sem ?_
   rw [hops a hma, hops x hmx, rmX_local (H := h.L) (by rw [hl, HP.len hk]) (fun id hid => hF2 id (by rw [← hF]; exact opIds_mem hma hid)) (fun id hid => hF2 id (by rw [← hF]; exact opIds_mem hmx hid))]
   exact hx
  have hkeep := dRes_keep hk e
  refine ⟨hkeep, ?_⟩
  unfold dRes at e
  split at e
  ·rename_i v1 hh
   injection hh with hh; injection hh with hh1 hh2
   subst hh1; subst hh2
   cases e
   exact ⟨LL_sem _ [] sem, rfl⟩
  ·rename_i v1 id o hh
   injection hh with hh; injection hh with hh1 hh2
   subst hh1; subst hh2
   split at e
   case h_2 => cases e
   rename_i hb
   cases e
   exact ⟨LL_sem _ _ sem, rSet_eq hk (by rwa [Nat.blt_eq] at hb) _⟩
  ·rename_i v1 o hh
   injection hh with hh; injection hh with hh1 hh2
   subst hh1; subst hh2
   split at e
   case h_2 => cases e
   rename_i hg
   have hlt := rGet_lt hg
   rw [rGet_eq hk] at hg
   cases e
   exact ⟨LL_semNew _ hg sem, rSet_eq hk hlt _⟩
  ·rename_i v1 id o hh
   injection hh with hh; injection hh with hh1 hh2
   subst hh2
   exfalso
   unfold rmX at hx
   split at hx
   case h_2 => cases hx
   split at hx
   case h_2 => cases hx
   split at hx <;> first | (cases hx; done) | (split at hx <;> cases hx)
  ·cases e
end Go.Abs
namespace Go.Abs
open Go
abbrev Rd := Nat × Nat × List AV
noncomputable def rdO (a : Nat) (vs : List AV) : Option AO → Bool
 | some (.cells _ cs) => Nat.ble (a + vs.length) cs.length && beqVs ((cs.drop a).take vs.length) vs
 | _ => false
noncomputable def rdI (H : List AO) (r : Rd) : Bool := rdO r.2.1 r.2.2 H[r.1]?
structure Fg extends Fo where
  G : List Rd
def Fg.nil : Fg := ⟨⟨[], [], []⟩, []⟩
noncomputable def gOne (An : List (List Nat)) (i : Nat) (r : Rd) (j : Nat) (f : Fg) : Bool := Nat.beq i j || memN i (An.getD j []) || f.E.all fun p => !(Nat.beq p.1 r.1) || rdO r.2.1 r.2.2 (some p.2)
noncomputable def gOK (An : List (List Nat)) (acc : List Fg) : Bool := acc.zipIdx.all fun (f, i) => f.G.all fun r =>
 (acc.zipIdx.all fun (f', j) => gOne An i r j f') &&
 ((acc.zipIdx.all fun (f', j) => !decide (j < i) || !(memN r.1 (f'.E.map (·.1)))) || (acc.zipIdx.any fun (f', j) => decide (j < i) && memN r.1 (f'.E.map (·.1)) && memN j (An.getD i [])))
noncomputable def okG (k N : Nat) (An : List (List Nat)) (acc : List Fg) : Bool := okA k N An (acc.map (·.toFo)) && gOK An acc
theorem gOK_spec {An : List (List Nat)} {acc : List Fg} (h : gOK An acc = true) : ∀ (i : Nat) f, acc[i]? = some f → ∀ r ∈ f.G,
 (∀ (j : Nat) f', acc[j]? = some f' → j ≠ i → i ∉ An.getD j [] → ∀ p ∈ f'.E, p.1 = r.1 → rdO r.2.1 r.2.2 (some p.2) = true) ∧
 ((∀ (j : Nat) f', acc[j]? = some f' → j < i → r.1 ∉ f'.E.map (·.1)) ∨ ∃ (j : Nat) (f' : Fg), acc[j]? = some f' ∧ j < i ∧ r.1 ∈ f'.E.map (·.1) ∧ j ∈ An.getD i []) := by
 intro i f hi r hr
 have mem : ∀ (i : Nat) f, acc[i]? = some f → (f, i) ∈ acc.zipIdx := fun i f hi => by rw [List.mem_zipIdx_iff_getElem?]; exact hi
 have h1 := List.all_eq_true.1 (List.all_eq_true.1 h _ (mem i f hi)) r hr
 dsimp only at h1
 rw [Bool.and_eq_true, Bool.or_eq_true] at h1
 obtain ⟨h2, h3⟩ := h1
 refine ⟨fun j f' hj hji hA p hp hpr => ?_, ?_⟩
 ·have h4 := List.all_eq_true.1 h2 _ (mem j f' hj)
  dsimp only [gOne] at h4
  rw [Bool.or_eq_true, Bool.or_eq_true] at h4
  rcases h4 with (h4 | h4) | h4
  ·exact (hji (Nat.eq_of_beq_eq_true h4).symm).elim
  ·exact (hA (memN_spec.1 h4)).elim
  ·have h5 := List.all_eq_true.1 h4 p hp
   rw [hpr] at h5
   simpa using h5
 ·rcases h3 with h3 | h3
  ·refine .inl fun j f' hj hlt hm => ?_
   have h4 := List.all_eq_true.1 h3 _ (mem j f' hj)
   dsimp only at h4
   rw [memN_spec.2 hm] at h4
   simp at h4
   omega
  ·obtain ⟨⟨f', j⟩, hm, h4⟩ := List.any_eq_true.1 h3
   rw [List.mem_zipIdx_iff_getElem?] at hm
   dsimp only at h4 hm
   rw [Bool.and_eq_true, Bool.and_eq_true] at h4
   exact .inr ⟨j, f', hm, by simpa using h4.1.1, memN_spec.1 h4.1.2, memN_spec.1 h4.2⟩
theorem apE_mem {id : Nat} : ∀ (E : List (Nat × AO)) (H : List AO), id ∈ E.map (·.1) → id < H.length → ∃ o, (id, o) ∈ E ∧ (apE E H)[id]? = some o
 | [], H, h, _ => by cases h
 | p :: E, H, h, hl => by
  rw [apE_cons]
  by_cases hm : id ∈ E.map (·.1)
  ·obtain ⟨o, h1, h2⟩ := apE_mem E (H.set p.1 p.2) hm (by simpa using hl)
   exact ⟨o, List.mem_cons_of_mem _ h1, h2⟩
  ·have hp : p.1 = id := by
    rcases List.mem_cons.1 h with h | h
    ·exact h.symm
    ·exact (hm h).elim
   refine ⟨p.2, by rw [← hp]; exact List.mem_cons_self .., ?_⟩
   rw [apE_other _ _ hm, ← hp]
   simp [hp, hl]
theorem hof_last {id : Nat} : ∀ (Es : List (List (Nat × AO))) (H : List AO) (n : Nat) (D : Nat → Bool), id < H.length →
 (∃ j E o, Es[j]? = some E ∧ D (n + j) = true ∧ (id, o) ∈ E ∧ (hof H Es n D)[id]? = some o) ∨ ((∀ (j : Nat) E, Es[j]? = some E → D (n + j) = true → id ∉ E.map (·.1)) ∧ (hof H Es n D)[id]? = H[id]?)
 | [], H, n, D, _ => .inr ⟨fun j E h => by simp at h, rfl⟩
 | E :: Es, H, n, D, hl => by
  have hl1 : id < (if D n then apE E H else H).length := by split <;> simp only [apE_len, hl]
  simp only [hof]
  rcases hof_last Es _ (n + 1) D hl1 with ⟨j, E', o, h1, h2, h3, h4⟩ | ⟨h1, h2⟩
  ·exact .inl ⟨j + 1, E', o, by simpa using h1, by rw [show n + (j + 1) = n + 1 + j by omega]; exact h2, h3, h4⟩
  ·by_cases hd : D n = true ∧ id ∈ E.map (·.1)
   ·obtain ⟨o, h3, h4⟩ := apE_mem E H hd.2 hl
    exact .inl ⟨0, E, o, rfl, hd.1, h3, by rw [h2, if_pos hd.1]; exact h4⟩
   ·refine .inr ⟨fun j E' hj hD => ?_, ?_⟩
    ·cases j with
     | zero => simp at hj; subst hj; exact fun hm => hd ⟨hD, hm⟩
     | succ j => exact h1 j E' (by simpa using hj) (by rw [show n + 1 + j = n + (j + 1) by omega]; exact hD)
    ·rw [h2]
     split
     ·rename_i hD; exact apE_other _ _ fun hm => hd ⟨hD, hm⟩
     ·rfl
section
variable {P : Program} {k N : Nat}
def LLg [DSt] (P : Program) (N : Nat) (op : Op) (g : List AV) (H : List AO) (f : Fg) (v : AV) : Prop :=
 (∀ r ∈ f.G, rdI H r = true) ∧ ∀ (H2 : List AO) (g' : List AV), H2.length = N → (∀ id ∈ f.F, H2[id]? = H[id]?) → (∀ r ∈ f.G, rdI H2 r = true) → (∀ x ∈ op.operands, ev g' x = ev g x) → OpD P op g' H2 f.ns v (apE f.E H2)
theorem LLg_of {D : DSt} {op : Op} {g : List AV} {H : List AO} {f : Fo} {v : AV} (h : LL P N op g H f v) : LLg P N op g H ⟨f, []⟩ v := ⟨fun r hr => (nomatch hr), fun H2 g' h1 h2 _ h4 => h H2 g' h1 h2 h4⟩
def DWg [DSt] (P : Program) (k N : Nat) (An : List (List Nat)) (Q : List AV → List AO → Prop) : List LOp → List AV → List AO → List Fg → Prop
 | [], g, H, acc => okG k N An acc.reverse = true ∧ Q g H
 | ⟨dst, op, none⟩ :: os, g, H, acc => ∃ f v, LLg P N op g H f v ∧ DWg P k N An Q os (put g dst v) (apE f.E H) (f :: acc)
 | ⟨dst, op, some (d, want)⟩ :: os, g, H, acc => match g[d]? with
  | some (.v (.bool b)) => if b = want then ∃ f v, LLg P N op g H f v ∧ DWg P k N An Q os (put g dst v) (apE f.E H) (f :: acc) else DWg P k N An Q os (put g dst (.v undef)) H (Fg.nil :: acc)
  | some (.v (.tuple _)) => DWg P k N An Q os (put g dst (.v undef)) H (Fg.nil :: acc)
  | _ => False
def LGg [DSt] (P : Program) (N : Nat) (ops : Array Oper) (o : Oper) (g : List AV) (H : List AO) (f : Fg) (v : AV) : Prop :=
 (wantA ops g o = some true ∧ LLg P N o.op g H f v) ∨ (wantA ops g o = some false ∧ f = Fg.nil ∧ v = .v undef)
theorem DWg_vals [DSt] {ops : Array Oper} {An : List (List Nat)} {Q : List AV → List AO → Prop} : ∀ (os : List Oper) (ls : List LOp) (i : Nat) (g : List AV) (H : List AO) (acc : List Fg), lowOps ops os = some ls → DWg P k N An Q ls g H acc →
 ∃ (vs : List AV) (fs : List Fg), vs.length = os.length ∧ fs.length = os.length ∧ okG k N An (acc.reverse ++ fs) = true ∧
  (∀ (j : Nat) o v f, os[j]? = some o → vs[j]? = some v → fs[j]? = some f → LGg P N ops o (gof g os vs i (fun t => decide (t < i + j))) (hof H (fs.map (fun f => f.E)) i (fun t => decide (t < i + j))) f v) ∧
  Q (gof g os vs i (fun t => decide (t < i + os.length))) (hof H (fs.map (fun f => f.E)) i (fun t => decide (t < i + os.length)))
 | [], ls, i, g, H, acc, hl, h => by
  simp only [lowOps] at hl; injection hl with hl; subst hl
  simp only [DWg] at h
  exact ⟨[], [], rfl, rfl, by simpa using h.1, fun j o v f h1 => by simp at h1, by simpa [gof, hof] using h.2⟩
 | o :: os, ls, i, g, H, acc, hl, h => by
  simp only [lowOps] at hl
  split at hl
  case h_2 => cases hl
  rename_i l ls' h1 h2
  injection hl with hl; subst hl
  have main : ∀ f v, LGg P N ops o g H f v → DWg P k N An Q ls' (put g o.dst v) (apE f.E H) (f :: acc) → ∃ (vs : List AV) (fs : List Fg), vs.length = (o :: os).length ∧ fs.length = (o :: os).length ∧ okG k N An (acc.reverse ++ fs) = true ∧
   (∀ (j : Nat) o' v f, (o :: os)[j]? = some o' → vs[j]? = some v → fs[j]? = some f → LGg P N ops o' (gof g (o :: os) vs i (fun t => decide (t < i + j))) (hof H (fs.map (fun f => f.E)) i (fun t => decide (t < i + j))) f v) ∧
   Q (gof g (o :: os) vs i (fun t => decide (t < i + (o :: os).length))) (hof H (fs.map (fun f => f.E)) i (fun t => decide (t < i + (o :: os).length))) := fun f v hg hd => by
   obtain ⟨vs, fs, q1, q2, q3, q4, q5⟩ := DWg_vals os ls' (i + 1) _ _ _ h2 hd
   refine ⟨v :: vs, f :: fs, by simp [q1], by simp [q2], by simpa using q3, fun j o' v' f' k1 k2 k3 => ?_, ?_⟩
   ·cases j with
    | zero =>
     simp at k1 k2 k3
     subst k1; subst k2; subst k3
     simp only [Nat.add_zero]
     have e1 : gof g (o :: os) (v :: vs) i (fun t => decide (t < i)) = g := gof_all fun k => by simp
     have e2 : hof H ((f :: fs).map (fun f => f.E)) i (fun t => decide (t < i)) = H := by
      have : ∀ (Es : List (List (Nat × AO))) (n : Nat), i ≤ n → hof H Es n (fun t => decide (t < i)) = H := by
       intro Es
       induction Es with
       | nil => intro n _; rfl
       | cons E Es ih => intro n hn; simp only [hof]; rw [if_neg (by simp; omega)]; exact ih _ (by omega)
      exact this _ _ (Nat.le_refl _)
     rw [e1, e2]
     exact hg
    | succ j =>
     have := q4 j o' v' f' (by simpa using k1) (by simpa using k2) (by simpa using k3)
     simp only [gof, List.map_cons, hof]
     rw [if_pos (by simp), if_pos (by simp)]
     have e : i + (j + 1) = i + 1 + j := by omega
     simp only [e]
     exact this
   ·simp only [gof, List.map_cons, hof, List.length_cons]
    rw [if_pos (by simp), if_pos (by simp)]
    have e : i + (os.length + 1) = i + 1 + os.length := by omega
    simp only [e]
    exact q5
  unfold lowOp at h1
  split at h1
  ·rename_i hgd
   injection h1 with h1; subst h1
   simp only [DWg] at h
   obtain ⟨f, v, h3, h4⟩ := h
   exact main f v (.inl ⟨by simp only [wantA, hgd], h3⟩) h4
  ·rename_i j want hgd
   split at h1
   ·rename_i d hd
    injection h1 with h1; subst h1
    simp only [DWg] at h
    split at h
    ·rename_i b hb
     have hw : wantA ops g o = some (b == want) := by simp only [wantA, hgd]; erw [hd]; simp only [hb]
     split at h
     ·rename_i hbw
      obtain ⟨f, v, h3, h4⟩ := h
      exact main f v (.inl ⟨by rw [hw, hbw]; simp, h3⟩) h4
     ·rename_i hbw
      exact main Fg.nil _ (.inr ⟨by rw [hw]; simpa using hbw, rfl, rfl⟩) h
    ·rename_i t ht
     have hw : wantA ops g o = some false := by simp only [wantA, hgd]; erw [hd]; simp only [ht]
     exact main Fg.nil _ (.inr ⟨hw, rfl, rfl⟩) h
    ·exact h.elim
   ·cases h1
theorem BW_drawnG [DSt] {id : Nat} {ops : Array Oper} {ls : List LOp} {An : List (List Nat)} {Q : Exit → List AV → List AO → Prop} {g : List AV} {H : List AO} (hlow : lowOps ops ops.toList = some ls) (hm : P.follows .mixedOrders = true) (hlex : lexOK ops.toList = true) (han : ancOK ops.toList An = true)
 (s : Nat) (hk : k ≤ H.length) (h : DWg P H.length (H.length + s) An (Q .normal) ls g (H ++ List.replicate s .dead) []) : BW P k (.region id ops true) Q g H := by
 intro I m a w hr hg hd
 obtain ⟨vs, fs, hvl, hfl, hok, hstep, hfin⟩ := DWg_vals ops.toList ls 0 g _ [] hlow h
 simp only [List.reverse_nil, List.nil_append, Nat.zero_add, Array.length_toList] at hok hstep hfin hvl hfl
 obtain ⟨hw1, hw2⟩ := lexOK_spec hlex
 unfold okG at hok
 rw [Bool.and_eq_true] at hok
 obtain ⟨hok1, hok2⟩ := hok
 have hsp := okA_spec hok1
 have hmap : ∀ (i : Nat) (f : Fg), fs[i]? = some f → (fs.map (·.toFo))[i]? = some f.toFo := fun i f h => by simp [h]
 have hA1 := fun (i : Nat) (f : Fg) (hf : fs[i]? = some f) => hsp.1 i f.toFo (hmap i f hf)
 have hA2 := fun (i j : Nat) (f f' : Fg) (hf : fs[i]? = some f) (hf' : fs[j]? = some f') => hsp.2 i j f.toFo f'.toFo (hmap i f hf) (hmap j f' hf')
 have hGs := gOK_spec hok2
 generalize hH0 : H ++ List.replicate s AO.dead = H0 at *
 have hml := hr.len
 let m0 : List Loc := m ++ List.replicate s ⟨0, 0, 0, 0⟩
 have hH0l : H0.length = H.length + s := by rw [← hH0]; simp
 have hm0 : ∀ (j : Nat) L, lk m j = some L → lk m0 j = some L := fun j L hj => lk_pre hj
 have hm0r : ∀ (j : Nat) L, j < H.length → m0[j]? = some L → m[j]? = some L := fun j L hj hL => by
  rw [List.getElem?_append_left (by omega)] at hL; exact hL
 have hfree : ∀ j, H.length ≤ j → lk m0 j = none := fun j hj => by
  unfold lk
  rw [List.getElem?_append_right (by omega), List.getElem?_replicate]
  by_cases h : j - m.length < s
  ·simp [h]
  ·simp [h]
 have halv : ∀ (j : Nat) o L, H0[j]? = some o → m0[j]? = some L → o.alive = true → H[j]? = some o ∧ m[j]? = some L := fun j o L h1 h2 h3 => by
  rw [← hH0] at h1
  by_cases hj : j < H.length
  ·rw [List.getElem?_append_left hj] at h1
   exact ⟨h1, hm0r j L hj h2⟩
  ·rw [List.getElem?_append_right (by omega), List.getElem?_replicate] at h1
   split at h1
   ·injection h1 with h1; subst h1; cases h3
   ·cases h1
 have hown0 : ∀ b, Own H0 m0 b → Own H m b := fun b ⟨j, o, L, q1, q2, q3, q4, q5⟩ => by
  obtain ⟨r1, r2⟩ := halv j o L q1 q3 q2
  exact ⟨j, o, L, r1, q2, r2, q4, q5⟩
 have hr0 : HR I m0 H0 w := by
  refine ⟨by simp [m0, hH0l, hml], fun j o L h1 h2 => ?_, fun i j oi oj Li Lj hij hi hj ai aj mi mj => ?_, fun b hb hO => hr.imm b hb (hown0 b hO), hr.ilt, hr.gl⟩
  ·by_cases hj : j < H.length
   ·rw [← hH0, List.getElem?_append_left hj] at h1
    exact OR.le hm0 (fun _ h => h) (fun _ _ => rfl) (fun _ _ => rfl) (hr.ob j o L h1 (hm0r j L hj h2))
   ·rw [← hH0, List.getElem?_append_right (by omega), List.getElem?_replicate] at h1
    split at h1
    ·injection h1 with h1; subst h1; simp only [OR]
    ·cases h1
  ·obtain ⟨q1, q2⟩ := halv i oi Li hi mi ai
   obtain ⟨q3, q4⟩ := halv j oj Lj hj mj aj
   exact hr.inj i j oi oj Li Lj hij q1 q3 ai aj q2 q4
 let Es := fs.map (fun f => f.E)
 let S : (Nat → Bool) → Act → World → Prop := fun D a' w' => ∃ I' m', HR I' m' (hof H0 Es 0 D) w' ∧ VRs I' m' w' (gof g ops.toList vs 0 D) a'.tmps.toList ∧ a'.defers = DSt.l ∧ Ex I (Own H m) w I' (Own (hof H0 Es 0 D) m') w' ∧ (∀ id, id < H.length → m'[id]? = m[id]?) ∧ ∀ (i : Nat) f, fs[i]? = some f → D i = false → ∀ x ∈ f.ns, lk m' x = none
 refine draw_any hm (fun i o ho j hj => hw1 i o (by simpa using ho) j hj) S ?_ ?_ ?_
 ·refine ⟨I, m0, ?_, ?_, hd, ⟨rfl, rfl, rfl, Nat.le_refl _, fun _ _ _ => rfl, fun _ h => h, fun b h => .inl ?_, fun _ h => .inl h⟩, fun id hid => by rw [List.getElem?_append_left (by omega)], fun i f hf _ x hx => hfree x (hA1 i f hf x hx).1⟩
  ·have e : ∀ (Es : List (List (Nat × AO))) (n : Nat), hof H0 Es n (fun _ => false) = H0 := by
    intro Es
    induction Es with
    | nil => intro n; rfl
    | cons E Es ih => intro n; simp only [hof, Bool.false_eq_true, if_false]; exact ih _
   rw [e]
   exact HR.of_heap (w := w) (w' := { w with drawn := w.drawn + 1 }) rfl hr0
  ·rw [gof_all fun k => rfl]
   exact VRs.of_heap (w := w) (w' := { w with drawn := w.drawn + 1 }) rfl (VRs.le hm0 (fun _ h => h) (fun _ _ => rfl) hg)
  ·have e : ∀ (Es : List (List (Nat × AO))) (n : Nat), hof H0 Es n (fun _ => false) = H0 := by
    intro Es
    induction Es with
    | nil => intro n; rfl
    | cons E Es ih => intro n; simp only [hof, Bool.false_eq_true, if_false]; exact ih _
   rw [e] at h
   exact hown0 b h
 ·rintro D a' w' i o ho hDi hwt hcl ⟨I', m', k1, k2, k3, k4, k5, k6⟩
  have hlt' : i < ops.size := (Array.getElem?_eq_some_iff.1 ho).1
  have hot : ops.toList[i]? = some o := by simpa using ho
  obtain ⟨v, hv⟩ : ∃ v, vs[i]? = some v := ⟨vs[i]'(by omega), List.getElem?_eq_getElem (by omega)⟩
  obtain ⟨f, hf⟩ : ∃ f, fs[i]? = some f := ⟨fs[i]'(by omega), List.getElem?_eq_getElem (by omega)⟩
  have hlook := gof_look (g := g) hlex hvl ho hDi hwt hcl
  have hput := gof_put (g := g) (D := D) hlex hvl ho hv
  obtain ⟨hops, hwant⟩ := looks_op hlook
  have hs := hstep i o v f hot hv hf
  have hanc := ancOK_spec han (D := D) (fun i hi o ho => hcl i hi o (by simpa using ho))
  have before : ∀ (j : Nat) f', fs[j]? = some f' → ∀ id ∈ f'.E.map (·.1), id ∈ f.F ∨ id ∈ f.E.map (·.1) → j ≠ i → D j = decide (j < i) := fun j f' hj id hid hF hne => by
   obtain ⟨q1, _⟩ := hA2 i j f f' hf hj (Ne.symm hne)
   obtain ⟨q2, q3⟩ := q1 id hid hF
   have hjl : j < ops.size := by have := (List.getElem?_eq_some_iff.1 hj).1; omega
   by_cases hlt2 : j < i
   ·rw [hanc i o hot hwt j (q2 hlt2) (by simpa using hjl)]; simp [hlt2]
   ·cases hh : D j with
    | false => simp [hlt2]
    | true =>
     have hjo : ops.toList[j]? = some ops[j] := by simp [hjl]
     have := hanc j ops[j] hjo (fun l hl => hcl j hh ops[j] (by simp [hjl]) l hl) i (q3 (by omega)) (by simpa using hlt')
     rw [hDi] at this; cases this
  have hEs : ∀ (j : Nat) E, Es[j]? = some E → ∃ f', fs[j]? = some f' ∧ E = f'.E := fun j E hE => by
   simp only [Es, List.getElem?_map, Option.map_eq_some_iff] at hE
   obtain ⟨f', h1, h2⟩ := hE
   exact ⟨f', h1, h2.symm⟩
  have hHi : ∀ id ∈ f.F, (hof H0 Es 0 D)[id]? = (hof H0 Es 0 (fun t => decide (t < i)))[id]? := fun id hid => by
   refine hof_congr Es H0 H0 0 D _ rfl rfl fun j E hE hm => ?_
   obtain ⟨f', h1, rfl⟩ := hEs j E hE
   rw [Nat.zero_add]
   by_cases hji : j = i
   ·subst hji; rw [hDi]; simp
   ·exact before j f' h1 id hm (.inl hid) hji
  have hnext : hof H0 Es 0 (Dset D i) = apE f.E (hof H0 Es 0 D) := by
   have := hof_step Es H0 0 i f.E D (by simp [Es, hf]) (by rw [Nat.zero_add]; exact hDi) fun j E' hj hE hDj id hid hid' => by
    obtain ⟨f', h1, rfl⟩ := hEs j E' hE
    have := before j f' h1 id hid' (.inr hid) (by omega)
    rw [Nat.zero_add] at hDj
    rw [hDj] at this
    simp at this; omega
   rwa [Nat.zero_add] at this
  unfold wpOp
  simp only [ho]
  rcases hs with ⟨hwa, hll⟩ | ⟨hwa, rfl, rfl⟩
  ·rw [hwant] at hwa
   rw [if_pos (wantA_ok k2 hwa)]
   have hG : ∀ r ∈ f.G, rdI (hof H0 Es 0 D) r = true := fun r hr => by
    obtain ⟨gA, gB⟩ := hGs i f hf r hr
    have hpre := hll.1 r hr
    have hlt : r.1 < H0.length := by
     unfold rdI at hpre
     cases hx : (hof H0 Es 0 (fun t => decide (t < i)))[r.1]? with
     | none => rw [hx] at hpre; cases hpre
     | some o => have := (List.getElem?_eq_some_iff.1 hx).1; rw [hof_len] at this; exact this
    rcases hof_last Es H0 0 D hlt with ⟨j, E, o, q1, q2, q3, q4⟩ | ⟨q1, q2⟩
    ·obtain ⟨f', hj, rfl⟩ := hEs j E q1
     rw [Nat.zero_add] at q2
     unfold rdI
     rw [q4]
     refine gA j f' hj (fun e => by subst e; rw [hDi] at q2; cases q2) (fun hm => ?_) _ q3 rfl
     have hjl : j < ops.size := by have := (List.getElem?_eq_some_iff.1 hj).1; omega
     have := hanc j ops[j] (by simp [hjl]) (fun l hl => hcl j q2 ops[j] (by simp [hjl]) l hl) i hm (by simpa using hlt')
     rw [hDi] at this; cases this
    ·rcases gB with gB | ⟨j, f', hj, hji, hm, ha⟩
     ·unfold rdI at hpre ⊢
      rw [q2]
      rcases hof_last Es H0 0 (fun t => decide (t < i)) hlt with ⟨j, E, o, t1, t2, t3, t4⟩ | ⟨t1, t2⟩
      ·obtain ⟨f', hj, rfl⟩ := hEs j E t1
       exact (gB j f' hj (by simpa using t2) (List.mem_map.2 ⟨_, t3, rfl⟩)).elim
      ·rw [t2] at hpre; exact hpre
     ·have hjl : j < ops.size := by have := (List.getElem?_eq_some_iff.1 hj).1; omega
      have := hanc i o hot hwt j ha (by simpa using hjl)
      exact (q1 j f'.E (by simp [Es, hj]) (by rw [Nat.zero_add]; exact this) hm).elim
   have hop := hll.2 (hof H0 Es 0 D) (gof g ops.toList vs 0 D) (by rw [hof_len, hH0l]) hHi hG hops
   refine OWP.mono ?_ (hop I' m' a' w' o _ rfl k1 k2 k3 (fun x hx => k6 i f hf hDi x hx))
   rintro a2 w2 ⟨I2, m2, j1, j2, j3, j4, j5⟩
   rw [hput] at j2
   refine ⟨I2, m2, by rw [hnext]; exact j1, j2, j3, by rw [hnext]; exact k4.trans j4, fun id hid => ?_, fun j f' hj hDj x hx => ?_⟩
   ·rw [j5 id fun h => by have := (hA1 i f hf id h).1; omega]; exact k5 id hid
   ·have hji : j ≠ i := fun e => by subst e; simp [Dset] at hDj
    have hDj' : D j = false := by simpa [Dset, hji] using hDj
    have hx' : x ∉ f.ns := (hA2 j i f' f hj hf hji).2 x hx
    have := k6 j f' hj hDj' x hx
    unfold lk at this ⊢
    rw [j5 x hx']; exact this
  ·rw [hwant] at hwa
   rw [if_neg (by rw [wantA_ok k2 hwa]; simp)]
   refine ⟨I', m', by rw [hnext]; exact k1, by rw [← hput]; exact put_ok k2 o.dst (by simp only [VR]), put_defers k3, by rw [hnext]; exact k4, k5, fun j f' hj hDj x hx => ?_⟩
   have hji : j ≠ i := fun e => by subst e; simp [Dset] at hDj
   exact k6 j f' hj (by simpa [Dset, hji] using hDj) x hx
 ·rintro D a' w' hall ⟨I', m', k1, k2, k3, k4, k5, k6⟩
  have e1 : gof g ops.toList vs 0 D = gof g ops.toList vs 0 (fun j => decide (j < ops.size)) := gof_congr _ _ _ _ _ _ fun k hk => by
   simp only [Array.length_toList] at hk
   rw [Nat.zero_add, hall k hk]; simp [hk]
  have e2 : hof H0 Es 0 D = hof H0 Es 0 (fun j => decide (j < ops.size)) := by
   apply List.ext_getElem?
   intro t
   refine hof_congr Es H0 H0 0 _ _ rfl rfl fun k E hE _ => ?_
   have hk : k < ops.size := by
    have := (List.getElem?_eq_some_iff.1 hE).1
    simp only [Es, List.length_map] at this; omega
   rw [Nat.zero_add, hall k hk]; simp [hk]
  rw [e1] at k2
  rw [e2] at k1 k4
  exact ⟨_, _, I', m', hfin, k1, k2, k3, k4, fun i L hi hL => by rw [k5 i (by omega)]; exact hL⟩
end
theorem LLg_free [DSt] {P : Program} {N : Nat} {g : List AV} {H : List AO} {op : Op} {v : AV} (G : List Rd) (h0 : ∀ r ∈ G, rdI H r = true) (h : ∀ (H2 : List AO) (g' : List AV), (∀ r ∈ G, rdI H2 r = true) → (∀ x ∈ op.operands, ev g' x = ev g x) → aop P g' H2 op = some (v, H2)) : LLg P N op g H ⟨⟨[], [], []⟩, G⟩ v := by
 refine ⟨h0, fun H2 g' hl _ hG hops => ?_⟩
 intro I m a w o Q ho hr hg hd hv
 obtain ⟨y, w', m', h3, h4, h5, h6⟩ := op_sound (P := P) hr hg (o := o) (v := v) (H' := H2) (by rw [ho]; exact h H2 g' hG hops)
 have fin : ∃ I' m', HR I' m' (apE [] H2) w' ∧ VRs I' m' w' (put g' o.dst v) (a.put o.dst y).tmps.toList ∧ (a.put o.dst y).defers = DSt.l ∧ Ex I (Own H2 m) w I' (Own (apE [] H2) m') w' ∧ ∀ id, id ∉ ([] : List Nat) → m'[id]? = m[id]? := by
  obtain ⟨nu, rfl⟩ := h6.pre
  obtain rfl := nu_nil hr h5 rfl
  simp only [List.append_nil] at h4 h5 h6
  exact ⟨I, m, h5, put_ok (Ext.vrs hr h6 hg) o.dst h4, put_defers hd, h6.ex, fun _ _ => rfl⟩
 refine OWP.of ?_ (not_defer h3)
 unfold Oper.wp
 rcases h3 with h3 | ⟨h3, rfl⟩
 ·rw [h3]; simp only [Oper.upon]; exact fin
 ·rw [h3]; simp only [Oper.upon]; exact fin
end Go.Abs
namespace Go.Abs
open Go
def orE {α : Type} : Option α → Option α → Option α
 | some x, _ => some x
 | none, y => y
noncomputable def fExec (P : Program) (call : CT) (g : List AV) (h : HP) (s : Nat) (op : Op) : Option (AV × HP × Fo) := orE (dExec P call g h s op) (orE (dX P g h op) (dR P g h s op))
def gFree (h : HP) : Option AV → Option (AV × HP × Fg)
 | some v => some (v, h, Fg.nil)
 | none => none
def gL3 (h : HP) (v : AV) (r : Rd) : Bool → Option (AV × HP × Fg)
 | true => some (v, h, ⟨⟨[], [], []⟩, [r]⟩)
 | false => none
def vsAg : AV → List AV
 | .ag vs => vs
 | v => [v]
noncomputable def vsOf (P : Program) (t : TypeId) (v : AV) : List AV := match ti P t with
 | some i => match isAggD i.desc with
  | true => vsAg v
  | false => [v]
 | none => []
noncomputable def gL2 (P : Program) (h : HP) (t : TypeId) (id off : Nat) : Option AV → Option (AV × HP × Fg)
 | some v => gL3 h v (id, off, vsOf P t v) (rdO off (vsOf P t v) (rGet h id))
 | none => none
noncomputable def gLoad (P : Program) (h : HP) (t : TypeId) : AV → Option (AV × HP × Fg)
 | .pt id off => gL2 P h t id off (oLoad2 P t (fCells h (.pt id off)))
 | _ => none
noncomputable def gX (P : Program) (g : List AV) (h : HP) : Op → Option (AV × HP × Fg)
 | .move x => some (evF g x, h, Fg.nil)
 | .assign x => some (evF g x, h, Fg.nil)
 | .nilCheck x => gFree h (oNil (evF g x))
 | .fieldAddr t x f => gFree h (oFieldA P t f (evF g x))
 | .extract t i => gFree h (oExtract i (evF g t))
 | .load t a => gLoad P h t (evF g a)
 | _ => none
def gUp : Option (AV × HP × Fo) → Option (AV × HP × Fg)
 | some (v, h, f) => some (v, h, ⟨f, []⟩)
 | none => none
noncomputable def gExec (P : Program) (call : CT) (g : List AV) (h : HP) (s : Nat) (op : Op) : Option (AV × HP × Fg) := orE (gX P g h op) (gUp (fExec P call g h s op))
noncomputable def fStep (P : Program) (call : CT) (g : List AV) (h : HP) (s : Nat) (op : Op) : Option Bool → Option (AV × HP × Fg)
 | some true => gExec P call g h s op
 | some false => some (.v undef, h, Fg.nil)
 | none => none
abbrev GR := Option (List AV × HP × List Fg)
def gNext (ih : List AV → HP → List Fg → GR) (put : AV → List AV) (acc : List Fg) : Option (AV × HP × Fg) → GR
 | some (v, h', f) => ih (put v) h' (f :: acc)
 | none => none
noncomputable def slotG (k : Nat) (acc : List Fg) : Nat := slot k (acc.map (·.toFo))
noncomputable def fOps (P : Program) (call : CT) (k : Nat) (l : List LOp) : List AV → HP → List Fg → GR :=
 List.rec (motive := fun _ => List AV → HP → List Fg → GR) (fun g h acc => some (g, h, acc))
  (fun o _ ih g h acc => gNext ih (fun v => putF g v o.dst) acc (fStep P call g h (slotG k acc) o.op (dGuard g o.guard))) l
noncomputable def gEnd (k N : Nat) (An : List (List Nat)) : GR → Option (List AV × HP)
 | some (g, h, acc) => match okG k N An acc.reverse with
  | true => some (g, h)
  | false => none
 | none => none
theorem rdO_spec {a : Nat} {vs : List AV} {o : Option AO} (h : rdO a vs o = true) : ∃ sz cs, o = some (.cells sz cs) ∧ a + vs.length ≤ cs.length ∧ (cs.drop a).take vs.length = vs := by
 unfold rdO at h
 split at h
 ·rename_i sz cs
  rw [Bool.and_eq_true] at h
  exact ⟨sz, cs, rfl, Nat.le_of_ble_eq_true h.1, beqVs_spec h.2⟩
 ·cases h
theorem fApart_same {P : Program} {t : TypeId} {cs cs2 : List AV} {off : Nat} {v : AV} (h : fApart P t cs off = some v) (h1 : off + (vsOf P t v).length ≤ cs.length) (h2 : off + (vsOf P t v).length ≤ cs2.length) (h3 : (cs2.drop off).take (vsOf P t v).length = vsOf P t v) : fApart P t cs2 off = some v := by
 unfold fApart at h ⊢
 cases ht : ti P t with
 | none => rw [ht] at h; cases h
 | some i =>
  rw [ht] at h
  cases ha : isAggD i.desc
  ·have hv : vsOf P t v = [v] := by unfold vsOf; rw [ht]; simp only [ha]
   rw [hv] at h2 h3
   simp only [ha] at h ⊢
   rw [nthO_eq]
   have := congrArg (fun l => l[0]?) h3
   simp only [List.length_cons, List.length_nil, List.getElem?_take, List.getElem?_drop] at this
   simpa using this
  ·simp only [ha] at h ⊢
   split at h
   ·rename_i hc
    cases h
    have hv : vsOf P t (.ag ((cs.drop off).take i.size)) = (cs.drop off).take i.size := by unfold vsOf; rw [ht]; simp only [ha]; rfl
    rw [hv] at h2 h3
    have hl : ((cs.drop off).take i.size).length = i.size := by rw [List.length_take, List.length_drop]; omega
    rw [hl] at h2 h3
    rw [if_pos h2, h3]
   ·cases h
section
variable {P : Program} {call : CT} {k N : Nat} {An : List (List Nat)}
theorem fExec_ok [DSt] (hc : CTok P call) {g : List AV} {h : HP} (hk : h.ok) (hN : h.n = N) {op : Op} {acc : List Fo} {v : AV} {h1 : HP} {f : Fo} (e : fExec P call g h (slot k acc) op = some (v, h1, f)) (dst : Option Tmp) :
 (h1.ok ∧ h1.n = N) ∧ ∃ f0 v0, LL P N op g h.L f0 v0 ∧ put g dst v0 = put g dst v ∧ apE f0.E h.L = h1.L ∧ f0 :: acc = f :: acc := by
 unfold fExec at e
 cases hx : dExec P call g h (slot k acc) op with
 | some r =>
  rw [hx] at e
  cases e
  obtain ⟨q1, q2⟩ := dExec_keep hk hx
  have hY := dExec_ok (k := k) (N := N) (An := []) (Q := fun _ _ => True) (R := fun _ g1 H1 acc1 => g1 = put g dst v ∧ H1 = h1.L ∧ acc1 = f :: acc) (os := []) (dst := dst) hc hk hN hx ⟨rfl, rfl, rfl⟩
  obtain ⟨f0, v0, r1, r2, r3, r4⟩ := YDo_ok (by rw [HP.len hk]; exact hN) hY
  exact ⟨⟨q1, q2.trans hN⟩, f0, v0, r1, r2, r3, r4⟩
 | none =>
  rw [hx] at e
  cases hX : dX P g h op with
  | some r =>
   rw [hX] at e
   cases e
   obtain ⟨q1, q2, q3⟩ := dX_ok hk hN hX
   exact ⟨q1, f, v, q2, rfl, q3.symm, rfl⟩
  | none =>
   rw [hX] at e
   have e : dR P g h (slot k acc) op = some (v, h1, f) := e
   obtain ⟨q1, q2, q3⟩ := dR_ok hk hN e
   exact ⟨q1, f, v, q2, rfl, q3.symm, rfl⟩
theorem gX_ok [DSt] {g : List AV} {h : HP} (hk : h.ok) {op : Op} {v : AV} {h1 : HP} {f : Fg} (e : gX P g h op = some (v, h1, f)) : h1 = h ∧ f.E = [] ∧ LLg P N op g h.L f v := by
 have free : ∀ {op : Op} {v : AV}, (∀ g' H2, (∀ x ∈ op.operands, ev g' x = ev g x) → fop P g' (hpOf H2) op = some (v, hpOf H2)) → LLg P N op g h.L Fg.nil v := fun {op v} q =>
  LLg_free [] (fun r hr => (nomatch hr)) fun H2 g' _ hops => by
   have := (fop_ok (hpOf_ok H2) op (q g' H2 hops)).1
   rw [hpOf_L] at this
   exact this
 unfold gX at e
 split at e
 ·rename_i x
  cases e
  exact ⟨rfl, rfl, free fun g' H2 hops => by simp only [fop, evF_eq]; rw [hops x (by simp [Op.operands])]⟩
 ·rename_i x
  cases e
  exact ⟨rfl, rfl, free fun g' H2 hops => by simp only [fop, evF_eq]; rw [hops x (by simp [Op.operands])]⟩
 ·rename_i x
  cases hq : oNil (evF g x) with
  | none => rw [hq] at e; cases e
  | some y =>
   rw [hq] at e
   cases e
   exact ⟨rfl, rfl, free fun g' H2 hops => by simp only [fop, evF_eq]; rw [hops x (by simp [Op.operands]), ← evF_eq, hq]; rfl⟩
 ·rename_i t x fd
  cases hq : oFieldA P t fd (evF g x) with
  | none => rw [hq] at e; cases e
  | some y =>
   rw [hq] at e
   cases e
   exact ⟨rfl, rfl, free fun g' H2 hops => by simp only [fop, evF_eq]; rw [hops x (by simp [Op.operands]), ← evF_eq, hq]; rfl⟩
 ·rename_i x i
  cases hq : oExtract i (evF g x) with
  | none => rw [hq] at e; cases e
  | some y =>
   rw [hq] at e
   cases e
   exact ⟨rfl, rfl, free fun g' H2 hops => by simp only [fop, evF_eq]; rw [hops x (by simp [Op.operands]), ← evF_eq, hq]; rfl⟩
 ·rename_i t a
  rw [evF_eq] at e
  generalize ha : ev g a = av at e
  unfold gLoad at e
  split at e
  ·rename_i id off
   cases hl : oLoad2 P t (fCells h (.pt id off)) with
   | none => rw [hl] at e; cases e
   | some v0 =>
    rw [hl] at e
    simp only [gL2] at e
    cases hr : rdO off (vsOf P t v0) (rGet h id)
    ·rw [hr] at e; cases e
    ·rw [hr] at e
     cases e
     obtain ⟨sz, cs, q1, q2, q3⟩ := rdO_spec hr
     simp only [fCells, q1] at hl
     refine ⟨rfl, rfl, LLg_free _ (fun r hrr => ?_) fun H2 g' hG hops => ?_⟩
     ·rw [List.mem_singleton.1 hrr]
      unfold rdI
      rw [← rGet_eq hk]
      exact hr
     ·have hg := hG _ (List.mem_singleton.2 rfl)
      unfold rdI at hg
      rw [← hpOf_L H2, ← rGet_eq (hpOf_ok H2)] at hg
      obtain ⟨sz2, cs2, p1, p2, p3⟩ := rdO_spec hg
      have hf : fop P g' (hpOf H2) (.load t a) = some (v, hpOf H2) := by
       simp only [fop, evF_eq]
       rw [hops a (by simp [Op.operands]), ha]
       simp only [fCells]
       rw [p1]
       have : fApart P t cs2 off = some v := fApart_same (cs := cs) hl q2 p2 p3
       simp only [cellsO, oLoad2, this, wrapH]
      have := (fop_ok (hpOf_ok H2) _ hf).1
      rw [hpOf_L] at this
      exact this
  ·cases e
 ·cases e
theorem gExec_ok [DSt] (hc : CTok P call) {g : List AV} {h : HP} (hk : h.ok) (hN : h.n = N) {op : Op} {acc : List Fg} {v : AV} {h1 : HP} {f : Fg} (e : gExec P call g h (slotG k acc) op = some (v, h1, f)) (dst : Option Tmp) :
 (h1.ok ∧ h1.n = N) ∧ ∃ f0 v0, LLg P N op g h.L f0 v0 ∧ put g dst v0 = put g dst v ∧ apE f0.E h.L = h1.L ∧ f0 :: acc = f :: acc := by
 unfold gExec at e
 cases hx : gX P g h op with
 | some r =>
  rw [hx] at e
  cases e
  obtain ⟨rfl, q2, q3⟩ := gX_ok (N := N) hk hx
  exact ⟨⟨hk, hN⟩, f, v, q3, rfl, by rw [q2]; rfl, rfl⟩
 | none =>
  rw [hx] at e
  have e : gUp (fExec P call g h (slotG k acc) op) = some (v, h1, f) := e
  cases hf : fExec P call g h (slotG k acc) op with
  | none => rw [hf] at e; cases e
  | some r =>
   obtain ⟨v1, h2, f1⟩ := r
   rw [hf] at e
   have e : some (v1, h2, (⟨f1, []⟩ : Fg)) = some (v, h1, f) := e
   injection e with e
   injection e with e1 e
   injection e with e2 e3
   subst e1; subst e2; subst e3
   unfold slotG at hf
   generalize acc.map (·.toFo) = acc0 at hf
   obtain ⟨q1, f0, v0, r1, r2, r3, r4⟩ := @fExec_ok P call k N _ hc g h hk hN op acc0 v1 h2 f1 hf dst
   injection r4 with r4
   subst r4
   exact ⟨q1, ⟨f0, []⟩, v0, LLg_of r1, r2, r3, rfl⟩
theorem fOps_ok [DSt] (hc : CTok P call) : ∀ (ls : List LOp) {g : List AV} {h : HP} {acc : List Fg} {g' : List AV} {h' : HP} {acc' : List Fg}, h.ok → h.n = N → fOps P call k ls g h acc = some (g', h', acc') → okG k N An acc'.reverse = true →
 (h'.ok ∧ h'.n = N) ∧ DWg P k N An (fun g1 H1 => g1 = g' ∧ H1 = h'.L) ls g h.L acc
 | [], g, h, acc, g', h', acc', hk, hN, e, ho => by cases e; exact ⟨⟨hk, hN⟩, ho, rfl, rfl⟩
 | ⟨dst, op, gd⟩ :: os, g, h, acc, g', h', acc', hk, hN, e0, ho => by
  have e : gNext (fOps P call k os) (fun v => putF g v dst) acc (fStep P call g h (slotG k acc) op (dGuard g gd)) = some (g', h', acc') := e0
  clear e0
  cases hs : fStep P call g h (slotG k acc) op (dGuard g gd) with
  | none => rw [hs] at e; cases e
  | some r =>
   obtain ⟨v, h1, f⟩ := r
   rw [hs] at e
   simp only [gNext, putF_eq] at e
   have yes : gExec P call g h (slotG k acc) op = some (v, h1, f) → (h'.ok ∧ h'.n = N) ∧ ∃ f v, LLg P N op g h.L f v ∧ DWg P k N An (fun g1 H1 => g1 = g' ∧ H1 = h'.L) os (put g dst v) (apE f.E h.L) (f :: acc) := fun q => by
    obtain ⟨⟨q1, q2⟩, f0, v0, r1, r2, r3, r4⟩ := gExec_ok hc hk hN q dst
    obtain ⟨t1, t2⟩ := fOps_ok hc os q1 q2 e ho
    refine ⟨t1, f0, v0, r1, ?_⟩
    rw [r2, r3, r4]
    exact t2
   cases gd with
   | none =>
    obtain ⟨t1, f0, v0, r1, r2⟩ := yes hs
    exact ⟨t1, by simp only [DWg]; exact ⟨f0, v0, r1, r2⟩⟩
   | some dw =>
    obtain ⟨d, want⟩ := dw
    rw [dGuard_eq] at hs
    simp only [DWg]
    generalize g[d]? = x at *
    have go : ∀ b, gB want x = some b → (b = true → gExec P call g h (slotG k acc) op = some (v, h1, f)) ∧ (b = false → v = .v undef ∧ h1 = h ∧ f = Fg.nil) := fun b hb => by
     rw [hb] at hs
     cases b
     ·cases hs; exact ⟨fun q => (by cases q), fun _ => ⟨rfl, rfl, rfl⟩⟩
     ·exact ⟨fun _ => hs, fun q => (by cases q)⟩
    have no : v = .v undef ∧ h1 = h ∧ f = Fg.nil → (h'.ok ∧ h'.n = N) ∧ DWg P k N An (fun g1 H1 => g1 = g' ∧ H1 = h'.L) os (put g dst (.v undef)) h.L (Fg.nil :: acc) := fun ⟨q1, q2, q3⟩ => by
     subst q1; subst q2; subst q3
     exact fOps_ok hc os hk hN e ho
    cases x with
    | none => cases hs
    | some y =>
     cases y <;> first | (cases hs; done) | skip
     rename_i z
     cases z <;> first | (cases hs; done) | skip
     ·rename_i b
      by_cases hb : b = want
      ·obtain ⟨t1, f0, v0, r1, r2⟩ := yes ((go true (by simp [gB, hb])).1 rfl)
       exact ⟨t1, by simp only [if_pos hb]; exact ⟨f0, v0, r1, r2⟩⟩
      ·obtain ⟨t1, t2⟩ := no ((go false (by simp [gB, hb])).2 rfl)
       exact ⟨t1, by simp only [if_neg hb]; exact t2⟩
     ·exact no ((go false rfl).2 rfl)
end
noncomputable def fRun3 (P : Program) (call : CT) (s : Nat) (An : List (List Nat)) (g : List AV) (h : HP) (ls : List LOp) : Bool → Option (List AV × HP)
 | true => gEnd h.n (h.n + s) An (fOps P call h.n ls g (padH s h) [])
 | false => none
noncomputable def fRun2 (P : Program) (call : CT) (s : Nat) (ops : List Oper) (An : List (List Nat)) (g : List AV) (h : HP) : Option (List LOp) → Option (List AV × HP)
 | some ls => fRun3 P call s An g h ls (lexOK ops && ancOK ops An)
 | none => none
noncomputable def fRunN (P : Program) (call : CT) (x : Nat) : DT := fun ops g h => fRun2 P call (newMany ops.toList + x) ops.toList (ancs ops.toList) g h (lowOps ops ops.toList)
theorem fRunN_ok {P : Program} (hm : P.follows .mixedOrders = true) {call : CT} (hc : CTok P call) (x : Nat) : DTok P (fRunN P call x) := by
 intro ops g h g' h' hk e
 unfold fRunN fRun2 at e
 split at e
 ·rename_i ls hls
  unfold fRun3 at e
  split at e
  ·rename_i hb
   rw [Bool.and_eq_true] at hb
   generalize hs : newMany ops.toList + x = s at e
   cases hd : fOps P call h.n ls g (padH s h) [] with
   | none => rw [hd] at e; cases e
   | some r =>
    obtain ⟨g1, h1, acc1⟩ := r
    rw [hd] at e
    simp only [gEnd] at e
    split at e
    ·rename_i ho
     cases e
     obtain ⟨p1, p2⟩ := padH_ok hk s
     obtain ⟨r1, r2⟩ := (@fOps_ok P call h.n (h.n + s) (ancs ops.toList) noDefers hc ls g (padH s h) [] g' h' acc1 p1 rfl hd ho).1
     refine ⟨⟨r1, by omega⟩, fun D k id hkn => ?_⟩
     have r3 := (@fOps_ok P call h.n (h.n + s) (ancs ops.toList) D hc ls g (padH s h) [] g' h' acc1 p1 rfl hd ho).2
     rw [p2] at r3
     have hl := HP.len hk
     refine BW_drawnG (Q := fun e1 g1 H1 => e1 = Exit.normal ∧ g1 = g' ∧ H1 = h'.L) hls hm hb.1 hb.2 s (by rw [hl]; exact hkn) ?_
     rw [hl]
     have eq : (fun (g1 : List AV) (H1 : List AO) => Exit.normal = Exit.normal ∧ g1 = g' ∧ H1 = h'.L) = (fun g1 H1 => g1 = g' ∧ H1 = h'.L) := by
      funext g1 H1
      exact propext ⟨fun q => q.2, fun q => ⟨rfl, q⟩⟩
     rw [eq]
     exact r3
    ·cases e
  ·cases e
 ·cases e
noncomputable def fRun (P : Program) (call : CT) : DT := fun ops g h => orE (fRunN P call 0 ops g h) (orE (fRunN P call 40 ops g h) (fRunN P call 300 ops g h))
theorem fRun_ok {P : Program} (hm : P.follows .mixedOrders = true) {call : CT} (hc : CTok P call) : DTok P (fRun P call) := by
 intro ops g h g' h' hk e
 unfold fRun at e
 cases h1 : fRunN P call 0 ops g h with
 | some r => rw [h1] at e; exact fRunN_ok hm hc 0 ops g h g' h' hk (by rw [h1]; exact e)
 | none =>
  rw [h1] at e
  cases h2 : fRunN P call 40 ops g h with
  | some r => rw [h2] at e; exact fRunN_ok hm hc 40 ops g h g' h' hk (by rw [h2]; exact e)
  | none => rw [h2] at e; exact fRunN_ok hm hc 300 ops g h g' h' hk e
end Go.Abs
