/- Part 11 of the texts that lead to repairNearestCard_holds. No condition. -/
import Derived.Laws.StructEq
import Derived.Test.YtcjckmnhlfbdlaaGreatDoorH10
set_option linter.all false
namespace Go.Abs
open Go
def litsOf (P : Program) (t : TypeId) (x : Value) : Option (List Lit) := match x.formed P t with
 | true => P.keyLits 64 t x.cells.toList
 | false => none
def litEq : Lit → Lit → Option Bool
 | .bool a, .bool b => some (a == b)
 | .int k a, .int k' b => some (kindEq k k' && ieq a b)
 | .string a, .string b => some (a == b)
 | _, _ => none
theorem litEq_spec {a b : Lit} {r : Bool} (h : litEq a b = some r) : r = true ↔ a = b := by
 unfold litEq at h
 split at h
 ·cases h
  rw [beq_iff_eq]
  exact ⟨fun e => by rw [e], fun e => by cases e; rfl⟩
 ·cases h
  rw [Bool.and_eq_true, ieq_eq, beq_iff_eq]
  constructor
  ·rintro ⟨h1, rfl⟩; rw [kindEq_spec h1]
  ·intro e; cases e; exact ⟨by simp [kindEq], rfl⟩
 ·cases h
  rw [beq_iff_eq]
  exact ⟨fun e => by rw [e], fun e => by cases e; rfl⟩
 ·cases h
def litsEq : List Lit → List Lit → Option Bool
 | [], [] => some true
 | a :: as, b :: bs => match litEq a b, litsEq as bs with
  | some x, some y => some (x && y)
  | _, _ => none
 | _, _ => none
theorem litsEq_spec : ∀ {a b : List Lit} {r : Bool}, litsEq a b = some r → (r = true ↔ a = b)
 | [], [], r, h => by cases h; simp
 | a :: as, b :: bs, r, h => by
  simp only [litsEq] at h
  cases h1 : litEq a b with
  | none => rw [h1] at h; cases h
  | some x =>
   cases h2 : litsEq as bs with
   | none => rw [h1, h2] at h; cases h
   | some y =>
    rw [h1, h2] at h; cases h
    rw [Bool.and_eq_true, litEq_spec h1, litsEq_spec h2, List.cons.injEq]
 | [], _ :: _, r, h => by cases h
 | _ :: _, [], r, h => by cases h
def eqLits : Option (List Lit) → Option (List Lit) → Option Bool
 | some a, some b => litsEq a b
 | _, _ => none
def eqAgg (P : Program) (t : TypeId) (x y : Value) : Option Bool := match P.keyTypeAt 64 t && !P.eqGuardType P.depth t with
 | true => eqLits (litsOf P t x) (litsOf P t y)
 | false => none
theorem eqAgg_spec {P : Program} {t : TypeId} {xs ys : Array Value} {b : Bool} (h : eqAgg P t (.agg xs) (.agg ys) = some b) (w : World) :
 P.eqGuardType P.depth t = false ∧ (Op.equalIn 10000 t (.agg xs) (.agg ys)).run P w = .ok b w := by
 unfold eqAgg at h
 split at h
 ·rename_i hk
  rw [Bool.and_eq_true, Bool.not_eq_true'] at hk
  cases h1 : litsOf P t (.agg xs) with
  | none => rw [h1] at h; cases h
  | some la =>
   cases h2 : litsOf P t (.agg ys) with
   | none => rw [h1, h2] at h; cases h
   | some lb =>
    rw [h1, h2] at h
    simp only [eqLits] at h
    unfold litsOf at h1 h2
    split at h1
    ·rename_i f1
     split at h2
     ·rename_i f2
      obtain ⟨r, q1, q2⟩ := run_equalIn_deep (P := P) 9936 64 t hk.1 w 64 64 _ _ _ _ f1 f2 h1 h2
      refine ⟨hk.2, ?_⟩
      have : r = b := by
       rw [Bool.eq_iff_iff, q2, litsEq_spec h]
      rw [← this]
      exact q1
     ·cases h2
    ·cases h1
 ·cases h
def flipB (op : BinOp) (b : Bool) : Option Value := match op with
 | .eql => some (.bool b)
 | .neq => some (.bool !b)
 | _ => none
def xEq3 (op : BinOp) : Option Bool → Option Value
 | some b => flipB op b
 | none => none
def xEq2 (P : Program) (op : BinOp) (t : TypeId) : Option Value → Option Value → Option Value
 | some x, some y => xEq3 op (eqAgg P t x y)
 | _, _ => none
def xEq (P : Program) (op : BinOp) (t : TypeId) : AV → AV → Option Value
 | .ag cs, .ag ds => xEq2 P op t (toVal (.ag cs)) (toVal (.ag ds))
 | _, _ => none
def xLook4 (vs : List AV) (z : Value) (ok : Bool) : Option Nat → Option AV
 | some j => (vs[j]?).map fun v => okTu ok v true
 | none => some (okTu ok (lift z) false)
def xLook3 (vs : List AV) (ok : Bool) : Option Value → Option (Option Nat) → Option AV
 | some z, some r => xLook4 vs z ok r
 | _, _ => none
def xLook2 (P : Program) (k e : TypeId) (i : Value) (ok : Bool) : Option AO → Option AV
 | some (.mapv ks vs) => match goodK P k i && ks.all (goodK P k) with
  | true => xLook3 vs ok (zeroA P e) (posU i ks 0)
  | false => none
 | _ => none
def xLookN (P : Program) (k e : TypeId) (i : Value) (ok : Bool) : Option Value → Option AV
 | some z => match goodK P k i with
  | true => some (okTu ok (lift z) false)
  | false => none
 | none => none
noncomputable def xLook1 (P : Program) (h : HP) (k e : TypeId) (ok : Bool) (x : AV) : Option Value → Option AV
 | some i => match x with
  | .mp id => xLook2 P k e i ok (rGet h id)
  | .v (.map none) => xLookN P k e i ok (zeroA P e)
  | _ => none
 | none => none
noncomputable def xLook (P : Program) (h : HP) (t : TypeId) (x i : AV) (ok : Bool) : Option AV := match P.underlying t with
 | some (.map k e) => xLook1 P h k e ok x (toVal i)
 | _ => none
def xUpd4 (ks : List Value) (vs : List AV) (i : Value) (v : AV) : Option (Option Nat) → Option AO
 | some r => some (updM ks vs i v r)
 | none => none
def xUpd3 (P : Program) (k : TypeId) (i : Value) (v : AV) : Option AO → Option AO
 | some (.mapv ks vs) => match goodK P k i && ks.all (goodK P k) with
  | true => xUpd4 ks vs i v (posU i ks 0)
  | false => none
 | _ => none
noncomputable def xPut (h : HP) (id : Nat) : Option AO → OR2
 | some o => some (.v undef, rSet h id o)
 | none => none
noncomputable def xUpd2 (P : Program) (h : HP) (k : TypeId) (v : AV) (x : AV) : Option Value → OR2
 | some i => match x with
  | .mp id => xPut h id (xUpd3 P k i v (rGet h id))
  | _ => none
 | none => none
noncomputable def xUpd (P : Program) (h : HP) (t : TypeId) (x i v : AV) : OR2 := match P.underlying t with
 | some (.map k _) => xUpd2 P h k v x (toVal i)
 | _ => none
noncomputable def xop (P : Program) (g : List AV) (h : HP) : Op → OR2
 | .makeMap _ none => some (.mp h.n, rNew h (.mapv [] []))
 | .lookup t x i ok => wrapH h (xLook P h t (evF g x) (evF g i) ok)
 | .mapUpdate t m k x => xUpd P h t (evF g m) (evF g k) (evF g x)
 | .insert t m k x => xUpd P h t (evF g m) (evF g k) (evF g x)
 | .binOp op t x y _ => wrapV h (xEq P op t (evF g x) (evF g y))
 | _ => none
where wrapV (h : HP) : Option Value → OR2
 | some v => some (.v v, h)
 | none => none
section
variable {P : Program} {I : Nat → Prop} {m : List Loc} {w : World}
theorem xLook_ok {h : HP} (hk : h.ok) (hr : HR I m h.L w) {t : TypeId} {x i : AV} {ok : Bool} {v : AV} (e : xLook P h t x i ok = some v) {xv iv : Value} (hx : VR I m w x xv) (hi : VR I m w i iv) : SOK P I m h.L w (Instr.lookup t xv iv ok) v h.L := by
 unfold xLook at e
 split at e
 ·rename_i k el ht
  cases hiv : toVal i with
  | none => rw [hiv] at e; cases e
  | some i0 =>
   rw [hiv] at e
   have := toVal_spec hiv hi
   subst this
   simp only [xLook1] at e
   split at e
   ·rename_i id
    rw [rGet_eq hk] at e
    cases ho : h.L[id]? with
    | none => rw [ho] at e; cases e
    | some o =>
     rw [ho] at e
     cases o <;> first | (cases e; done) | skip
     rename_i ks vs
     simp only [xLook2] at e
     split at e
     ·rename_i hg
      rw [Bool.and_eq_true] at hg
      cases hz : zeroA P el with
      | none => rw [hz] at e; cases e
      | some z =>
       cases hp : posU iv ks 0 with
       | none => rw [hz, hp] at e; cases e
       | some r =>
        rw [hz, hp] at e
        simp only [xLook3] at e
        cases r with
        | none =>
         cases e
         exact SOK.lookup hr ht ho hx hg.1 hg.2 hp hz ok (v := lift z) rfl
        | some j =>
         simp only [xLook4, Option.map_eq_some_iff] at e
         obtain ⟨v0, e1, rfl⟩ := e
         exact SOK.lookup hr ht ho hx hg.1 hg.2 hp hz ok (v := v0) e1
     ·cases e
   ·simp only [VR] at hx
    subst hx
    cases hz : zeroA P el with
    | none => rw [hz] at e; cases e
    | some z =>
     rw [hz] at e
     simp only [xLookN] at e
     split at e
     ·rename_i hg
      cases e
      exact SOK.lookup_nil hr ht hg hz ok
     ·cases e
   ·cases e
 ·cases e
theorem xUpd_ok {h : HP} (hk : h.ok) (hr : HR I m h.L w) {t : TypeId} {x i c v : AV} {h' : HP} (e : xUpd P h t x i c = some (v, h')) {xv iv cv : Value} (hx : VR I m w x xv) (hi : VR I m w i iv) (hc : VR I m w c cv) :
 v = .v undef ∧ ∃ w', (Instr.mapUpdate t xv iv cv).run P w = .ok () w' ∧ HR I m h'.L w' ∧ Ext I m (Own h.L m) w I m (Own h'.L m) w' := by
 unfold xUpd at e
 split at e
 ·rename_i k el ht
  cases hiv : toVal i with
  | none => rw [hiv] at e; cases e
  | some i0 =>
   rw [hiv] at e
   have := toVal_spec hiv hi
   subst this
   simp only [xUpd2] at e
   split at e
   ·rename_i id
    cases hg0 : rGet h id with
    | none => rw [hg0] at e; cases e
    | some o =>
     have hlt := rGet_lt hg0
     rw [hg0] at e
     rw [rGet_eq hk] at hg0
     cases o <;> first | (cases e; done) | skip
     rename_i ks vs
     simp only [xUpd3] at e
     split at e
     ·rename_i hg
      rw [Bool.and_eq_true] at hg
      cases hp : posU iv ks 0 with
      | none => rw [hp] at e; cases e
      | some r =>
       rw [hp] at e
       cases e
       refine ⟨rfl, ?_⟩
       rw [rSet_eq hk hlt]
       exact run_update hr ht hg0 hx hg.1 hg.2 hp hc
     ·cases e
   ·cases e
 ·cases e
end
theorem xUpd_keep {P : Program} {h : HP} (hk : h.ok) {t : TypeId} {x i c v : AV} {h' : HP} (e : xUpd P h t x i c = some (v, h')) : h'.ok ∧ h.n ≤ h'.n := by
 unfold xUpd at e
 split at e
 ·generalize toVal i = o at e
  cases o with
  | none => cases e
  | some i0 =>
   simp only [xUpd2] at e
   split at e
   ·generalize xUpd3 P _ _ _ _ = o at e
    cases o with
    | none => cases e
    | some o => cases e; exact ⟨rSet_ok hk _ _, Nat.le_refl _⟩
   ·cases e
 ·cases e
theorem xEq_ok {P : Program} {I : Nat → Prop} {m : List Loc} {w : World} {op : BinOp} {t : TypeId} {x y : AV} {r : Value} (e : xEq P op t x y = some r) {xv yv : Value} (hx : VR I m w x xv) (hy : VR I m w y yv) (o1 o2 : Operand) :
 (do eqGuard op t o1 o2 xv yv; Go.binOp op t xv yv : Sem Value).run P w = .ok r w := by
 unfold xEq at e
 split at e
 ·rename_i cs ds
  cases h1 : toVal (.ag cs) with
  | none => rw [h1] at e; cases e
  | some a =>
   cases h2 : toVal (.ag ds) with
   | none => rw [h1, h2] at e; cases e
   | some b =>
    rw [h1, h2] at e
    have ex := toVal_spec h1 hx
    have ey := toVal_spec h2 hy
    subst ex; subst ey
    simp only [xEq2] at e
    have ga : ∃ xs, xv = .agg xs := by
     simp only [toVal] at h1
     split at h1
     ·cases h1; exact ⟨_, rfl⟩
     ·cases h1
    have gb : ∃ ys, yv = .agg ys := by
     simp only [toVal] at h2
     split at h2
     ·cases h2; exact ⟨_, rfl⟩
     ·cases h2
    obtain ⟨xs, rfl⟩ := ga
    obtain ⟨ys, rfl⟩ := gb
    cases hq : eqAgg P t (.agg xs) (.agg ys) with
    | none => rw [hq] at e; cases e
    | some bb =>
     rw [hq] at e
     obtain ⟨q1, q2⟩ := eqAgg_spec hq w
     simp only [xEq3, flipB] at e
     split at e
     ·cases e
      simp only [Sem.run_bind, run_eqGuard_agg (hm := q1), Result.andThen_ok, run_eql_struct, q2]
     ·cases e
      simp only [Sem.run_bind, run_eqGuard_agg (hm := q1), Result.andThen_ok, run_neq_struct, q2]
     ·cases e
 ·cases e
theorem xop_ok {P : Program} {g : List AV} {h : HP} (hk : h.ok) (op : Op) {v : AV} {h' : HP} (e : xop P g h op = some (v, h')) : (h'.ok ∧ h.n ≤ h'.n) ∧ OpSem P g h.L op v h'.L := by
 unfold xop at e
 split at e
 ·rename_i t0
  cases e
  refine ⟨⟨rNew_ok hk _, Nat.le_succ _⟩, fun I m w a o ho hr hx => ?_⟩
  rw [rNew_eq, ← HP.len hk]
  exact OpS.of_sok (SOK.makeMap hr t0) (by simp [execOp, ho])
 ·rename_i t x i ok
  cases hl : xLook P h t (evF g x) (evF g i) ok with
  | none => rw [hl] at e; cases e
  | some v0 =>
   rw [hl] at e
   cases e
   refine ⟨⟨hk, Nat.le_refl _⟩, fun I m w a o ho hr hx => ?_⟩
   rw [evF_eq, evF_eq] at hl
   exact OpS.of_sok (xLook_ok hk hr hl (hx x (by simp [Op.operands])) (hx i (by simp [Op.operands]))) (by simp [execOp, ho])
 ·rename_i t mm k x
  refine ⟨xUpd_keep hk e, fun I m w a o ho hr hx => ?_⟩
  rw [evF_eq, evF_eq, evF_eq] at e
  obtain ⟨rfl, w', h1, h2, h3⟩ := xUpd_ok hk hr e (hx mm (by simp [Op.operands])) (hx k (by simp [Op.operands])) (hx x (by simp [Op.operands]))
  refine ⟨undef, w', m, .inr ⟨?_, rfl⟩, by simp only [VR], h2, h3⟩
  simp [execOp, ho, h1]
 ·rename_i t mm k x
  refine ⟨xUpd_keep hk e, fun I m w a o ho hr hx => ?_⟩
  rw [evF_eq, evF_eq, evF_eq] at e
  obtain ⟨rfl, w', h1, h2, h3⟩ := xUpd_ok hk hr e (hx mm (by simp [Op.operands])) (hx k (by simp [Op.operands])) (hx x (by simp [Op.operands]))
  refine ⟨undef, w', m, .inr ⟨?_, rfl⟩, by simp only [VR], h2, h3⟩
  simp [execOp, ho, h1]
 ·rename_i op t x y u
  cases hl : xEq P op t (evF g x) (evF g y) with
  | none => rw [hl] at e; cases e
  | some v0 =>
   rw [hl] at e
   cases e
   refine ⟨⟨hk, Nat.le_refl _⟩, fun I m w a o ho hr hx => ?_⟩
   rw [evF_eq, evF_eq] at hl
   have := xEq_ok hl (hx x (by simp [Op.operands])) (hx y (by simp [Op.operands])) x y
   exact OpS.of_sok (SOK.same hr this (by simp only [VR])) (by simp [execOp, ho])
 ·cases e
end Go.Abs
