/- Part 8 of the texts that lead to repairNearestCard_holds. No condition. -/
import Derived.Test.YtcjckmnhlfbdlaaGreatDoorH7
set_option linter.all false
namespace Go.Abs
open Go
section
variable {P : Program} {k N : Nat}
theorem aop_wp {g : List AV} {H : List AO} {op : Op} {v : AV} {H' : List AO} (h : aop P g H op = some (v, H')) {I : Nat → Prop} {m : List Loc} {a : Act} {w : World} {o : Oper} {Q : Exit → Act → World → Prop} (ho : o.op = op) (hr : HR I m H w) (hg : VRs I m w g a.tmps.toList)
 {K : Act → World → Prop} (hK : ∀ y w' m', VR I m' w' v y → HR I m' H' w' → Ext I m (Own H m) w I m' (Own H' m') w' → K (a.put o.dst y) w') : OWP P o a w K Q := by
 subst ho
 obtain ⟨y, w', m', h3, h4, h5, h6⟩ := op_sound hr hg h
 refine OWP.of ?_ (not_defer h3)
 unfold Oper.wp
 rcases h3 with h3 | ⟨h3, rfl⟩
 ·rw [h3]; simp only [Oper.upon]; exact hK _ _ _ h4 h5 h6
 ·rw [h3]; simp only [Oper.upon]; exact hK _ _ _ h4 h5 h6
theorem nu_nil {m nu : List Loc} {H H' : List AO} {I I' : Nat → Prop} {w w' : World} (h1 : HR I m H w) (h2 : HR I' (m ++ nu) H' w') (hl : H'.length = H.length) : nu = [] := by
 have := h1.len
 have := h2.len
 simp only [List.length_append] at this
 exact List.eq_nil_of_length_eq_zero (by omega)
theorem aop_congr' {g g' : List AV} {H : List AO} {op : Op} (h : ∀ x ∈ op.operands, ev g x = ev g' x) : aopX P g H op = aopX P g' H op := by
 have ha := aop_congr (P := P) (H := H) h
 unfold aopX
 rw [ha]
 cases op with
 | store t a y => simp only [h a (by simp [Op.operands])]
 | call c =>
  obtain ⟨callee, args, ats⟩ := c
  cases callee with
  | builtin b => cases b with
   | append =>
    simp only
    rw [map_ev_congr fun x hx => h x (by simp [Op.operands, Call.operands]; simpa using hx)]
   | _ => rfl
  | _ => rfl
 | _ => rfl
theorem X_at {g g' : List AV} {H H2 : List AO} {op : Op} {r : AV × AX} (h : aopX P g H op = some r) (hN : H.length = N) (hl : H2.length = N) (hF : ∀ id ∈ opIds g op, H2[id]? = H[id]?) (hops : ∀ x ∈ op.operands, ev g' x = ev g x) : aopX P g' H2 op = some r := by
 rw [aop_congr' hops, aopX_local (H := H) (by omega) hF]; exact h
theorem LL_same [DSt] {g : List AV} {H : List AO} {op : Op} {v : AV} (hN : H.length = N) (h : aopX P g H op = some (v, .same)) : LL P N op g H ⟨opIds g op, [], []⟩ v := by
 intro H2 g' hl hF hops I m a w o Q ho hr hg hd hv
 have h1 := aopX_ok (X_at h hN hl hF hops)
 refine aop_wp h1 ho hr hg fun y w' m' k1 k2 k3 => ?_
 obtain ⟨nu, rfl⟩ := k3.pre
 obtain rfl := nu_nil hr k2 rfl
 simp only [List.append_nil, AX.to] at k1 k2 k3
 exact ⟨I, m, k2, put_ok (Ext.vrs hr k3 hg) o.dst k1, put_defers hd, k3.ex, fun _ _ => rfl⟩
theorem LL_set [DSt] {g : List AV} {H : List AO} {op : Op} {v : AV} {id : Nat} {ob : AO} (hN : H.length = N) (h : aopX P g H op = some (v, .set id ob)) : LL P N op g H ⟨opIds g op, [(id, ob)], []⟩ v := by
 intro H2 g' hl hF hops I m a w o Q ho hr hg hd hv
 have h1 := aopX_ok (X_at h hN hl hF hops)
 refine aop_wp h1 ho hr hg fun y w' m' k1 k2 k3 => ?_
 obtain ⟨nu, rfl⟩ := k3.pre
 obtain rfl := nu_nil hr k2 (by simp [AX.to])
 simp only [List.append_nil, AX.to] at k1 k2 k3
 exact ⟨I, m, k2, put_ok (Ext.vrs hr k3 hg) o.dst k1, put_defers hd, k3.ex, fun _ _ => rfl⟩
theorem nu_one {m nu : List Loc} {H H' : List AO} {I I' : Nat → Prop} {w w' : World} (h1 : HR I m H w) (h2 : HR I' (m ++ nu) H' w') (hl : H'.length = H.length + 1) : ∃ L, nu = [L] := by
 have := h1.len
 have := h2.len
 simp only [List.length_append] at this
 have h3 : nu.length = 1 := by omega
 match nu, h3 with
 | [L], _ => exact ⟨L, rfl⟩
theorem LL_new [DSt] {g : List AV} {H : List AO} {op : Op} {v : AV} {ob : AO} {s : Nat} (hN : H.length = N) (hs : H[s]? = some .dead) (h : aopX P g H op = some (v, .new ob)) :
 LL P N op g H ⟨s :: opIds g op, [(s, ob.ren (mv N [s]))], [s]⟩ (v.ren (mv N [s])) := by
 intro H2 g' hl hF hops I m a w o Q ho hr hg hd hv
 have h1 := aopX_ok (X_at h hN hl (fun id hid => hF id (List.mem_cons_of_mem _ hid)) hops)
 have hs2 : H2[s]? = some .dead := by rw [hF s (List.mem_cons_self ..)]; exact hs
 have hslt : s < H2.length := (List.getElem?_eq_some_iff.1 hs2).1
 refine aop_wp h1 ho hr hg fun y w' m' k1 k2 k3 => ?_
 obtain ⟨nu, rfl⟩ := k3.pre
 simp only [AX.to] at k1 k2 k3
 have hmv := HR.move (E := []) (Hn := [ob]) (slots := [s]) hr (by simpa [apE] using k2) (by simpa [apE] using k3.ex) rfl (by simp) (fun t ht => by
  rw [List.mem_singleton] at ht; subst ht
  exact ⟨hslt, hv t (List.mem_singleton_self _), by simp⟩)
 obtain ⟨L, rfl⟩ := nu_one hr k2 (by simp)
 simp only [List.map_nil, List.nil_append, List.map_cons, List.zip_cons_cons, List.zip_nil_right, hl] at hmv
 obtain ⟨q1, q2, q3, q4⟩ := hmv
 refine ⟨I, _, q1, ?_, put_defers hd, q4, fun id hid => ?_⟩
 ·exact put_ok (VRs.le q3 (fun _ h => h) (fun b hb => k3.blk b (hr.ilt b hb) (hr.imm b hb)) hg) o.dst (VR.ren q2 v y k1)
 ·exact setAll_other _ _ _ hid
theorem LL_app [DSt] {g : List AV} {H : List AO} {op : Op} {v : AV} {id : Nat} {ob : AO} {s : Nat} (hN : H.length = N) (hs : H[s]? = some .dead) (hid : id ≠ s) (h : aopX P g H op = some (v, .app id ob)) :
 LL P N op g H ⟨s :: opIds g op, [(id, .dead), (s, ob.ren (mv N [s]))], [s]⟩ (v.ren (mv N [s])) := by
 intro H2 g' hl hF hops I m a w o Q ho hr hg hd hv
 have h1 := aopX_ok (X_at h hN hl (fun id hid => hF id (List.mem_cons_of_mem _ hid)) hops)
 have hs2 : H2[s]? = some .dead := by rw [hF s (List.mem_cons_self ..)]; exact hs
 have hslt : s < H2.length := (List.getElem?_eq_some_iff.1 hs2).1
 refine aop_wp h1 ho hr hg fun y w' m' k1 k2 k3 => ?_
 obtain ⟨nu, rfl⟩ := k3.pre
 simp only [AX.to] at k1 k2 k3
 have hmv := HR.move (E := [(id, .dead)]) (Hn := [ob]) (slots := [s]) hr (by simpa [apE] using k2) (by simpa [apE] using k3.ex) rfl (by simp) (fun t ht => by
  rw [List.mem_singleton] at ht; subst ht
  exact ⟨hslt, hv t (List.mem_singleton_self _), by simpa using Ne.symm hid⟩)
 obtain ⟨L, rfl⟩ := nu_one hr k2 (by simp)
 simp only [List.map_nil, List.nil_append, List.map_cons, List.zip_cons_cons, List.zip_nil_right, hl, List.cons_append, AO.ren] at hmv
 obtain ⟨q1, q2, q3, q4⟩ := hmv
 refine ⟨I, _, q1, ?_, put_defers hd, q4, fun t ht => ?_⟩
 ·exact put_ok (VRs.le q3 (fun _ h => h) (fun b hb => k3.blk b (hr.ilt b hb) (hr.imm b hb)) hg) o.dst (VR.ren q2 v y k1)
 ·exact setAll_other _ _ _ ht
def LCl (P : Program) (N : Nat) (n : FuncId) (args : List AV) (H : List AO) (F : List Nat) (v : AV) (E : List (Nat × AO)) (Hn : List AO) : Prop :=
 ∀ H2 : List AO, H2.length = N → (∀ id ∈ F, H2[id]? = H[id]?) → ACall P n args H2 (fun v' H' => v' = v ∧ H' = apE E H2 ++ Hn)
theorem LL_call [DSt] {g : List AV} {H : List AO} {f : Operand} {args : Array Operand} {ats : Array TypeId} {n : FuncId} {first cap : List AV} {F slots : List Nat} {v : AV} {E : List (Nat × AO)} {Hn : List AO} (hf : ev g f = .fn (.func n) first cap)
 (h : LCl P N n (first ++ args.toList.map (ev g) ++ cap) H F v E Hn) (hl : slots.length = Hn.length) (hn : slots.Nodup) (hs : ∀ s ∈ slots, s < N ∧ s ∉ E.map (·.1)) :
 LL P N (.call ⟨.value f, args, ats⟩) g H ⟨slots ++ F, E.map (fun p => (p.1, p.2.ren (mv N slots))) ++ slots.zip (Hn.map (·.ren (mv N slots))), slots⟩ (v.ren (mv N slots)) := by
 intro H2 g' hl2 hF hops I m a w o Q ho hr hg hd hv
 have hc := h H2 hl2 (fun id hid => hF id (List.mem_append_right _ hid))
 have e1 : ev g' f = .fn (.func n) first cap := by rw [hops f (by simp [Op.operands, Call.operands])]; exact hf
 have e2 : args.toList.map (ev g') = args.toList.map (ev g) := map_ev_congr fun x hx => hops x (by simp [Op.operands, Call.operands]; exact .inr (Array.mem_toList_iff.1 hx))
 have hx : AExecR P o g' H2 (fun v' H' => v' = v ∧ H' = apE E H2 ++ Hn) := by
  unfold AExecR
  rw [ho]
  simp only [e1, e2]
  exact hc
 refine OWP.mono ?_ (aexec_sound (K := fun g1 H1 => g1 = put g' o.dst v ∧ H1 = apE E H2 ++ Hn) hr hg hd (hx.mono' fun v' H' ⟨q1, q2⟩ => ⟨by rw [q1], q2⟩))
 rintro a' w' ⟨g1, H1, I', m', ⟨rfl, rfl⟩, k2, k3, k4, k5⟩
 obtain ⟨nu, rfl⟩ := k5.pre
 have hmv := HR.move (slots := slots) hr k2 k5.ex hl hn (fun t ht => by
  obtain ⟨q1, q2⟩ := hs t ht
  exact ⟨by omega, hv t ht, q2⟩)
 obtain ⟨q1, q2, q3, q4⟩ := hmv
 rw [hl2] at q1 q2 q4
 refine ⟨I', _, q1, ?_, k4, q4, fun t ht => setAll_other _ _ _ ht⟩
 have hmono : VRs I' (setAll m slots nu) w' g' a.tmps.toList := VRs.le q3 k5.imm (fun b hb => k5.blk b (hr.ilt b hb) (hr.imm b hb)) hg
 have hren := VRs.ren q2 _ _ k3
 refine VRs.of_get (by rw [k3.len, put_len, put_len]) fun i c x h1 h2 => ?_
 rw [put_get] at h1
 have hlen := k3.len
 by_cases hdst : o.dst = some i
 ·rw [if_pos hdst] at h1
  split at h1
  ·rename_i hlt
   injection h1 with h1; subst h1
   obtain ⟨y, r1, r2⟩ := k3.get i v (by rw [put_get, if_pos hdst, if_pos hlt])
   rw [h2] at r1; injection r1 with r1; subst r1
   exact VR.ren q2 v x r2
  ·cases h1
 ·rw [if_neg hdst] at h1
  obtain ⟨y, r1, r2⟩ := k3.get i c (by rw [put_get, if_neg hdst]; exact h1)
  rw [h2] at r1; injection r1 with r1; subst r1
  have hrn := VR.ren q2 c x r2
  obtain ⟨y0, s1, s2⟩ := hg.get i c h1
  rwa [VR.bel (τ := mv N slots) (fun j hj => mv_lt (by have := hr.len; omega)) c y0 s2] at hrn
def slot (k : Nat) (acc : List Fo) : Nat := k + (acc.map fun f => f.ns.length).sum
def YRes (P : Program) (k N : Nat) (An : List (List Nat)) (Q : List AV → List AO → Prop) (R : List LOp → List AV → List AO → List Fo → Prop) (os : List LOp) (dst : Option Tmp) (g : List AV) (H : List AO) (acc : List Fo) (F : List Nat) : Option (AV × AX) → Prop
 | some (v, .same) => R os (put g dst v) H (⟨F, [], []⟩ :: acc)
 | some (v, .set id o) => R os (put g dst v) (H.set id o) (⟨F, [(id, o)], []⟩ :: acc)
 | some (v, .new o) => H[slot k acc]? = some .dead ∧ R os (put g dst (v.ren (mv N [slot k acc]))) (H.set (slot k acc) (o.ren (mv N [slot k acc]))) (⟨slot k acc :: F, [(slot k acc, o.ren (mv N [slot k acc]))], [slot k acc]⟩ :: acc)
 | some (v, .app id o) => (H[slot k acc]? = some .dead ∧ id ≠ slot k acc) ∧ R os (put g dst (v.ren (mv N [slot k acc]))) ((H.set id .dead).set (slot k acc) (o.ren (mv N [slot k acc]))) (⟨slot k acc :: F, [(id, .dead), (slot k acc, o.ren (mv N [slot k acc]))], [slot k acc]⟩ :: acc)
 | none => False
def YCall (P : Program) (k N : Nat) (R : List LOp → List AV → List AO → List Fo → Prop) (os : List LOp) (dst : Option Tmp) (g : List AV) (H : List AO) (acc : List Fo) (n : FuncId) (args : List AV) : Prop :=
 ∃ F v E Hn, LCl P N n args H F v E Hn ∧ (∀ s ∈ List.range' (slot k acc) Hn.length, s < N ∧ s ∉ E.map (·.1)) ∧
  R os (put g dst (v.ren (mv N (List.range' (slot k acc) Hn.length)))) (apE (E.map (fun p => (p.1, p.2.ren (mv N (List.range' (slot k acc) Hn.length)))) ++ (List.range' (slot k acc) Hn.length).zip (Hn.map (·.ren (mv N (List.range' (slot k acc) Hn.length))))) H)
   (⟨List.range' (slot k acc) Hn.length ++ F, E.map (fun p => (p.1, p.2.ren (mv N (List.range' (slot k acc) Hn.length)))) ++ (List.range' (slot k acc) Hn.length).zip (Hn.map (·.ren (mv N (List.range' (slot k acc) Hn.length)))), List.range' (slot k acc) Hn.length⟩ :: acc)
def YCallV (P : Program) (k N : Nat) (R : List LOp → List AV → List AO → List Fo → Prop) (os : List LOp) (dst : Option Tmp) (g : List AV) (H : List AO) (acc : List Fo) (args : List AV) : AV → Prop
 | .fn (.func n) first cap => YCall P k N R os dst g H acc n (first ++ args ++ cap)
 | _ => False
def YDo (P : Program) (k N : Nat) (An : List (List Nat)) (Q : List AV → List AO → Prop) (R : List LOp → List AV → List AO → List Fo → Prop) (os : List LOp) (dst : Option Tmp) (g : List AV) (H : List AO) (acc : List Fo) (op : Op) : Prop :=
 match op with
 | .call ⟨.value f, args, _⟩ => YCallV P k N R os dst g H acc (args.toList.map (ev g)) (ev g f)
 | op => YRes P k N An Q R os dst g H acc (opIds g op) (aopX P g H op)
def YGuard (P : Program) (k N : Nat) (An : List (List Nat)) (Q : List AV → List AO → Prop) (R : List LOp → List AV → List AO → List Fo → Prop) (os : List LOp) (dst : Option Tmp) (g : List AV) (H : List AO) (acc : List Fo) (op : Op) (want : Bool) : Option AV → Prop
 | some (.v (.bool b)) => if b = want then YDo P k N An Q R os dst g H acc op else R os (put g dst (.v undef)) H (⟨[], [], []⟩ :: acc)
 | some (.v (.tuple _)) => R os (put g dst (.v undef)) H (⟨[], [], []⟩ :: acc)
 | _ => False
def DY (P : Program) (k N : Nat) (An : List (List Nat)) (Q : List AV → List AO → Prop) : List LOp → List AV → List AO → List Fo → Prop
 | [], g, H, acc => okA k N An acc.reverse = true ∧ Q g H
 | ⟨dst, op, none⟩ :: os, g, H, acc => YDo P k N An Q (fun os' => DY P k N An Q os) os dst g H acc op
 | ⟨dst, op, some (d, want)⟩ :: os, g, H, acc => YGuard P k N An Q (fun os' => DY P k N An Q os) os dst g H acc op want (g[d]?)
theorem YDo_ok [DSt] {An : List (List Nat)} {Q : List AV → List AO → Prop} {R : List LOp → List AV → List AO → List Fo → Prop} {os : List LOp} {dst : Option Tmp} {g : List AV} {H : List AO} {acc : List Fo} {op : Op} (hN : H.length = N) (h : YDo P k N An Q R os dst g H acc op) : ∃ f v, LL P N op g H f v ∧ R os (put g dst v) (apE f.E H) (f :: acc) := by
 unfold YDo at h
 split at h
 ·rename_i f args ats
  generalize hev : ev g f = X at h
  unfold YCallV at h
  split at h
  ·rename_i n first cap
   obtain ⟨F, v, E, Hn, h1, h2, h3⟩ := h
   exact ⟨_, _, LL_call hev h1 (by simp) (List.nodup_range' (s := slot k acc) (n := Hn.length) (step := 1)) h2, h3⟩
  ·exact h.elim
 ·rename_i op' hno
  generalize hx : aopX P g H op = X at h
  unfold YRes at h
  split at h
  ·exact ⟨_, _, LL_same hN hx, h⟩
  ·exact ⟨_, _, LL_set hN hx, h⟩
  ·exact ⟨_, _, LL_new hN h.1 hx, h.2⟩
  ·exact ⟨_, _, LL_app hN h.1.1 h.1.2 hx, h.2⟩
  ·exact h.elim
theorem DW_of_DY [DSt] {An : List (List Nat)} {Q : List AV → List AO → Prop} : ∀ (ls : List LOp) {g : List AV} {H : List AO} {acc : List Fo}, H.length = N → DY P k N An Q ls g H acc → DW P k N An Q ls g H acc
 | [], g, H, acc, _, h => by simp only [DY] at h; simp only [DW]; exact h
 | ⟨dst, op, none⟩ :: os, g, H, acc, hN, h => by
  simp only [DY] at h
  simp only [DW]
  obtain ⟨f, v, h1, h2⟩ := YDo_ok hN h
  exact ⟨f, v, h1, DW_of_DY os (by rw [apE_len]; exact hN) h2⟩
 | ⟨dst, op, some (d, want)⟩ :: os, g, H, acc, hN, h => by
  simp only [DY] at h
  simp only [DW]
  generalize hgd : g[d]? = X at h
  unfold YGuard at h
  split at h
  ·rename_i b
   simp only
   split at h
   ·rename_i hb
    rw [if_pos hb]
    obtain ⟨f, v, h1, h2⟩ := YDo_ok hN h
    exact ⟨f, v, h1, DW_of_DY os (by rw [apE_len]; exact hN) h2⟩
   ·rename_i hb
    rw [if_neg hb]
    exact DW_of_DY os hN h
  ·exact DW_of_DY os hN h
  ·exact h.elim
theorem MW_dy [DSt] {id : Nat} {ops : Array Oper} {ls : List LOp} {An : List (List Nat)} {Q : Exit → List AV → List AO → Prop} {g : List AV} {H : List AO} (hlow : lowOps ops ops.toList = some ls) (hm : P.follows .mixedOrders = true) (hlex : lexOK ops.toList = true) (han : ancOK ops.toList An = true)
 (s : Nat) (hk : k ≤ H.length) (h : DY P H.length (H.length + s) An (Q .normal) ls g (H ++ List.replicate s .dead) []) : MW P k (.draw id ops) Q g H :=
 MW_drawn hlow hm hlex han s hk (DW_of_DY ls (by simp) h)
def ZY (P : Program) (k N : Nat) (An : List (List Nat)) (Q : List AV → List AO → Prop) (os : List LOp) (dst : Option Tmp) (g : List AV) (H : List AO) (acc : List Fo) (F : List Nat) (r : Option (AV × AX)) : Prop := YRes P k N An Q (DY P k N An Q) os dst g H acc F r
def ZC (P : Program) (k N : Nat) (An : List (List Nat)) (Q : List AV → List AO → Prop) (os : List LOp) (dst : Option Tmp) (g : List AV) (H : List AO) (acc : List Fo) (n : FuncId) (args : List AV) : Prop := YCall P k N (DY P k N An Q) os dst g H acc n args
def ZV (P : Program) (k N : Nat) (An : List (List Nat)) (Q : List AV → List AO → Prop) (os : List LOp) (dst : Option Tmp) (g : List AV) (H : List AO) (acc : List Fo) (args : List AV) (f : AV) : Prop := YCallV P k N (DY P k N An Q) os dst g H acc args f
def ZD (P : Program) (k N : Nat) (An : List (List Nat)) (Q : List AV → List AO → Prop) (os : List LOp) (dst : Option Tmp) (g : List AV) (H : List AO) (acc : List Fo) (op : Op) : Prop := YDo P k N An Q (DY P k N An Q) os dst g H acc op
def ZG (P : Program) (k N : Nat) (An : List (List Nat)) (Q : List AV → List AO → Prop) (os : List LOp) (dst : Option Tmp) (g : List AV) (H : List AO) (acc : List Fo) (op : Op) (want : Bool) (x : Option AV) : Prop := YGuard P k N An Q (DY P k N An Q) os dst g H acc op want x
section
variable {An : List (List Nat)} {Q : List AV → List AO → Prop} {os : List LOp} {dst : Option Tmp} {op : Op} {want : Bool} {g : List AV} {H : List AO} {acc : List Fo} {F : List Nat} {v : AV}
theorem DY_nil : DY P k N An Q [] g H acc = (okA k N An acc.reverse = true ∧ Q g H) := _root_.id rfl
theorem YRes_const {R R' : List LOp → List AV → List AO → List Fo → Prop} (h : R os = R' os) {r : Option (AV × AX)} : YRes P k N An Q R os dst g H acc F r = YRes P k N An Q R' os dst g H acc F r := by
 unfold YRes; split <;> simp only [h]
theorem YCall_const {R R' : List LOp → List AV → List AO → List Fo → Prop} (h : R os = R' os) {n : FuncId} {args : List AV} : YCall P k N R os dst g H acc n args = YCall P k N R' os dst g H acc n args := by
 unfold YCall; simp only [h]
theorem YDo_const {R R' : List LOp → List AV → List AO → List Fo → Prop} (h : R os = R' os) : YDo P k N An Q R os dst g H acc op = YDo P k N An Q R' os dst g H acc op := by
 unfold YDo
 split
 ·unfold YCallV; split
  ·exact YCall_const h
  ·rfl
 ·exact YRes_const h
theorem YGuard_const {R R' : List LOp → List AV → List AO → List Fo → Prop} (h : R os = R' os) {x : Option AV} : YGuard P k N An Q R os dst g H acc op want x = YGuard P k N An Q R' os dst g H acc op want x := by
 unfold YGuard
 split
 ·split
  ·exact YDo_const h
  ·rw [h]
 ·rw [h]
 ·rfl
theorem DY_cons : DY P k N An Q (⟨dst, op, none⟩ :: os) g H acc = ZD P k N An Q os dst g H acc op := by
 rw [DY]; exact YDo_const rfl
theorem DY_guard {d : Tmp} : DY P k N An Q (⟨dst, op, some (d, want)⟩ :: os) g H acc = ZG P k N An Q os dst g H acc op want (g[d]?) := by
 rw [DY]; exact YGuard_const rfl
theorem ZG_tt : ZG P k N An Q os dst g H acc op true (some (.v (.bool true))) = ZD P k N An Q os dst g H acc op := _root_.id rfl
theorem ZG_ff : ZG P k N An Q os dst g H acc op false (some (.v (.bool false))) = ZD P k N An Q os dst g H acc op := _root_.id rfl
theorem ZG_tf : ZG P k N An Q os dst g H acc op true (some (.v (.bool false))) = DY P k N An Q os (put g dst (.v undef)) H (⟨[], [], []⟩ :: acc) := _root_.id rfl
theorem ZG_ft : ZG P k N An Q os dst g H acc op false (some (.v (.bool true))) = DY P k N An Q os (put g dst (.v undef)) H (⟨[], [], []⟩ :: acc) := _root_.id rfl
theorem ZG_undef : ZG P k N An Q os dst g H acc op want (some (.v undef)) = DY P k N An Q os (put g dst (.v undef)) H (⟨[], [], []⟩ :: acc) := _root_.id rfl
theorem ZG_split {c : Bool} (h1 : c = true → ZG P k N An Q os dst g H acc op want (some (.v (.bool true)))) (h2 : c = false → ZG P k N An Q os dst g H acc op want (some (.v (.bool false)))) : ZG P k N An Q os dst g H acc op want (some (.v (.bool c))) := by
 cases c
 ·exact h2 rfl
 ·exact h1 rfl
theorem ZD_call {f : Operand} {args : Array Operand} {ats : Array TypeId} : ZD P k N An Q os dst g H acc (.call ⟨.value f, args, ats⟩) = ZV P k N An Q os dst g H acc (args.toList.map (ev g)) (ev g f) := _root_.id rfl
theorem ZV_fn {n : FuncId} {first cap args : List AV} : ZV P k N An Q os dst g H acc args (.fn (.func n) first cap) = ZC P k N An Q os dst g H acc n (first ++ args ++ cap) := _root_.id rfl
theorem ZD_aop (h : ∀ c, op ≠ .call c) : ZD P k N An Q os dst g H acc op = ZY P k N An Q os dst g H acc (opIds g op) (aopX P g H op) := by
 unfold ZD YDo
 split
 ·exact absurd rfl (h _)
 ·rfl
theorem ZD_builtin {b : Builtin} {args : Array Operand} {ats : Array TypeId} : ZD P k N An Q os dst g H acc (.call ⟨.builtin b, args, ats⟩) = ZY P k N An Q os dst g H acc (opIds g (.call ⟨.builtin b, args, ats⟩)) (aopX P g H (.call ⟨.builtin b, args, ats⟩)) := _root_.id rfl
theorem ZY_same : ZY P k N An Q os dst g H acc F (some (v, .same)) = DY P k N An Q os (put g dst v) H (⟨F, [], []⟩ :: acc) := _root_.id rfl
theorem ZY_set {id : Nat} {o : AO} : ZY P k N An Q os dst g H acc F (some (v, .set id o)) = DY P k N An Q os (put g dst v) (H.set id o) (⟨F, [(id, o)], []⟩ :: acc) := _root_.id rfl
theorem ZY_new {o : AO} : ZY P k N An Q os dst g H acc F (some (v, .new o)) = (H[slot k acc]? = some .dead ∧ DY P k N An Q os (put g dst (v.ren (mv N [slot k acc]))) (H.set (slot k acc) (o.ren (mv N [slot k acc]))) (⟨slot k acc :: F, [(slot k acc, o.ren (mv N [slot k acc]))], [slot k acc]⟩ :: acc)) := _root_.id rfl
theorem ZY_app {id : Nat} {o : AO} : ZY P k N An Q os dst g H acc F (some (v, .app id o)) = ((H[slot k acc]? = some .dead ∧ id ≠ slot k acc) ∧ DY P k N An Q os (put g dst (v.ren (mv N [slot k acc]))) ((H.set id .dead).set (slot k acc) (o.ren (mv N [slot k acc]))) (⟨slot k acc :: F, [(id, .dead), (slot k acc, o.ren (mv N [slot k acc]))], [slot k acc]⟩ :: acc)) := _root_.id rfl
theorem ZY_if {p : Prop} [Decidable p] {x : Option (AV × AX)} (h : p) (h2 : ZY P k N An Q os dst g H acc F x) : ZY P k N An Q os dst g H acc F (if p then x else none) := by
 rw [if_pos h]; exact h2
theorem slot_nil : slot k [] = k := by simp [slot]
theorem slot_cons {f : Fo} : slot k (f :: acc) = slot k acc + f.ns.length := by simp only [slot, List.map_cons, List.sum_cons]; omega
theorem ZD_move {x : Operand} : ZD P k N An Q os dst g H acc (.move x) = ZY P k N An Q os dst g H acc (opIds g (.move x)) (aopX P g H (.move x)) := ZD_aop (by simp)
theorem ZD_assign {x : Operand} : ZD P k N An Q os dst g H acc (.assign x) = ZY P k N An Q os dst g H acc (opIds g (.assign x)) (aopX P g H (.assign x)) := ZD_aop (by simp)
theorem ZD_pick {a b c : Operand} : ZD P k N An Q os dst g H acc (.pick c a b) = ZY P k N An Q os dst g H acc (opIds g (.pick c a b)) (aopX P g H (.pick c a b)) := ZD_aop (by simp)
theorem ZD_extract {a : Operand} {i : Nat} : ZD P k N An Q os dst g H acc (.extract a i) = ZY P k N An Q os dst g H acc (opIds g (.extract a i)) (aopX P g H (.extract a i)) := ZD_aop (by simp)
theorem ZD_field {a : Operand} {t : TypeId} {i : Nat} : ZD P k N An Q os dst g H acc (.field t a i) = ZY P k N An Q os dst g H acc (opIds g (.field t a i)) (aopX P g H (.field t a i)) := ZD_aop (by simp)
theorem ZD_load {a : Operand} {t : TypeId} : ZD P k N An Q os dst g H acc (.load t a) = ZY P k N An Q os dst g H acc (opIds g (.load t a)) (aopX P g H (.load t a)) := ZD_aop (by simp)
theorem ZD_store {a b : Operand} {t : TypeId} : ZD P k N An Q os dst g H acc (.store t a b) = ZY P k N An Q os dst g H acc (opIds g (.store t a b)) (aopX P g H (.store t a b)) := ZD_aop (by simp)
theorem ZD_box {a : Operand} {t : TypeId} : ZD P k N An Q os dst g H acc (.box t a) = ZY P k N An Q os dst g H acc (opIds g (.box t a)) (aopX P g H (.box t a)) := ZD_aop (by simp)
theorem ZD_alloc {t : TypeId} : ZD P k N An Q os dst g H acc (.alloc t) = ZY P k N An Q os dst g H acc (opIds g (.alloc t)) (aopX P g H (.alloc t)) := ZD_aop (by simp)
theorem ZD_build {t : TypeId} {ps : Array (Nat × Operand)} : ZD P k N An Q os dst g H acc (.build t ps) = ZY P k N An Q os dst g H acc (opIds g (.build t ps)) (aopX P g H (.build t ps)) := ZD_aop (by simp)
theorem ZD_buildSlice {t : TypeId} {n : Nat} {ps : Array (Nat × Operand)} : ZD P k N An Q os dst g H acc (.buildSlice t n ps) = ZY P k N An Q os dst g H acc (opIds g (.buildSlice t n ps)) (aopX P g H (.buildSlice t n ps)) := ZD_aop (by simp)
theorem ZD_makeSlice {t : TypeId} {a b : Operand} : ZD P k N An Q os dst g H acc (.makeSlice t a b) = ZY P k N An Q os dst g H acc (opIds g (.makeSlice t a b)) (aopX P g H (.makeSlice t a b)) := ZD_aop (by simp)
theorem ZD_slice {t : TypeId} {a : Operand} {x y z : Option Operand} : ZD P k N An Q os dst g H acc (.slice t a x y z) = ZY P k N An Q os dst g H acc (opIds g (.slice t a x y z)) (aopX P g H (.slice t a x y z)) := ZD_aop (by simp)
theorem ZD_fieldAddr {t : TypeId} {a : Operand} {i : Nat} : ZD P k N An Q os dst g H acc (.fieldAddr t a i) = ZY P k N An Q os dst g H acc (opIds g (.fieldAddr t a i)) (aopX P g H (.fieldAddr t a i)) := ZD_aop (by simp)
theorem ZD_indexAddr {t : TypeId} {a b : Operand} : ZD P k N An Q os dst g H acc (.indexAddr t a b) = ZY P k N An Q os dst g H acc (opIds g (.indexAddr t a b)) (aopX P g H (.indexAddr t a b)) := ZD_aop (by simp)
theorem ZD_index {t : TypeId} {a b : Operand} : ZD P k N An Q os dst g H acc (.index t a b) = ZY P k N An Q os dst g H acc (opIds g (.index t a b)) (aopX P g H (.index t a b)) := ZD_aop (by simp)
theorem ZD_nilCheck {a : Operand} : ZD P k N An Q os dst g H acc (.nilCheck a) = ZY P k N An Q os dst g H acc (opIds g (.nilCheck a)) (aopX P g H (.nilCheck a)) := ZD_aop (by simp)
theorem ZD_unOp {t : TypeId} {a : Operand} {o : UnOp} : ZD P k N An Q os dst g H acc (.unOp o t a) = ZY P k N An Q os dst g H acc (opIds g (.unOp o t a)) (aopX P g H (.unOp o t a)) := ZD_aop (by simp)
theorem ZD_binOp {t u : TypeId} {a b : Operand} {o : BinOp} : ZD P k N An Q os dst g H acc (.binOp o t a b u) = ZY P k N An Q os dst g H acc (opIds g (.binOp o t a b u)) (aopX P g H (.binOp o t a b u)) := ZD_aop (by simp)
theorem ZD_convert {t u : TypeId} {a : Operand} : ZD P k N An Q os dst g H acc (.convert t u a) = ZY P k N An Q os dst g H acc (opIds g (.convert t u a)) (aopX P g H (.convert t u a)) := ZD_aop (by simp)
theorem ZD_makeFunc {f : Fn} {a b : Array Operand} : ZD P k N An Q os dst g H acc (.makeFunc f a b) = ZY P k N An Q os dst g H acc (opIds g (.makeFunc f a b)) (aopX P g H (.makeFunc f a b)) := ZD_aop (by simp)
end
end
def nx (v : AV) : Option AO → Option (AV × AX)
 | some o => some (v, .new o)
 | none => some (v, .same)
def ax (id : Nat) (v : AV) : Option AO → Option (AV × AX)
 | some o => some (v, .app id o)
 | none => some (v, .same)
def sx (id : Nat) (v : AV) : Option AO → Option (AV × AX)
 | some o => some (v, .set id o)
 | none => none
theorem nx_some {v : AV} {o : AO} : nx v (some o) = some (v, .new o) := _root_.id rfl
theorem nx_none {v : AV} : nx v none = some (v, .same) := _root_.id rfl
theorem ax_some {i : Nat} {v : AV} {o : AO} : ax i v (some o) = some (v, .app i o) := _root_.id rfl
theorem ax_none {i : Nat} {v : AV} : ax i v none = some (v, .same) := _root_.id rfl
theorem sx_some {i : Nat} {v : AV} {o : AO} : sx i v (some o) = some (v, .set i o) := _root_.id rfl
theorem newX_some {H : List AO} {v : AV} {H' : List AO} : newX H (some (v, H')) = nx v (H'[H.length]?) := by simp only [newX, nx]; split <;> simp_all
theorem appX_sl {H : List AO} {i off len : Nat} {A : List AV} {v : AV} {H' : List AO} : appX H (.sl i off len :: A) (some (v, H')) = ax i v (H'[H.length]?) := by first | (simp only [appX, ax]; done) | (simp only [appX, ax]; split <;> simp_all)
theorem appX_v {H : List AO} {x : Value} {A : List AV} {v : AV} {H' : List AO} : appX H (.v x :: A) (some (v, H')) = nx v (H'[H.length]?) := by simp only [appX, nx]; split <;> simp_all
theorem appX_em {H : List AO} {A : List AV} {v : AV} {H' : List AO} : appX H (.em :: A) (some (v, H')) = nx v (H'[H.length]?) := by simp only [appX, nx]; split <;> simp_all
theorem setX_pt {i off : Nat} {v : AV} {H' : List AO} : setX (.pt i off) (some (v, H')) = sx i v (H'[i]?) := by simp only [setX]; cases H'[i]? <;> rfl
theorem samX_some {v : AV} {H' : List AO} : samX (some (v, H')) = some (v, .same) := _root_.id rfl
theorem vid_v {x : Value} : vid (.v x) = [] := _root_.id rfl
theorem vid_sl {a b c : Nat} : vid (.sl a b c) = [a] := _root_.id rfl
theorem vid_pt {a b : Nat} : vid (.pt a b) = [a] := _root_.id rfl
theorem vid_mp {a : Nat} : vid (.mp a) = [a] := _root_.id rfl
theorem vid_im {a : Nat} {b : List AV} : vid (.im a b) = [] := _root_.id rfl
theorem vid_ip {b : List AV} : vid (.ip b) = [] := _root_.id rfl
theorem vid_ag {b : List AV} : vid (.ag b) = [] := _root_.id rfl
theorem vid_tu {b : List AV} : vid (.tu b) = [] := _root_.id rfl
theorem vid_fn {f : Fn} {a b : List AV} : vid (.fn f a b) = [] := _root_.id rfl
theorem vid_em : vid .em = [] := _root_.id rfl
theorem vid_any : vid .any = [] := _root_.id rfl
theorem vid_nb : vid .nb = [] := _root_.id rfl
theorem vid_nilV {b : Bool} {n : Nat} : vid (nilV b n) = [] := by unfold nilV; split <;> rfl
theorem ren_nilV {r : Nat → Nat} {b : Bool} {n : Nat} : AV.ren r (nilV b n) = nilV b n := by unfold nilV; split <;> simp only [AV.ren]
theorem clb_nilV {b : Bool} {n : Nat} : AV.clb (nilV b n) = true := by unfold nilV; split <;> rfl
attribute [go_sem] vid_nilV ren_nilV clb_nilV
theorem mapIf {α β : Type} {p : Prop} [Decidable p] {f : α → β} {x : α} : Option.map f (if p then some x else none) = if p then some (f x) else none := by split <;> rfl
theorem newX_if {H : List AO} {p : Prop} [Decidable p] {x : Option (AV × List AO)} : newX H (if p then x else none) = if p then newX H x else none := by split <;> rfl
theorem samX_if {p : Prop} [Decidable p] {x : Option (AV × List AO)} : samX (if p then x else none) = if p then samX x else none := by split <;> rfl
theorem appX_if {H : List AO} {A : List AV} {p : Prop} [Decidable p] {x : Option (AV × List AO)} : appX H A (if p then x else none) = if p then appX H A x else none := by
 split
 ·rfl
 ·exact appX_none
theorem setX_if {a : AV} {p : Prop} [Decidable p] {x : Option (AV × List AO)} : setX a (if p then x else none) = if p then setX a x else none := by
 split
 ·rfl
 ·cases a <;> rfl
attribute [irreducible] YRes YCall YCallV YDo YGuard ZY ZC ZV ZD ZG
attribute [go_sem] mapIf newX_if samX_if appX_if setX_if vid_v vid_sl vid_pt vid_mp vid_im vid_ip vid_ag vid_tu vid_fn vid_em vid_any vid_nb idsOf
attribute [go_sem] DY_nil DY_cons DY_guard ZG_tt ZG_ff ZG_tf ZG_ft ZG_undef ZD_call ZV_fn ZD_builtin ZD_move ZD_assign ZD_pick ZD_extract ZD_field ZD_load ZD_store ZD_box ZD_alloc ZD_build ZD_buildSlice ZD_makeSlice ZD_slice ZD_fieldAddr ZD_indexAddr ZD_index ZD_nilCheck ZD_unOp ZD_binOp ZD_convert ZD_makeFunc ZY_same ZY_set ZY_new ZY_app slot_nil slot_cons
attribute [go_sem] aopX newX_some appX_sl appX_v appX_em setX_pt samX_some nx_some nx_none ax_some ax_none sx_some opIds mv Op.operands Call.operands clb_ren clbs_ren
end Go.Abs
namespace Go.Abs
open Go
section
variable {P : Program} {N n k : Nat} {H : List AO}
def IceOK : List (Nat × AO) → List AO → Prop
 | [], _ => True
 | (id, .ice sz cs) :: ices, H => H[id]? = some (.cells sz cs) ∧ IceOK ices (H.set id (.ice sz cs))
 | _ :: _, _ => False
theorem ACall_ices {args : List AV} {R : AV → List AO → Prop} : ∀ {ices : List (Nat × AO)} {H : List AO}, IceOK ices H → ACall P n args (apE ices H) R → ACall P n args H R
 | [], H, _, h => h
 | (id, .ice sz cs) :: ices, H, hi, h => by
  simp only [IceOK] at hi
  rw [apE_cons] at h
  exact ACall_ice id hi.1 (ACall_ices hi.2 h)
 | (id, .cells sz cs) :: ices, H, hi, h => by simp only [IceOK] at hi
 | (id, .raw o) :: ices, H, hi, h => by simp only [IceOK] at hi
 | (id, .mapv _ _) :: ices, H, hi, h => by simp only [IceOK] at hi
 | (id, .tc _ _) :: ices, H, hi, h => by simp only [IceOK] at hi
 | (id, .tf _ _) :: ices, H, hi, h => by simp only [IceOK] at hi
 | (id, .fx _ _ _) :: ices, H, hi, h => by simp only [IceOK] at hi
 | (id, .mi _ _ _ _) :: ices, H, hi, h => by simp only [IceOK] at hi
 | (id, .dead) :: ices, H, hi, h => by simp only [IceOK] at hi
def updE (τ : Nat → Nat) : Nat → List Nat → List AO → List (Nat × AO)
 | _, [], _ => []
 | k + 1, id :: ids, o :: Ho => (id, o.ren τ) :: updE τ k ids Ho
 | k + 1, id :: ids, [] => (id, .dead) :: updE τ k ids []
 | 0, id :: ids, Ho => (id, .dead) :: updE τ 0 ids Ho
theorem upd_eq (τ : Nat → Nat) : ∀ (ids : List Nat) (k : Nat) (Ho H : List AO), upd τ k ids Ho H = apE (updE τ k ids Ho) H
 | [], k, Ho, H => by cases k <;> simp only [upd, updE, apE_nil]
 | id :: ids, 0, Ho, H => by simp only [upd, updE, apE_cons]; exact upd_eq τ ids 0 Ho _
 | id :: ids, k + 1, [], H => by simp only [upd, updE, apE_cons]; exact upd_eq τ ids k [] _
 | id :: ids, k + 1, o :: Ho, H => by simp only [upd, updE, apE_cons]; exact upd_eq τ ids k Ho _
theorem LCl_fn {args args1 : List AV} {Hi Hr : List AO} {r : AV} {F : List Nat} (h : AFn P n k args1 Hi (fun v Ho => v = r ∧ Ho = Hr)) (ices : List (Nat × AO)) (ids : List Nat) (hnd : ids.Nodup) (hin : ∀ id ∈ ids, id < N) (hk : k ≤ ids.length)
 (hi : ∀ H2 : List AO, H2.length = N → (∀ id ∈ F, H2[id]? = H[id]?) → IceOK ices H2 ∧ Obs (apE ices H2) (ids.map .old) (fun _ => False) (ids.map .old) Hi ∧ Svs (apE ices H2) (ids.map .old) (fun _ => False) args args1) :
 LCl P N n args H F (r.ren (tau ids k N)) (ices ++ updE (tau ids k N) k ids Hr) ((Hr.drop k).map (·.ren (tau ids k N))) := by
 intro H2 hl hF
 obtain ⟨h1, h2, h3⟩ := hi H2 hl hF
 refine ACall_ices h1 (ACall_fn h ids hnd (fun id hid => by rw [apE_len, hl]; exact hin id hid) hk h2 h3 ?_)
 rintro r' Ho ⟨rfl, rfl⟩
 rw [apE_len, hl, upd_eq, apE_append]
 exact ⟨rfl, rfl⟩
theorem LCl_pure {args args1 : List AV} {r : AV} {F : List Nat} (h : APure P n args1 r) (hc : r.clb = true) (ices : List (Nat × AO))
 (hi : ∀ H2 : List AO, H2.length = N → (∀ id ∈ F, H2[id]? = H[id]?) → IceOK ices H2 ∧ Svs (apE ices H2) [] (fun _ => False) args args1) : LCl P N n args H F r ices [] := by
 have := LCl_fn (N := N) (H := H) (F := F) h.afn ices [] List.nodup_nil (fun _ h => by cases h) (Nat.zero_le _) (fun H2 hl hF => ⟨(hi H2 hl hF).1, by simp only [List.map_nil, Obs], by simpa using (hi H2 hl hF).2⟩)
 rw [clb_ren _ _ hc] at this
 simpa [updE] using this
theorem LCl_cl {args : List AV} {r : AV} (h : APure P n args r) (hc : r.clb = true) (ha : clbs args = true) : LCl P N n args H [] r [] [] :=
 LCl_pure h hc [] fun H2 _ _ => ⟨trivial, Svs.cl (Cls.of ha)⟩
theorem Svs.snoc {σ : List Src} {F : Nat → Prop} {cs cs2 full : List AV} {c c2 : AV} (e : cs2 ++ [c2] = full) (h : Svs H σ F cs cs2) (k : Sv H σ F c c2) : Svs H σ F (cs ++ [c]) full := by
 subst e
 exact h.append (by simp only [Svs]; exact ⟨k, trivial⟩)
variable {acc : List Fo} {args : List AV} {An : List (List Nat)} {Q : List AV → List AO → Prop} {os : List LOp} {dst : Option Tmp} {g : List AV}
theorem ZC_of {F : List Nat} {v : AV} {E : List (Nat × AO)} {Hn : List AO} (h : LCl P N n args H F v E Hn) (hs : ∀ s ∈ List.range' (slot k acc) Hn.length, s < N ∧ s ∉ E.map (·.1))
 (hC : DY P k N An Q os (put g dst (v.ren (mv N (List.range' (slot k acc) Hn.length)))) (apE (E.map (fun p => (p.1, p.2.ren (mv N (List.range' (slot k acc) Hn.length)))) ++ (List.range' (slot k acc) Hn.length).zip (Hn.map (·.ren (mv N (List.range' (slot k acc) Hn.length))))) H)
  (⟨List.range' (slot k acc) Hn.length ++ F, E.map (fun p => (p.1, p.2.ren (mv N (List.range' (slot k acc) Hn.length)))) ++ (List.range' (slot k acc) Hn.length).zip (Hn.map (·.ren (mv N (List.range' (slot k acc) Hn.length)))), List.range' (slot k acc) Hn.length⟩ :: acc)) : ZC P k N An Q os dst g H acc n args := by
 unfold ZC YCall
 exact ⟨F, v, E, Hn, h, hs, hC⟩
theorem ZC_pure {F : List Nat} {v : AV} (h : LCl P N n args H F v [] []) (hc : v.clb = true) (hC : DY P k N An Q os (put g dst v) H (⟨F, [], []⟩ :: acc)) : ZC P k N An Q os dst g H acc n args :=
 ZC_of h (fun s hs => by simp at hs) (by rw [clb_ren _ _ hc]; simpa [apE] using hC)
end
attribute [go_sem] updE apE_nil apE_cons
end Go.Abs
namespace Go.Abs
open Go
section
variable {P : Program} {k : Nat} {Q Q' : Exit → List AV → List AO → Prop} {g g2 : List AV} {H H2 : List AO}
theorem BW.post [DSt] {c : Code} (h : BW P k c Q g H) (hq : ∀ e g H, Q e g H → ∃ g2 H2, VS k g H g2 H2 ∧ Q' e g2 H2) : BW P k c Q' g H := fun I m a w h1 h2 h3 =>
 wp_mono (h I m a w h1 h2 h3) fun e a' w' ⟨g', H', I', m', h4, h5, h6, h7, h8, h9⟩ => by
  obtain ⟨g2, H2, hv, hq⟩ := hq _ _ _ h4
  obtain ⟨I2, m2, k1, k2, k3, k4, k5, k6⟩ := hv I' m' w' _ h5 h6
  exact ⟨g2, H2, I2, m2, hq, k1, k2, h7, h8.trans (VS.ex k3 k4 k5), h9.trans k6⟩
theorem MW.post [DSt] {l : LC} (h : MW P k l Q g H) (hq : ∀ e g H, Q e g H → ∃ g2 H2, VS k g H g2 H2 ∧ Q' e g2 H2) : MW P k l Q' g H := fun c hc => (h c hc).post hq
def NX [DSt] (P : Program) (k : Nat) : LC → (Exit → List AV → List AO → Prop) → List AV → List AO → Prop
 | .skip, Q, g, H => Q .normal g H
 | .ret, Q, g, H => Q .ret g H
 | .exit id, Q, g, H => Q (.exit id) g H
 | .seq a b, Q, g, H => NX P k a (thenA (MW P k b Q) Q) g H
 | .cond c a b, Q, g, H => match ev g c with
  | .v (.bool true) => NX P k a Q g H
  | .v (.bool false) => NX P k b Q g H
  | .nb => NX P k a Q g H ∧ NX P k b Q g H
  | _ => False
 | .block id b, Q, g, H => NX P k b (blockA id Q) g H
 | .loop b, Q, g, H => MW P k (.loop b) Q g H
 | .reg ops, Q, g, H => LOps P (Q .normal) ops g H
 | .draw id ops, Q, g, H => MW P k (.draw id ops) Q g H
theorem NX_ok [DSt] : ∀ (l : LC) {Q : Exit → List AV → List AO → Prop} {g : List AV} {H : List AO}, NX P k l Q g H → MW P k l Q g H
 | .skip, Q, g, H, h => .of_LW (LW_skip h)
 | .ret, Q, g, H, h => .of_LW (LW_ret h)
 | .exit id, Q, g, H, h => .of_LW (LW_exit h)
 | .seq a b, Q, g, H, h => MW_seq (NX_ok a h)
 | .cond c a b, Q, g, H, h => by
  simp only [NX] at h
  split at h
  ·rename_i hc; exact MW_cond (t := true) hc (NX_ok a h)
  ·rename_i hc; exact MW_cond (t := false) hc (NX_ok b h)
  ·rename_i hc; exact MW_cond_nb hc (NX_ok a h.1) (NX_ok b h.2)
  ·exact h.elim
 | .block id b, Q, g, H, h => MW_block (NX_ok b h)
 | .loop b, Q, g, H, h => h
 | .reg ops, Q, g, H, h => .of_LW (LW_reg h)
 | .draw id ops, Q, g, H, h => h
theorem NX_go [DSt] {l : LC} (h : NX P k l Q g H) : MW P k l Q g H := NX_ok l h
def NCond [DSt] (P : Program) (k : Nat) (a b : LC) (Q : Exit → List AV → List AO → Prop) (g : List AV) (H : List AO) : AV → Prop
 | .v (.bool true) => NX P k a Q g H
 | .v (.bool false) => NX P k b Q g H
 | .nb => NX P k a Q g H ∧ NX P k b Q g H
 | _ => False
theorem NX_skip [DSt] : NX P k .skip Q g H = Q .normal g H := _root_.id rfl
theorem NX_ret [DSt] : NX P k .ret Q g H = Q .ret g H := _root_.id rfl
theorem NX_exit [DSt] {id : Nat} : NX P k (.exit id) Q g H = Q (.exit id) g H := _root_.id rfl
theorem NX_seq [DSt] {a b : LC} : NX P k (.seq a b) Q g H = NX P k a (thenA (MW P k b Q) Q) g H := _root_.id rfl
theorem NX_cond [DSt] {c : Operand} {a b : LC} : NX P k (.cond c a b) Q g H = NCond P k a b Q g H (ev g c) := by
 simp only [NX, NCond]
 all_goals (split <;> rfl)
theorem NCond_true [DSt] {a b : LC} : NCond P k a b Q g H (.v (.bool true)) = NX P k a Q g H := _root_.id rfl
theorem NCond_false [DSt] {a b : LC} : NCond P k a b Q g H (.v (.bool false)) = NX P k b Q g H := _root_.id rfl
theorem NCond_nb [DSt] {a b : LC} : NCond P k a b Q g H .nb = (NX P k a Q g H ∧ NX P k b Q g H) := _root_.id rfl
theorem NX_block [DSt] {id : Nat} {b : LC} : NX P k (.block id b) Q g H = NX P k b (blockA id Q) g H := _root_.id rfl
theorem NX_reg [DSt] {ops : List LOp} : NX P k (.reg ops) Q g H = LOps P (Q .normal) ops g H := _root_.id rfl
theorem NX_loop [DSt] {b : LC} : NX P k (.loop b) Q g H = MW P k (.loop b) Q g H := _root_.id rfl
theorem NX_draw [DSt] {id : Nat} {ops : Array Oper} : NX P k (.draw id ops) Q g H = MW P k (.draw id ops) Q g H := _root_.id rfl
theorem NCond_nilF [DSt] {a b : LC} {n : Nat} : NCond P k a b Q g H (nilV false n) = ((n = 0 → NX P k a Q g H) ∧ NX P k b Q g H) := by
 cases n with
 | zero => rw [nilV_zero, NCond_nb]; simp
 | succ n => rw [nilV_succ, NCond_false]; simp
theorem NCond_nilT [DSt] {a b : LC} {n : Nat} : NCond P k a b Q g H (nilV true n) = (NX P k a Q g H ∧ (n = 0 → NX P k b Q g H)) := by
 cases n with
 | zero => rw [nilV_zero, NCond_nb]; simp
 | succ n => rw [nilV_succ, NCond_true]; simp
attribute [go_sem] NCond_nilF NCond_nilT
theorem NCond_split [DSt] {a b : LC} {c : Bool} (h1 : c = true → NX P k a Q g H) (h2 : c = false → NX P k b Q g H) : NCond P k a b Q g H (.v (.bool c)) := by
 cases c
 ·exact h2 rfl
 ·exact h1 rfl
def joinQ (k : Nat) (g2 : List AV) (H2 : List AO) (Q : Exit → List AV → List AO → Prop) : Exit → List AV → List AO → Prop
 | .normal, g, H => VS k g H g2 H2
 | e, g, H => Q e g H
theorem joinQ_normal : joinQ k g2 H2 Q .normal g H = VS k g H g2 H2 := _root_.id rfl
theorem joinQ_normal' : joinQ k g2 H2 Q .normal = fun g H => VS k g H g2 H2 := _root_.id rfl
theorem joinQ_ret : joinQ k g2 H2 Q .ret g H = Q .ret g H := _root_.id rfl
theorem joinQ_exit {id : Nat} : joinQ k g2 H2 Q (.exit id) g H = Q (.exit id) g H := _root_.id rfl
end
attribute [irreducible] NX NCond joinQ
attribute [go_sem] NX_skip NX_ret NX_exit NX_seq NX_cond NX_block NX_reg NX_loop NX_draw NCond_true NCond_false NCond_nb joinQ_normal joinQ_normal' joinQ_ret joinQ_exit
end Go.Abs
namespace Go.Abs
open Go
section
variable {P : Program} {N n k : Nat} {H : List AO} {args : List AV} {r : AV} {o : AO}
variable {K : List AV → List AO → Prop} {os : List LOp} {dst : Option Tmp} {g : List AV} {acc : List Fo} {An : List (List Nat)} {Q : List AV → List AO → Prop}
theorem LCl_new (h : AFn P n 0 args [] (fun v Ho => v = r ∧ Ho = [o])) (ha : clbs args = true) : LCl P N n args H [] (r.ren (fun j => N + j)) [] [o.ren (fun j => N + j)] := by
 have := LCl_fn (N := N) (H := H) (F := []) h [] [] List.nodup_nil (fun _ h => by cases h) (Nat.zero_le _) (fun H2 hl hF => ⟨trivial, by simp only [List.map_nil, Obs], Svs.cl (Cls.of ha)⟩)
 have e : tau [] 0 N = fun j => N + j := by funext j; simp [tau]
 rw [e] at this
 simpa [updE] using this
theorem ZC_new (h : AFn P n 0 args [] (fun v Ho => v = r ∧ Ho = [o])) (ha : clbs args = true) (hs : slot k acc < N)
 (hC : DY P k N An Q os (put g dst ((r.ren (fun j => N + j)).ren (mv N [slot k acc]))) (H.set (slot k acc) ((o.ren (fun j => N + j)).ren (mv N [slot k acc]))) (⟨[slot k acc], [(slot k acc, (o.ren (fun j => N + j)).ren (mv N [slot k acc]))], [slot k acc]⟩ :: acc)) : ZC P k N An Q os dst g H acc n args :=
 ZC_of (LCl_new h ha) (fun s hs' => by simp at hs'; subst hs'; exact ⟨hs, by simp⟩) (by simpa [apE, List.range'] using hC)
theorem ZC_fn {args1 : List AV} {Hi Hr : List AO} {k' : Nat} {o : AO} (h : AFn P n k' args1 Hi (fun v Ho => v = r ∧ Ho = Hr)) (ices : List (Nat × AO)) (ids F : List Nat) (hnd : ids.Nodup) (hin : ∀ id ∈ ids, id < N) (hk : k' ≤ ids.length)
 (hi : ∀ H2 : List AO, H2.length = N → (∀ id ∈ F, H2[id]? = H[id]?) → IceOK ices H2 ∧ Obs (apE ices H2) (ids.map .old) (fun _ => False) (ids.map .old) Hi ∧ Svs (apE ices H2) (ids.map .old) (fun _ => False) args args1)
 (ho : (Hr.drop k').map (·.ren (tau ids k' N)) = [o]) (hs : slot k acc < N) (hs' : slot k acc ∉ (ices ++ updE (tau ids k' N) k' ids Hr).map (·.1))
 (hC : DY P k N An Q os (put g dst ((r.ren (tau ids k' N)).ren (mv N [slot k acc]))) (apE ((ices ++ updE (tau ids k' N) k' ids Hr).map (fun p => (p.1, p.2.ren (mv N [slot k acc]))) ++ [(slot k acc, o.ren (mv N [slot k acc]))]) H)
  (⟨slot k acc :: F, (ices ++ updE (tau ids k' N) k' ids Hr).map (fun p => (p.1, p.2.ren (mv N [slot k acc]))) ++ [(slot k acc, o.ren (mv N [slot k acc]))], [slot k acc]⟩ :: acc)) : ZC P k N An Q os dst g H acc n args := by
 have h1 := LCl_fn (N := N) (H := H) (F := F) h ices ids hnd hin hk hi
 rw [ho] at h1
 exact ZC_of h1 (fun s hs2 => by simp at hs2; subst hs2; exact ⟨hs, hs'⟩) (by simpa [List.range'] using hC)
end
theorem Svs.consI {H : List AO} {σ : List Src} {F : Nat → Prop} {v v2 : AV} {vs vs2 : List AV} (h : Sv H σ F v v2) (k : Svs H σ F vs vs2) : Svs H σ F (v :: vs) (v2 :: vs2) := ⟨h, k⟩
theorem Svs.nilI {H : List AO} {σ : List Src} {F : Nat → Prop} : Svs H σ F [] [] := trivial
end Go.Abs
namespace Go.Abs
attribute [go_sem] Nat.lt_irrefl Array.toList_append List.nil_append Bool.not_true Bool.not_false eq_self Int.le_refl Nat.le_refl ne_eq not_false_eq_true not_true_eq_false decide_true decide_false true_and and_true and_self
end Go.Abs
