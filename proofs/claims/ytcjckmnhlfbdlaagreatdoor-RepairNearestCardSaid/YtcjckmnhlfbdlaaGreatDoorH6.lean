/- Part 6 of the texts that lead to repairNearestCard_holds. No condition. -/
import Derived.IntWalk
import Derived.Test.YtcjckmnhlfbdlaaGreatDoorH5
set_option linter.all false
namespace Go.Abs
open Go
theorem getE0 {α : Type} (a : α) (l : List α) : (a :: l)[0]? = some a := by simp
theorem getES {α : Type} (a : α) (l : List α) (n : Nat) : (a :: l)[n + 1]? = l[n]? := by simp
theorem getDS {α : Type} (a d : α) (l : List α) (n : Nat) : (a :: l).getD (n + 1) d = l.getD n d := by simp
theorem getD0 {α : Type} (a d : α) (l : List α) : (a :: l).getD 0 d = a := by simp
theorem setS {α : Type} (a b : α) (l : List α) (n : Nat) : (a :: l).set (n + 1) b = a :: l.set n b := by simp
theorem set0 {α : Type} (a b : α) (l : List α) : (a :: l).set 0 b = b :: l := by simp
theorem arrGet {α : Type} (l : List α) (n : Nat) : l.toArray[n]? = l[n]? := by simp
theorem dropS {α : Type} (a : α) (l : List α) (n : Nat) : (a :: l).drop (n + 1) = l.drop n := by simp
theorem takeS {α : Type} (a : α) (l : List α) (n : Nat) : (a :: l).take (n + 1) = a :: l.take n := by simp
theorem drop0 {α : Type} (l : List α) : l.drop 0 = l := by simp
theorem take0 {α : Type} (l : List α) : l.take 0 = [] := by simp
theorem dropNil {α : Type} (n : Nat) : ([] : List α).drop n = [] := by simp
theorem takeNil {α : Type} (n : Nat) : ([] : List α).take n = [] := by simp
theorem getLast {α : Type} (l : List α) (a : α) : (l ++ [a])[l.length]? = some a := by simp
theorem one_v {x : Value} : (AV.v x).one = x.oneCell' := _root_.id rfl
theorem one_sl {a b c : Nat} : (AV.sl a b c).one = true := _root_.id rfl
theorem one_pt {a b : Nat} : (AV.pt a b).one = true := _root_.id rfl
theorem one_im {a : Nat} {b : List AV} : (AV.im a b).one = true := _root_.id rfl
theorem one_ip {b : List AV} : (AV.ip b).one = true := _root_.id rfl
theorem one_fn {f : Fn} {a b : List AV} : (AV.fn f a b).one = true := _root_.id rfl
theorem one_mp {a : Nat} : (AV.mp a).one = true := _root_.id rfl
theorem one_em : AV.em.one = true := _root_.id rfl
theorem one_nb : AV.nb.one = true := _root_.id rfl
theorem one_nilV {b : Bool} {n : Nat} : (nilV b n).one = true := by unfold nilV; split <;> rfl
attribute [go_sem] one_nilV nilV_zero nilV_succ
attribute [go_sem] LX_skip LX_ret LX_exit LX_seq LX_cond LX_block LX_reg LX_loop LX_draw LCond_true LCond_false thenA_normal thenA_normal' thenA_ret thenA_exit blockA_normal blockA_normal' blockA_ret blockA_exit
attribute [go_sem] LOps_nil LOps_cons LOps_guard LGuard_tt LGuard_ff LGuard_tf LGuard_ft LGuard_undef LDo_call LCallV_fn LDo_builtin LDo_move LDo_assign LNext_some LDo_pick LDo_extract LDo_field LDo_load LDo_store LDo_box LDo_alloc LDo_build LDo_buildSlice LDo_makeSlice LDo_slice LDo_fieldAddr LDo_indexAddr LDo_index LDo_nilCheck LDo_unOp LDo_binOp LDo_convert LDo_makeFunc
attribute [go_sem] aop abuiltin aappend ev put lift flat one_v one_sl one_pt one_im one_ip one_fn one_mp one_em one_nb Value.oneCell' acells apart isAggD isIntD setRange afill fieldPlaces firstA lenA lenS acut aslice boundOf aindexAddr abin aint ashift astr aun toBytes eqCells eqCell resA resAll result endL
attribute [go_sem] getE0 getES getDS getD0 setS set0 arrGet dropS takeS drop0 take0 dropNil takeNil getLast
attribute [go_sem] List.length_cons List.length_nil List.length_append List.replicate_succ List.replicate_zero List.cons_append List.nil_append List.append_nil List.all_cons List.all_nil List.map_cons List.map_nil List.flatten_cons List.flatten_nil Option.map_some Option.map_none Bool.and_self Bool.and_true Bool.true_and Nat.zero_add Nat.add_zero Nat.zero_mul Nat.mul_one Nat.one_mul
theorem ifFT {α : Sort _} (a b : α) : (if false = true then a else b) = b := by simp
theorem ifTT {α : Sort _} (a b : α) : (if true = true then a else b) = a := by simp
attribute [go_sem] ifFT ifTT if_true if_false
end Go.Abs
namespace Go.Abs
open Go
section
variable {P : Program} {H : List AO} {Q : List AV → Prop} {os : List LOp} {dst : Option Tmp} {op : Op} {want : Bool} {g : List AV}
def ZNext (P : Program) (H : List AO) (Q : List AV → Prop) (os : List LOp) (dst : Option Tmp) (g : List AV) : Option (AV × List AO) → Prop
 | some (v, H') => H' = H ∧ LDr P H Q os (put g dst v)
 | none => False
def ZCall (P : Program) (H : List AO) (Q : List AV → Prop) (os : List LOp) (dst : Option Tmp) (g : List AV) (n : FuncId) (args : List AV) : Prop :=
 ∃ v, ACall P n args H (fun v' H' => v' = v ∧ H' = H) ∧ LDr P H Q os (put g dst v)
def ZCallV (P : Program) (H : List AO) (Q : List AV → Prop) (os : List LOp) (dst : Option Tmp) (g : List AV) (args : List AV) : AV → Prop
 | .fn (.func n) first cap => ZCall P H Q os dst g n (first ++ args ++ cap)
 | _ => False
def ZDo (P : Program) (H : List AO) (Q : List AV → Prop) (os : List LOp) (dst : Option Tmp) (g : List AV) (op : Op) : Prop :=
 ∃ v, LExec P op g H (fun v' H' => v' = v ∧ H' = H) ∧ LDr P H Q os (put g dst v)
def ZGuard (P : Program) (H : List AO) (Q : List AV → Prop) (os : List LOp) (dst : Option Tmp) (g : List AV) (op : Op) (want : Bool) : Option AV → Prop
 | some (.v (.bool b)) => if b = want then ZDo P H Q os dst g op else LDr P H Q os (put g dst (.v undef))
 | some (.v (.tuple _)) => LDr P H Q os (put g dst (.v undef))
 | _ => False
theorem LDr_nil : LDr P H Q [] g = Q g := _root_.id rfl
theorem LDr_cons : LDr P H Q (⟨dst, op, none⟩ :: os) g = ZDo P H Q os dst g op := _root_.id rfl
theorem LDr_guard {d : Tmp} : LDr P H Q (⟨dst, op, some (d, want)⟩ :: os) g = ZGuard P H Q os dst g op want (g[d]?) := by
 rw [LDr]
 unfold ZGuard ZDo
 all_goals (first | rfl | (split <;> simp_all))
theorem ZGuard_tt : ZGuard P H Q os dst g op true (some (.v (.bool true))) = ZDo P H Q os dst g op := _root_.id rfl
theorem ZGuard_ff : ZGuard P H Q os dst g op false (some (.v (.bool false))) = ZDo P H Q os dst g op := _root_.id rfl
theorem ZGuard_tf : ZGuard P H Q os dst g op true (some (.v (.bool false))) = LDr P H Q os (put g dst (.v undef)) := _root_.id rfl
theorem ZGuard_ft : ZGuard P H Q os dst g op false (some (.v (.bool true))) = LDr P H Q os (put g dst (.v undef)) := _root_.id rfl
theorem ZGuard_undef : ZGuard P H Q os dst g op want (some (.v undef)) = LDr P H Q os (put g dst (.v undef)) := _root_.id rfl
theorem ZDo_call {f : Operand} {args : Array Operand} {ats : Array TypeId} : ZDo P H Q os dst g (.call ⟨.value f, args, ats⟩) = ZCallV P H Q os dst g (args.toList.map (ev g)) (ev g f) := by
 simp only [ZDo, LExec, ZCallV, ZCall]
 generalize hx : ev g f = x
 all_goals (split <;> simp_all)
theorem ZCallV_fn {n : FuncId} {first cap args : List AV} : ZCallV P H Q os dst g args (.fn (.func n) first cap) = ZCall P H Q os dst g n (first ++ args ++ cap) := _root_.id rfl
theorem ZE (o : Option (AV × List AO)) : (∃ v, (match o with | some (v', H') => v' = v ∧ H' = H | none => False) ∧ LDr P H Q os (put g dst v)) = ZNext P H Q os dst g o := by
 cases o with
 | none => simp [ZNext]
 | some x =>
  obtain ⟨v, H'⟩ := x
  simp only [ZNext]
  refine propext ⟨?_, ?_⟩
  ·rintro ⟨_, ⟨rfl, h⟩, k⟩; exact ⟨h, k⟩
  ·rintro ⟨h, k⟩; exact ⟨v, ⟨rfl, h⟩, k⟩
theorem ZDo_aop (h : ∀ c, op ≠ .call c) : ZDo P H Q os dst g op = ZNext P H Q os dst g (aop P g H op) := by
 rw [← ZE]
 unfold ZDo
 congr 1
 funext v
 congr 1
 unfold LExec
 split
 ·exact absurd rfl (h _)
 ·cases aop P g H op with
  | none => rfl
  | some x => rfl
theorem ZDo_builtin {b : Builtin} {args : Array Operand} {ats : Array TypeId} : ZDo P H Q os dst g (.call ⟨.builtin b, args, ats⟩) = ZNext P H Q os dst g (abuiltin P H b ats (args.toList.map (ev g))) := by
 rw [← ZE]
 unfold ZDo
 congr 1
 funext v
 congr 1
 unfold LExec
 simp only [aop]
 cases abuiltin P H b ats (args.toList.map (ev g)) with
 | none => rfl
 | some x => rfl
theorem ZNext_some {v : AV} {H' : List AO} : ZNext P H Q os dst g (some (v, H')) = (H' = H ∧ LDr P H Q os (put g dst v)) := _root_.id rfl
theorem ZDo_move {x : Operand} : ZDo P H Q os dst g (.move x) = LDr P H Q os (put g dst (ev g x)) := by
 rw [ZDo_aop (by simp)]; simp only [aop, ZNext, true_and]
theorem ZDo_assign {x : Operand} : ZDo P H Q os dst g (.assign x) = LDr P H Q os (put g dst (ev g x)) := by
 rw [ZDo_aop (by simp)]; simp only [aop, ZNext, true_and]
theorem ZDo_pick {a b c : Operand} : ZDo P H Q os dst g (.pick c a b) = ZNext P H Q os dst g (aop P g H (.pick c a b)) := ZDo_aop (by simp)
theorem ZDo_extract {a : Operand} {i : Nat} : ZDo P H Q os dst g (.extract a i) = ZNext P H Q os dst g (aop P g H (.extract a i)) := ZDo_aop (by simp)
theorem ZDo_field {a : Operand} {t : TypeId} {i : Nat} : ZDo P H Q os dst g (.field t a i) = ZNext P H Q os dst g (aop P g H (.field t a i)) := ZDo_aop (by simp)
theorem ZDo_load {a : Operand} {t : TypeId} : ZDo P H Q os dst g (.load t a) = ZNext P H Q os dst g (aop P g H (.load t a)) := ZDo_aop (by simp)
theorem ZDo_slice {t : TypeId} {a : Operand} {x y z : Option Operand} : ZDo P H Q os dst g (.slice t a x y z) = ZNext P H Q os dst g (aop P g H (.slice t a x y z)) := ZDo_aop (by simp)
theorem ZDo_fieldAddr {t : TypeId} {a : Operand} {i : Nat} : ZDo P H Q os dst g (.fieldAddr t a i) = ZNext P H Q os dst g (aop P g H (.fieldAddr t a i)) := ZDo_aop (by simp)
theorem ZDo_indexAddr {t : TypeId} {a b : Operand} : ZDo P H Q os dst g (.indexAddr t a b) = ZNext P H Q os dst g (aop P g H (.indexAddr t a b)) := ZDo_aop (by simp)
theorem ZDo_index {t : TypeId} {a b : Operand} : ZDo P H Q os dst g (.index t a b) = ZNext P H Q os dst g (aop P g H (.index t a b)) := ZDo_aop (by simp)
theorem ZDo_nilCheck {a : Operand} : ZDo P H Q os dst g (.nilCheck a) = ZNext P H Q os dst g (aop P g H (.nilCheck a)) := ZDo_aop (by simp)
theorem ZDo_unOp {t : TypeId} {a : Operand} {o : UnOp} : ZDo P H Q os dst g (.unOp o t a) = ZNext P H Q os dst g (aop P g H (.unOp o t a)) := ZDo_aop (by simp)
theorem ZDo_binOp {t u : TypeId} {a b : Operand} {o : BinOp} : ZDo P H Q os dst g (.binOp o t a b u) = ZNext P H Q os dst g (aop P g H (.binOp o t a b u)) := ZDo_aop (by simp)
theorem ZDo_convert {t u : TypeId} {a : Operand} : ZDo P H Q os dst g (.convert t u a) = ZNext P H Q os dst g (aop P g H (.convert t u a)) := ZDo_aop (by simp)
theorem ZDo_makeFunc {f : Fn} {a b : Array Operand} : ZDo P H Q os dst g (.makeFunc f a b) = ZNext P H Q os dst g (aop P g H (.makeFunc f a b)) := ZDo_aop (by simp)
theorem ZCall_pure {n : FuncId} {args : List AV} {r : AV} (h : APure P n args r) (hc : Cls args) (k : LDr P H Q os (put g dst r)) : ZCall P H Q os dst g n args := ⟨r, ACall_pure h hc ⟨rfl, rfl⟩, k⟩
theorem ZCall_borrow {n : FuncId} {args args' : List AV} {r : AV} (hs : Rfs H args args') (h : APure P n args' r) (hp : r.plain = true) (k : LDr P H Q os (put g dst r)) : ZCall P H Q os dst g n args := ⟨r, ACall_borrow hs h hp ⟨rfl, rfl⟩, k⟩
end
attribute [irreducible] ZNext ZCall ZCallV ZDo ZGuard
attribute [go_sem] LDr_nil LDr_cons LDr_guard ZGuard_tt ZGuard_ff ZGuard_tf ZGuard_ft ZGuard_undef ZDo_call ZCallV_fn ZDo_builtin ZNext_some ZDo_move ZDo_assign ZDo_pick ZDo_extract ZDo_field ZDo_load ZDo_slice ZDo_fieldAddr ZDo_indexAddr ZDo_index ZDo_nilCheck ZDo_unOp ZDo_binOp ZDo_convert ZDo_makeFunc
end Go.Abs
namespace Go.Abs
open Go
structure Ex (I O : Nat → Prop) (w : World) (I' O' : Nat → Prop) (w' : World) : Prop where
  os : w'.os = w.os
  tape : w'.tape = w.tape
  output : w'.output = w.output
  size : w.heap.size ≤ w'.heap.size
  blk : ∀ b, b < w.heap.size → ¬ O b → w'.heap[b]? = w.heap[b]?
  imm : ∀ b, I b → I' b
  ow : ∀ b, O' b → O b ∨ w.heap.size ≤ b
  inew : ∀ b, I' b → I b ∨ O b ∨ w.heap.size ≤ b
theorem Ext.ex {I I' O O' : Nat → Prop} {m m' : List Loc} {w w' : World} (h : Ext I m O w I' m' O' w') : Ex I O w I' O' w' := ⟨h.os, h.tape, h.output, h.size, h.blk, h.imm, h.ow, h.inew⟩
theorem Ex.ext {I I' O O' : Nat → Prop} {m m' : List Loc} {w w' : World} (h : Ex I O w I' O' w') (hp : ∃ nu, m' = m ++ nu) : Ext I m O w I' m' O' w' := ⟨h.os, h.tape, h.output, h.size, h.blk, h.imm, h.ow, hp, h.inew⟩
theorem Ex.refl (I O : Nat → Prop) (w : World) : Ex I O w I O w := (Ext.refl I [] O w).ex
theorem Ex.trans {I1 I2 I3 O1 O2 O3 : Nat → Prop} {w1 w2 w3 : World} (h : Ex I1 O1 w1 I2 O2 w2) (k : Ex I2 O2 w2 I3 O3 w3) : Ex I1 O1 w1 I3 O3 w3 :=
 ((h.ext (m := []) (m' := []) ⟨[], rfl⟩).trans (k.ext (m' := []) ⟨[], rfl⟩)).ex
def Kp (k : Nat) (m m' : List Loc) : Prop := ∀ (i : Nat) L, i < k → m[i]? = some L → m'[i]? = some L
theorem Kp.refl (k : Nat) (m : List Loc) : Kp k m m := fun _ _ _ h => h
theorem Kp.trans {k : Nat} {m1 m2 m3 : List Loc} (h : Kp k m1 m2) (h' : Kp k m2 m3) : Kp k m1 m3 := fun i L hi hm => h' i L hi (h i L hi hm)
theorem Kp.pre {k : Nat} {m m' : List Loc} (h : ∃ nu, m' = m ++ nu) : Kp k m m' := fun i L _ hm => by
 obtain ⟨nu, rfl⟩ := h
 exact loc_pre hm
def VS (k : Nat) (g : List AV) (H : List AO) (g2 : List AV) (H2 : List AO) : Prop :=
 ∀ (I : Nat → Prop) (m : List Loc) (w : World) (xs : List Value), HR I m H w → VRs I m w g xs →
  ∃ I2 m2, HR I2 m2 H2 w ∧ VRs I2 m2 w g2 xs ∧ (∀ b, I b → I2 b) ∧ (∀ b, I2 b → I b ∨ Own H m b) ∧ (∀ b, Own H2 m2 b → Own H m b) ∧ Kp k m m2
theorem VS.refl (k : Nat) (g : List AV) (H : List AO) : VS k g H g H := fun I m w xs h1 h2 => ⟨I, m, h1, h2, fun _ h => h, fun _ h => .inl h, fun _ h => h, Kp.refl k m⟩
theorem VS.ex {I I2 O O2 : Nat → Prop} {w : World} (h1 : ∀ b, I b → I2 b) (h2 : ∀ b, I2 b → I b ∨ O b) (h3 : ∀ b, O2 b → O b) : Ex I O w I2 O2 w :=
 ⟨rfl, rfl, rfl, Nat.le_refl _, fun _ _ _ => rfl, h1, fun b h => .inl (h3 b h), fun b h => (h2 b h).elim .inl fun h => .inr (.inl h)⟩
section
variable {P : Program} {k : Nat}
def BW [DSt] (P : Program) (k : Nat) (c : Code) (Q : Exit → List AV → List AO → Prop) (g : List AV) (H : List AO) : Prop :=
 ∀ (I : Nat → Prop) (m : List Loc) (a : Act) (w : World), HR I m H w → VRs I m w g a.tmps.toList → a.defers = DSt.l →
  WPA P c (fun e a' w' => ∃ g' H' I' m', Q e g' H' ∧ HR I' m' H' w' ∧ VRs I' m' w' g' a'.tmps.toList ∧ a'.defers = DSt.l ∧ Ex I (Own H m) w I' (Own H' m') w' ∧ Kp k m m') a w
variable {Q Q' : Exit → List AV → List AO → Prop} {g g2 : List AV} {H H2 : List AO} {c : Code}
theorem BW.of_AW [DSt] (h : AW P c Q g H) : BW P k c Q g H := fun I m a w h1 h2 h3 => wp_mono (h I m a w h1 h2 h3) fun e a' w' ⟨g', H', I', m', h4, h5, h6, h7, h8⟩ => ⟨g', H', I', m', h4, h5, h6, h7, h8.ex, Kp.pre h8.pre⟩
theorem BW.mono [DSt] (h : BW P k c Q g H) (hq : ∀ e g H, Q e g H → Q' e g H) : BW P k c Q' g H :=
 fun I m a w h1 h2 h3 => wp_mono (h I m a w h1 h2 h3) fun e a' w' ⟨g', H', I', m', h4, h5⟩ => ⟨g', H', I', m', hq _ _ _ h4, h5⟩
theorem BW.vs [DSt] (hv : VS k g H g2 H2) (h : BW P k c Q g2 H2) : BW P k c Q g H := fun I m a w h1 h2 h3 => by
 obtain ⟨I2, m2, k1, k2, k3, k4, k5, k6⟩ := hv I m w _ h1 h2
 exact wp_mono (h I2 m2 a w k1 k2 h3) fun e a' w' ⟨g', H', I', m', h4, h5, h6, h7, h8, h9⟩ => ⟨g', H', I', m', h4, h5, h6, h7, (VS.ex k3 k4 k5).trans h8, k6.trans h9⟩
theorem BW_seq [DSt] {x y : Code} (h : BW P k x (thenA (BW P k y Q) Q) g H) : BW P k (.seq x y) Q g H := by
 intro I m a w h1 h2 h3
 refine wp_seq (wp_mono (h I m a w h1 h2 h3) ?_)
 rintro e a' w' ⟨g', H', I', m', h4, h5, h6, h7, h8, h9⟩
 cases e with
 | normal =>
  refine wp_mono (h4 I' m' a' w' h5 h6 h7) ?_
  rintro e a2 w2 ⟨g2, H2, I2, m2, k1, k2, k3, k4, k5, k6⟩
  exact ⟨g2, H2, I2, m2, k1, k2, k3, k4, h8.trans k5, h9.trans k6⟩
 | _ => exact ⟨g', H', I', m', h4, h5, h6, h7, h8, h9⟩
theorem BW_cond [DSt] {c : Operand} {x y : Code} {t : Bool} (hc : ev g c = .v (.bool t)) (h : BW P k (if t then x else y) Q g H) : BW P k (.cond c x y) Q g H := by
 intro I m a w h1 h2 h3
 have hv := VR.ev h2 c
 rw [hc] at hv
 simp only [VR] at hv
 exact wp_cond hv (h I m a w h1 h2 h3)
theorem BW_cond_nb [DSt] {c : Operand} {x y : Code} (hc : ev g c = .nb) (hx : BW P k x Q g H) (hy : BW P k y Q g H) : BW P k (.cond c x y) Q g H := by
 intro I m a w h1 h2 h3
 have hv := VR.ev h2 c
 rw [hc] at hv
 simp only [VR] at hv
 obtain ⟨b, hv⟩ := hv
 refine wp_cond hv ?_
 cases b
 ·exact hy I m a w h1 h2 h3
 ·exact hx I m a w h1 h2 h3
theorem BW_block [DSt] {id : Nat} {c : Code} (h : BW P k c (blockA id Q) g H) : BW P k (.block id c) Q g H := by
 intro I m a w h1 h2 h3
 refine wp_block (wp_mono (h I m a w h1 h2 h3) ?_)
 rintro e a' w' ⟨g', H', I', m', h4, h5⟩
 cases e with
 | exit id' =>
  simp only [blockA] at h4
  simp only [Exit.inBlock]
  split at h4
  ·rename_i hid; rw [if_pos hid]; exact ⟨g', H', I', m', h4, h5⟩
  ·rename_i hid; rw [if_neg hid]; exact ⟨g', H', I', m', h4, h5⟩
 | _ => exact ⟨g', H', I', m', h4, h5⟩
theorem BW_loop [DSt] {c : Code} (J : Nat → List AV → List AO → Prop) (n : Nat) (h0 : J n g H) (round : ∀ n g H, J n g H → BW P k c (thenA (fun g' H' => ∃ n' g2 H2, n' < n ∧ J n' g2 H2 ∧ VS k g' H' g2 H2) Q) g H) : BW P k (.loop c) Q g H := by
 intro I m a w h1 h2 h3
 refine wp_loop_ghost (fun n a' w' => ∃ g' H' I' m', J n g' H' ∧ HR I' m' H' w' ∧ VRs I' m' w' g' a'.tmps.toList ∧ a'.defers = DSt.l ∧ Ex I (Own H m) w I' (Own H' m') w' ∧ Kp k m m') n ⟨g, H, I, m, h0, h1, h2, h3, Ex.refl _ _ _, Kp.refl _ _⟩ ?_
 rintro k a1 w1 ⟨g1, H1, I1, m1, j1, j2, j3, j4, j5, j6⟩
 refine wp_mono (round k g1 H1 j1 I1 m1 a1 w1 j2 j3 j4) ?_
 rintro e a2 w2 ⟨g2, H2, I2, m2, k1, k2, k3, k4, k5, k6⟩
 cases e with
 | normal =>
  obtain ⟨n', g3, H3, hlt, hj, hv⟩ := k1
  obtain ⟨I3, m3, q1, q2, q3, q4, q5, q6⟩ := hv I2 m2 w2 _ k2 k3
  exact ⟨n', hlt, g3, H3, I3, m3, hj, q1, q2, k4, (j5.trans k5).trans (VS.ex q3 q4 q5), (j6.trans k6).trans q6⟩
 | _ => exact ⟨g2, H2, I2, m2, k1, k2, k3, k4, j5.trans k5, j6.trans k6⟩
def MW [DSt] (P : Program) (k : Nat) (l : LC) (Q : Exit → List AV → List AO → Prop) (g : List AV) (H : List AO) : Prop := ∀ c : Code, low c = some l → BW P k c Q g H
theorem MW.of_LW [DSt] {l : LC} (h : LW P l Q g H) : MW P k l Q g H := fun c hc => BW.of_AW (h c hc)
theorem MW.vs [DSt] {l : LC} (hv : VS k g H g2 H2) (h : MW P k l Q g2 H2) : MW P k l Q g H := fun c hc => BW.vs hv (h c hc)
theorem MW.mono [DSt] {l : LC} (h : MW P k l Q g H) (hq : ∀ e g H, Q e g H → Q' e g H) : MW P k l Q' g H := fun c hc => (h c hc).mono hq
end
end Go.Abs
namespace Go.Abs
open Go
section
variable {P : Program} {k : Nat} {Q Q' : Exit → List AV → List AO → Prop} {g g2 : List AV} {H H2 : List AO}
theorem MW_seq [DSt] {x y : LC} (h : MW P k x (thenA (MW P k y Q) Q) g H) : MW P k (.seq x y) Q g H := fun c hc => by
 obtain ⟨a, b, rfl, h1, h2⟩ := low_seq hc
 refine BW_seq ((h a h1).mono fun e g H k => ?_)
 cases e with
 | normal => exact k b h2
 | _ => exact k
theorem MW_cond [DSt] {o : Operand} {x y : LC} {t : Bool} (ht : ev g o = .v (.bool t)) (h : MW P k (if t then x else y) Q g H) : MW P k (.cond o x y) Q g H := fun c hc => by
 obtain ⟨a, b, rfl, h1, h2⟩ := low_cond hc
 refine BW_cond ht ?_
 cases t
 ·exact h b h2
 ·exact h a h1
theorem MW_cond_nb [DSt] {o : Operand} {x y : LC} (ht : ev g o = .nb) (hx : MW P k x Q g H) (hy : MW P k y Q g H) : MW P k (.cond o x y) Q g H := fun c hc => by
 obtain ⟨a, b, rfl, h1, h2⟩ := low_cond hc
 exact BW_cond_nb ht (hx a h1) (hy b h2)
theorem MW_block [DSt] {id : Nat} {x : LC} (h : MW P k x (blockA id Q) g H) : MW P k (.block id x) Q g H := fun c hc => by
 obtain ⟨a, rfl, h1⟩ := low_block hc
 exact BW_block (h a h1)
theorem MW_loop [DSt] {x : LC} (J : Nat → List AV → List AO → Prop) (n : Nat) (h0 : J n g H) (round : ∀ n g H, J n g H → MW P k x (thenA (fun g' H' => ∃ n' g2 H2, n' < n ∧ J n' g2 H2 ∧ VS k g' H' g2 H2) Q) g H) : MW P k (.loop x) Q g H := fun c hc => by
 obtain ⟨a, rfl, h1⟩ := low_loop hc
 exact BW_loop J n h0 fun n g H hj => round n g H hj a h1
def MX [DSt] (P : Program) (k : Nat) : LC → (Exit → List AV → List AO → Prop) → List AV → List AO → Prop
 | .skip, Q, g, H => Q .normal g H
 | .ret, Q, g, H => Q .ret g H
 | .exit id, Q, g, H => Q (.exit id) g H
 | .seq a b, Q, g, H => MX P k a (thenA (MX P k b Q) Q) g H
 | .cond c a b, Q, g, H => match ev g c with
  | .v (.bool true) => MX P k a Q g H
  | .v (.bool false) => MX P k b Q g H
  | .nb => MX P k a Q g H ∧ MX P k b Q g H
  | _ => False
 | .block id b, Q, g, H => MX P k b (blockA id Q) g H
 | .loop b, Q, g, H => MW P k (.loop b) Q g H
 | .reg ops, Q, g, H => LOps P (Q .normal) ops g H
 | .draw id ops, Q, g, H => MW P k (.draw id ops) Q g H
theorem MX_mono [DSt] : ∀ (l : LC) {Q Q' : Exit → List AV → List AO → Prop} {g : List AV} {H : List AO}, MX P k l Q g H → (∀ e g H, Q e g H → Q' e g H) → MW P k l Q' g H
 | .skip, Q, Q', g, H, h, hq => .of_LW (LW_skip (hq _ _ _ h))
 | .ret, Q, Q', g, H, h, hq => .of_LW (LW_ret (hq _ _ _ h))
 | .exit id, Q, Q', g, H, h, hq => .of_LW (LW_exit (hq _ _ _ h))
 | .seq a b, Q, Q', g, H, h, hq => MW_seq (MX_mono a h fun e g H k => by
  cases e with
  | normal => exact MX_mono b k hq
  | _ => exact hq _ _ _ k)
 | .cond c a b, Q, Q', g, H, h, hq => by
  simp only [MX] at h
  split at h
  ·rename_i hc; exact MW_cond (t := true) hc (MX_mono a h hq)
  ·rename_i hc; exact MW_cond (t := false) hc (MX_mono b h hq)
  ·rename_i hc; exact MW_cond_nb hc (MX_mono a h.1 hq) (MX_mono b h.2 hq)
  ·exact h.elim
 | .block id b, Q, Q', g, H, h, hq => MW_block (MX_mono b h fun e g H k => by
  cases e with
  | exit id' => simp only [blockA] at k ⊢; split <;> simp_all
  | _ => exact hq _ _ _ k)
 | .loop b, Q, Q', g, H, h, hq => MW.mono h hq
 | .reg ops, Q, Q', g, H, h, hq => (MW.of_LW (LW_reg (Q := Q) h)).mono hq
 | .draw id ops, Q, Q', g, H, h, hq => MW.mono h hq
theorem MX_ok [DSt] {l : LC} (h : MX P k l Q g H) : MW P k l Q g H := MX_mono l h fun _ _ _ k => k
def MCond [DSt] (P : Program) (k : Nat) (a b : LC) (Q : Exit → List AV → List AO → Prop) (g : List AV) (H : List AO) : AV → Prop
 | .v (.bool true) => MX P k a Q g H
 | .v (.bool false) => MX P k b Q g H
 | .nb => MX P k a Q g H ∧ MX P k b Q g H
 | _ => False
theorem MX_skip [DSt] : MX P k .skip Q g H = Q .normal g H := _root_.id rfl
theorem MX_ret [DSt] : MX P k .ret Q g H = Q .ret g H := _root_.id rfl
theorem MX_exit [DSt] {id : Nat} : MX P k (.exit id) Q g H = Q (.exit id) g H := _root_.id rfl
theorem MX_seq [DSt] {a b : LC} : MX P k (.seq a b) Q g H = MX P k a (thenA (MX P k b Q) Q) g H := _root_.id rfl
theorem MX_cond [DSt] {c : Operand} {a b : LC} : MX P k (.cond c a b) Q g H = MCond P k a b Q g H (ev g c) := by
 simp only [MX, MCond]
 all_goals (split <;> rfl)
theorem MCond_true [DSt] {a b : LC} : MCond P k a b Q g H (.v (.bool true)) = MX P k a Q g H := _root_.id rfl
theorem MCond_false [DSt] {a b : LC} : MCond P k a b Q g H (.v (.bool false)) = MX P k b Q g H := _root_.id rfl
theorem MCond_nb [DSt] {a b : LC} : MCond P k a b Q g H .nb = (MX P k a Q g H ∧ MX P k b Q g H) := _root_.id rfl
theorem MCond_nilF [DSt] {a b : LC} {n : Nat} : MCond P k a b Q g H (nilV false n) = ((n = 0 → MX P k a Q g H) ∧ MX P k b Q g H) := by
 cases n with
 | zero => rw [nilV_zero, MCond_nb]; simp
 | succ n => rw [nilV_succ, MCond_false]; simp
theorem MCond_nilT [DSt] {a b : LC} {n : Nat} : MCond P k a b Q g H (nilV true n) = (MX P k a Q g H ∧ (n = 0 → MX P k b Q g H)) := by
 cases n with
 | zero => rw [nilV_zero, MCond_nb]; simp
 | succ n => rw [nilV_succ, MCond_true]; simp
attribute [go_sem] MCond_nilF MCond_nilT
theorem MX_block [DSt] {id : Nat} {b : LC} : MX P k (.block id b) Q g H = MX P k b (blockA id Q) g H := _root_.id rfl
theorem MX_reg [DSt] {ops : List LOp} : MX P k (.reg ops) Q g H = LOps P (Q .normal) ops g H := _root_.id rfl
theorem MX_loop [DSt] {b : LC} : MX P k (.loop b) Q g H = MW P k (.loop b) Q g H := _root_.id rfl
theorem MX_draw [DSt] {id : Nat} {ops : Array Oper} : MX P k (.draw id ops) Q g H = MW P k (.draw id ops) Q g H := _root_.id rfl
theorem MCond_split [DSt] {a b : LC} {c : Bool} (h1 : c = true → MX P k a Q g H) (h2 : c = false → MX P k b Q g H) : MCond P k a b Q g H (.v (.bool c)) := by
 cases c
 ·exact h2 rfl
 ·exact h1 rfl
theorem LGuard_split {K : List AV → List AO → Prop} {os : List LOp} {dst : Option Tmp} {op : Op} {want c : Bool} (h1 : c = true → LGuard P K os dst g H op want (some (.v (.bool true)))) (h2 : c = false → LGuard P K os dst g H op want (some (.v (.bool false)))) : LGuard P K os dst g H op want (some (.v (.bool c))) := by
 cases c
 ·exact h2 rfl
 ·exact h1 rfl
theorem LNext_if {K : List AV → List AO → Prop} {os : List LOp} {dst : Option Tmp} {p : Prop} [Decidable p] {x : Option (AV × List AO)} (h : p) (h2 : LNext P K os dst g x) : LNext P K os dst g (if p then x else none) := by
 rw [if_pos h]; exact h2
theorem MW_loop_st [DSt] {σ : Type} {x : LC} (S : σ → List AV) (HS : σ → List AO) (Inv : σ → Prop) (μ : σ → Nat) (s0 : σ) (hv : VS k g H (S s0) (HS s0)) (hi : Inv s0)
 (round : ∀ s, Inv s → MX P k x (thenA (fun g' H' => ∃ s', μ s' < μ s ∧ Inv s' ∧ VS k g' H' (S s') (HS s')) Q) (S s) (HS s)) : MW P k (.loop x) Q g H :=
 MW.vs hv (MW_loop (fun n g H => ∃ s, n = μ s ∧ Inv s ∧ g = S s ∧ H = HS s) (μ s0) ⟨s0, rfl, hi, rfl, rfl⟩ fun n g H ⟨s, h1, h2, h3, h4⟩ => by
  subst h1; subst h3; subst h4
  refine MX_mono x (round s h2) fun e g H hq => ?_
  cases e with
  | normal =>
   obtain ⟨s', h5, h6, h7⟩ := hq
   exact ⟨μ s', _, _, h5, ⟨s', rfl, h6, rfl, rfl⟩, h7⟩
  | _ => exact hq)
theorem MW_still [DSt] {id : Nat} {ops : Array Oper} {ls : List LOp} (hl : lowOps ops ops.toList = some ls) (hm : P.follows .mixedOrders = true) (hlex : lexOK ops.toList = true) (h : LDr P H (fun g' => Q .normal g' H) ls g) : MW P k (.draw id ops) Q g H := .of_LW (LW_still hl hm hlex h)
def AFn (P : Program) (n : FuncId) (k : Nat) (args : List AV) (Hi : List AO) (R : AV → List AO → Prop) : Prop :=
 ∀ (I : Nat → Prop) (m : List Loc) (w : World) (xs : Array Value), HR I m Hi w → VRs I m w args xs.toList →
  CallsFn P n xs w (fun v w' => ∃ r Ho I' m', R r Ho ∧ VR I' m' w' r v ∧ HR I' m' Ho w' ∧ Ex I (Own Hi m) w I' (Own Ho m') w' ∧ Kp k m m')
def Fin (k : Nat) (v : AV) (H : List AO) (R : AV → List AO → Prop) : Prop := ∃ r Ho, R r Ho ∧ VS k [v] H [r] Ho
def endM (P : Program) (k : Nat) (rs : List ResultVar) (R : AV → List AO → Prop) : Exit → List AV → List AO → Prop
 | .normal, g, H | .ret, g, H => match resAll P g H rs with
  | some vs => Fin k (result vs) H R
  | none => False
 | _, _, _ => False
theorem AFn_of_MW {n : FuncId} {fn : Func} {l : LC} {args : List AV} {Hi : List AO} {R : AV → List AO → Prop} {rs : List ResultVar} {nt : Nat} (hf : P.funcs[n]? = some fn) (hbl : (fn.body.bind low) = some l) (hn : (fn.name == "runtime.NumGoroutine") = false) (hrs : fn.results.toList = rs) (hnt : fn.ntmps = nt)
 (h : MW P k l (endM P k rs R) (args ++ List.replicate (nt - args.length) (.v undef)) Hi) : AFn P n k args Hi R := by
 intro I m w xs hr hv
 obtain ⟨c, hb, hlow⟩ : ∃ c, fn.body = some c ∧ low c = some l := by
  cases hbd : fn.body with
  | none => rw [hbd] at hbl; simp at hbl
  | some c => rw [hbd] at hbl; exact ⟨c, rfl, by simpa using hbl⟩
 have hl := hv.len
 rw [Array.length_toList] at hl
 have e0 : (callFunc n xs).run P w = .ok (.enter n xs) w := by
  simp [callFunc, hf, hn, hb]
  intro hh
  simp [hh] at hn
 unfold CallsFn
 rw [e0]
 refine calls_of_wp hf hb (wp_mono (h c hlow I m { tmps := xs ++ Array.replicate (fn.ntmps - xs.size) undef, defers := [] } w hr ?_ rfl) ?_)
 ·simp only [Array.toList_append, Array.toList_replicate, hl, ← hnt]
  refine hv.append ?_
  generalize fn.ntmps - args.length = k
  induction k with
  | zero => simp [VRs]
  | succ k ih => simp only [List.replicate_succ, VRs]; exact ⟨_, _, rfl, by simp only [VR], ih⟩
 ·rintro e a' w' ⟨g', H', I', m', h1, h2, h3, h4, h5, h6⟩
  have key : (match resAll P g' H' rs with
   | some vs => Fin k (result vs) H' R
   | none => False) → ∃ v, (results fn a'.tmps).run P w' = .ok v w' ∧ ∃ v', Ending.returned v = .returned v' ∧ ∃ r Ho I' m', R r Ho ∧ VR I' m' w' r v' ∧ HR I' m' Ho w' ∧ Ex I (Own Hi m) w I' (Own Ho m') w' ∧ Kp k m m' := by
   intro h1
   split at h1
   ·rename_i vs k1
    obtain ⟨r, Ho, k2, hvs⟩ := h1
    subst hrs
    obtain ⟨ys, k3, k4⟩ := resAll_ok h2 h3 k1
    have k5 : (results fn a'.tmps).run P w' = .ok (if h : ys.toArray.size = 1 then ys.toArray[0] else .tuple ys.toArray) w' := by
     unfold results
     simp only [Array.mapM_eq_mapM_toList, Sem.run_bind, Sem.run_map]
     erw [k3]
     simp
    have k6 : VR I' m' w' (result vs) (if h : ys.toArray.size = 1 then ys.toArray[0] else .tuple ys.toArray) := by
     have kl := k4.len
     match vs, ys, k4, kl with
     | [v], [y], k4, _ =>
      simp only [VRs] at k4
      obtain ⟨y', zs, e, k6, _⟩ := k4
      obtain ⟨rfl, rfl⟩ := List.cons.inj e
      simpa [result] using k6
     | [], [], k4, _ => simp [result, VR, VRs]
     | v :: v2 :: vs, y :: y2 :: ys, k4, _ =>
      simp only [result]
      rw [dif_neg (by simp)]
      simp only [VR]
      exact ⟨_, rfl, k4⟩
    obtain ⟨I2, m2, q1, q2, q3, q4, q5, q6⟩ := hvs I' m' w' [_] h2 (by simp only [VRs]; exact ⟨_, _, rfl, k6, rfl⟩)
    simp only [VRs] at q2
    obtain ⟨y', zs, e, q2, _⟩ := q2
    obtain ⟨rfl, rfl⟩ := List.cons.inj e
    exact ⟨_, k5, _, rfl, r, Ho, I2, m2, k2, q2, q1, h5.trans (VS.ex q3 q4 q5), h6.trans q6⟩
   ·exact h1.elim
  cases e with
  | normal => exact ⟨h4, key h1⟩
  | ret => exact ⟨h4, key h1⟩
  | _ => exact h1.elim
end
attribute [irreducible] MX MCond
end Go.Abs
namespace Go.Abs
open Go
inductive Src where
  | old (id : Nat)
  | new (sz : Nat)
  deriving DecidableEq
def subL (m : List Loc) : Src → Loc
 | .old id => m.getD id ⟨0, 0, 0, 0⟩
 | .new sz => ⟨0, 0, sz, 0⟩
def sub (m : List Loc) (σ : List Src) : List Loc := σ.map (subL m)
def Frz (F : Nat → Prop) (I : Nat → Prop) (H : List AO) (m : List Loc) (b : Nat) : Prop := I b ∨ ∃ (id : Nat) (o : AO) (L : Loc), F id ∧ H[id]? = some o ∧ o.alive = true ∧ m[id]? = some L ∧ L.cap ≠ 0 ∧ L.b = b
def Sv (H : List AO) (σ : List Src) (F : Nat → Prop) (v v2 : AV) : Prop :=
 (v.one = true → v2.one = true) ∧ ∀ (I : Nat → Prop) (m : List Loc) (w : World) (y : Value), HR I m H w → VR I m w v y → VR (Frz F I H m) (sub m σ) w v2 y
def Svs (H : List AO) (σ : List Src) (F : Nat → Prop) : List AV → List AV → Prop
 | [], [] => True
 | v :: vs, v2 :: vs2 => Sv H σ F v v2 ∧ Svs H σ F vs vs2
 | _, _ => False
def Sg (H : List AO) (σ : List Src) (F : Nat → Prop) (v v2 : AV) : Prop := v2 = .any ∨ Sv H σ F v v2
def Sgs (H : List AO) (σ : List Src) (F : Nat → Prop) : List AV → List AV → Prop
 | [], [] => True
 | v :: vs, v2 :: vs2 => Sg H σ F v v2 ∧ Sgs H σ F vs vs2
 | _, _ => False
section
variable {H : List AO} {σ : List Src} {F : Nat → Prop}
theorem subL_old {m : List Loc} {id : Nat} {L : Loc} (h : m[id]? = some L) : subL m (.old id) = L := by simp [subL, List.getD_eq_getElem?_getD, h]
theorem sub_get {m : List Loc} {j id : Nat} {L : Loc} (hj : σ[j]? = some (.old id)) (h : m[id]? = some L) : (sub m σ)[j]? = some L := by
 simp only [sub, List.getElem?_map, hj, Option.map_some, subL_old h]
theorem sub_new {m : List Loc} {j sz : Nat} (hj : σ[j]? = some (.new sz)) : (sub m σ)[j]? = some ⟨0, 0, sz, 0⟩ := by
 simp only [sub, List.getElem?_map, hj, Option.map_some, subL]
theorem sub_lk {m : List Loc} {j id : Nat} {L : Loc} (hj : σ[j]? = some (.old id)) (h : lk m id = some L) : lk (sub m σ) j = some L := lk_of (sub_get hj (lk_get h).1) (lk_get h).2
theorem sub_some {m : List Loc} {j : Nat} {L : Loc} (h : (sub m σ)[j]? = some L) : ∃ s, σ[j]? = some s ∧ L = subL m s := by
 simp only [sub, List.getElem?_map, Option.map_eq_some_iff] at h
 obtain ⟨s, h1, h2⟩ := h
 exact ⟨s, h1, h2.symm⟩
theorem Frz.imp {I : Nat → Prop} {m : List Loc} {b : Nat} (h : I b) : Frz F I H m b := .inl h
theorem Cl.sv' {v : AV} (h : Cl v) {I : Nat → Prop} {m : List Loc} {w : World} {y : Value} (k : VR I m w v y) : VR (Frz F I H m) (sub m σ) w v y := by
 have := VR.mono (I' := Frz F I H m) (nu := sub m σ) (w' := w) (fun _ hb => Frz.imp hb) (fun _ _ => rfl) v y (h I m w y k)
 simpa using this
theorem Sv.cl {v : AV} (h : Cl v) : Sv H σ F v v := ⟨id, fun I m w y hr k => h.sv' k⟩
theorem Sv.sl {id off len j : Nat} (hj : σ[j]? = some (.old id)) : Sv H σ F (.sl id off len) (.sl j off len) := ⟨fun _ => rfl, fun I m w y hr k => by
 simp only [VR] at k ⊢
 obtain ⟨L, A, c, h1, h2⟩ := k
 exact ⟨L, A, c, sub_lk hj h1, h2⟩⟩
theorem Sv.pt {id off j : Nat} (hj : σ[j]? = some (.old id)) : Sv H σ F (.pt id off) (.pt j off) := ⟨fun _ => rfl, fun I m w y hr k => by
 simp only [VR] at k ⊢
 obtain ⟨L, h1, h2⟩ := k
 exact ⟨L, sub_lk hj h1, h2⟩⟩
theorem Sv.mp {id j : Nat} (hj : σ[j]? = some (.old id)) : Sv H σ F (.mp id) (.mp j) := ⟨fun _ => rfl, fun I m w y hr k => by
 simp only [VR] at k ⊢
 obtain ⟨L, h1, h2⟩ := k
 exact ⟨L, sub_lk hj h1, h2⟩⟩
theorem Sv.nil {j sz : Nat} (hj : σ[j]? = some (.new (sz + 1))) : Sv H σ F (.v (.slice none 0 0)) (.sl j 0 0) := ⟨fun _ => rfl, fun I m w y hr k => by
 simp only [VR] at k ⊢
 subst k
 exact ⟨_, none, 0, lk_of (sub_new hj) (by simp), by simp, Nat.le_refl _, .inl rfl, rfl⟩⟩
theorem Sv.em {j sz : Nat} (hj : σ[j]? = some (.new (sz + 1))) : Sv H σ F .em (.sl j 0 0) := ⟨fun _ => rfl, fun I m w y hr k => by
 simp only [VR] at k ⊢
 obtain ⟨A, rfl⟩ := k
 exact ⟨_, A, 0, lk_of (sub_new hj) (by simp), by simp, Nat.le_refl _, .inl rfl, rfl⟩⟩
theorem Sv.nil0 : Sv H σ F (.v (.slice none 0 0)) (.im 0 []) := ⟨fun _ => rfl, fun I m w y hr k => by
 simp only [VR] at k ⊢
 subst k
 exact ⟨none, 0, rfl, Nat.le_refl _, .inl trivial⟩⟩
theorem Sv.em0 : Sv H σ F .em (.im 0 []) := ⟨fun _ => rfl, fun I m w y hr k => by
 simp only [VR] at k ⊢
 obtain ⟨A, rfl⟩ := k
 exact ⟨A, 0, rfl, Nat.le_refl _, .inl trivial⟩⟩
theorem Sv.sl0 {id off : Nat} : Sv H σ F (.sl id off 0) (.im 0 []) := ⟨fun _ => rfl, fun I m w y hr k => by
 simp only [VR] at k ⊢
 obtain ⟨L, A, c, h1, h2, h3, h4, rfl⟩ := k
 exact ⟨A, c, rfl, h3, .inl trivial⟩⟩
theorem Svs.get : ∀ {vs vs2 : List AV}, Svs H σ F vs vs2 → vs2.length = vs.length ∧ ∀ (i : Nat) v2, vs2[i]? = some v2 → ∃ v, vs[i]? = some v ∧ Sv H σ F v v2
 | [], [], _ => ⟨rfl, fun i v2 h => by simp at h⟩
 | [], _ :: _, h => by simp only [Svs] at h
 | _ :: _, [], h => by simp only [Svs] at h
 | v :: vs, v2 :: vs2, h => by
  simp only [Svs] at h
  obtain ⟨h1, h2⟩ := Svs.get h.2
  refine ⟨by simp [h1], fun i r hi => ?_⟩
  cases i with
  | zero => simp at hi; subst hi; exact ⟨v, rfl, h.1⟩
  | succ i => simp at hi; simpa using h2 i r hi
theorem Svs.cl : ∀ {vs : List AV}, Cls vs → Svs H σ F vs vs
 | [], _ => by simp only [Svs]
 | v :: vs, h => by simp only [Svs]; exact ⟨.cl (h v (List.mem_cons_self ..)), Svs.cl fun u hu => h u (List.mem_cons_of_mem _ hu)⟩
theorem Svs.vrs {I : Nat → Prop} {m : List Loc} {w : World} (hr : HR I m H w) : ∀ {vs vs2 : List AV} {ys : List Value}, Svs H σ F vs vs2 → VRs I m w vs ys → VRs (Frz F I H m) (sub m σ) w vs2 ys
 | [], [], ys, _, k => by simpa only [VRs] using k
 | [], _ :: _, ys, h, _ => by simp only [Svs] at h
 | _ :: _, [], ys, h, _ => by simp only [Svs] at h
 | v :: vs, v2 :: vs2, ys, h, k => by
  simp only [Svs] at h
  simp only [VRs] at k ⊢
  obtain ⟨y, zs, rfl, h3, h4⟩ := k
  exact ⟨y, zs, rfl, h.1.2 I m w y hr h3, Svs.vrs hr h.2 h4⟩
theorem Svs.append {us us2 vs vs2 : List AV} (h : Svs H σ F us us2) (k : Svs H σ F vs vs2) : Svs H σ F (us ++ vs) (us2 ++ vs2) := by
 induction us generalizing us2 with
 | nil => cases us2 with
  | nil => simpa using k
  | cons => simp only [Svs] at h
 | cons u us ih => cases us2 with
  | nil => simp only [Svs] at h
  | cons u2 us2 => simp only [Svs, List.cons_append] at h ⊢; exact ⟨h.1, ih h.2⟩
theorem Svs.cr {I : Nat → Prop} {m : List Loc} {w : World} (hr : HR I m H w) {b o : Nat} {vs vs2 : List AV} (h : Svs H σ F vs vs2) (k : ∀ (i : Nat) c, vs[i]? = some c → ∃ x, w.cell? ⟨b, o + i, none⟩ = some x ∧ VR I m w c x) : CR (Frz F I H m) (sub m σ) w b vs2 o :=
 CR.of_get fun i c hc => by
  obtain ⟨v, h1, h2⟩ := h.get.2 i c hc
  obtain ⟨x, h3, h4⟩ := k i v h1
  exact ⟨x, h3, h2.2 I m w x hr h4⟩
theorem Sv.ag {vs rs : List AV} (h : Svs H σ F vs rs) : Sv H σ F (.ag vs) (.ag rs) := ⟨fun h => by simp [AV.one] at h, fun I m w y hr k => by
 simp only [VR] at k ⊢
 obtain ⟨xs, h1, h2⟩ := k
 exact ⟨xs, h1, h.vrs hr h2⟩⟩
theorem Sv.tu {vs rs : List AV} (h : Svs H σ F vs rs) : Sv H σ F (.tu vs) (.tu rs) := ⟨fun h => by simp [AV.one] at h, fun I m w y hr k => by
 simp only [VR] at k ⊢
 obtain ⟨xs, h1, h2⟩ := k
 exact ⟨xs, h1, h.vrs hr h2⟩⟩
theorem Sv.fn {f : Fn} {vs rs us ss : List AV} (h : Svs H σ F vs rs) (h' : Svs H σ F us ss) : Sv H σ F (.fn f vs us) (.fn f rs ss) := ⟨fun _ => rfl, fun I m w y hr k => by
 simp only [VR] at k ⊢
 obtain ⟨xs, ys, h1, h2, h3⟩ := k
 exact ⟨xs, ys, h1, h.vrs hr h2, h'.vrs hr h3⟩⟩
theorem HR.frz {I : Nat → Prop} {m : List Loc} {w : World} (hr : HR I m H w) {id sz : Nat} {cs : List AV} (ho : (H[id]? = some (.cells sz cs) ∧ F id) ∨ H[id]? = some (.ice sz cs)) {L : Loc} (hm : m[id]? = some L) (hc : L.cap ≠ 0) : Frz F I H m L.b := by
 rcases ho with ⟨ho, hf⟩ | ho
 ·exact .inr ⟨id, _, L, hf, ho, rfl, hm, hc, rfl⟩
 ·exact .inl ((hr.ob id _ L ho hm).2.2 hc).1
theorem or_fst {p q r : Prop} (h : (p ∧ q) ∨ r) : p ∨ r := h.imp And.left id
theorem Sv.slT {id off len sz t : Nat} {cs rs : List AV} (ho : (H[id]? = some (.cells sz cs) ∧ F id) ∨ H[id]? = some (.ice sz cs)) (h : Svs H σ F ((cs.drop off).take t) rs) : Sv H σ F (.sl id off len) (.im len rs) := ⟨fun _ => rfl, fun I m w y hr k => by
 simp only [VR] at k ⊢
 obtain ⟨L, A, c, h1, h2, h3, h4, rfl⟩ := k
 replace h1 := (lk_get h1).1
 refine ⟨A, c, rfl, h3, ?_⟩
 have hsz := hr.szOf (or_fst ho) h1
 have nil : (cs.drop off) = [] → rs = [] := fun e => by
  rw [e] at h
  simp only [List.take_nil] at h
  cases rs with
  | nil => rfl
  | cons => simp only [Svs] at h
 by_cases hc : c = 0
 ·subst hc
  exact .inl (nil (List.drop_eq_nil_of_le (by omega)))
 ·have ha := h4.resolve_left hc
  subst ha
  by_cases hcap : L.cap = 0
  ·exact .inl (nil (List.drop_eq_nil_of_le (by omega)))
  ·refine .inr ⟨L.b, L.o + off, rfl, hr.frz ho h1 hcap, h.cr hr fun i c hc => ?_⟩
   rw [List.getElem?_take] at hc
   split at hc
   ·rw [List.getElem?_drop] at hc
    obtain ⟨y, h7, h8⟩ := hr.cellOf (or_fst ho) h1 hc
    exact ⟨y, by rw [← h7]; congr 2; omega, h8⟩
   ·cases hc⟩
theorem Sv.slF {id off len sz : Nat} {cs rs : List AV} (ho : (H[id]? = some (.cells sz cs) ∧ F id) ∨ H[id]? = some (.ice sz cs)) (h : Svs H σ F (cs.drop off) rs) : Sv H σ F (.sl id off len) (.im len rs) :=
 Sv.slT (t := (cs.drop off).length) ho (by rw [List.take_length]; exact h)
theorem Sv.ptF {id off sz : Nat} {cs rs : List AV} (ho : (H[id]? = some (.cells sz cs) ∧ F id) ∨ H[id]? = some (.ice sz cs)) (hne : cs ≠ []) (h : Svs H σ F (cs.drop off) rs) : Sv H σ F (.pt id off) (.ip rs) := ⟨fun _ => rfl, fun I m w y hr k => by
 simp only [VR] at k ⊢
 obtain ⟨L, h1, rfl⟩ := k
 replace h1 := (lk_get h1).1
 have hsz := hr.szOf (or_fst ho) h1
 have : 0 < cs.length := List.length_pos_iff.2 hne
 refine ⟨L.b, L.o + off, rfl, hr.frz ho h1 (by omega), h.cr hr fun i c hc => ?_⟩
 rw [List.getElem?_drop] at hc
 obtain ⟨y, h7, h8⟩ := hr.cellOf (or_fst ho) h1 hc
 exact ⟨y, by rw [← h7]; congr 2; omega, h8⟩⟩
theorem Sg.any {v : AV} : Sg H σ F v .any := .inl rfl
theorem Sg.of {v v2 : AV} (h : Sv H σ F v v2) : Sg H σ F v v2 := .inr h
theorem Sg.vr {I : Nat → Prop} {m : List Loc} {w : World} (hr : HR I m H w) {v v2 : AV} {y : Value} (h : Sg H σ F v v2) (k : VR I m w v y) : VR (Frz F I H m) (sub m σ) w v2 y := by
 rcases h with rfl | h
 ·simp only [VR]
 ·exact h.2 I m w y hr k
theorem Sgs.vrs {I : Nat → Prop} {m : List Loc} {w : World} (hr : HR I m H w) : ∀ {vs vs2 : List AV} {ys : List Value}, Sgs H σ F vs vs2 → VRs I m w vs ys → VRs (Frz F I H m) (sub m σ) w vs2 ys
 | [], [], ys, _, k => by simpa only [VRs] using k
 | [], _ :: _, ys, h, _ => by simp only [Sgs] at h
 | _ :: _, [], ys, h, _ => by simp only [Sgs] at h
 | v :: vs, v2 :: vs2, ys, h, k => by
  simp only [Sgs] at h
  simp only [VRs] at k ⊢
  obtain ⟨y, zs, rfl, h3, h4⟩ := k
  exact ⟨y, zs, rfl, h.1.vr hr h3, Sgs.vrs hr h.2 h4⟩
def Ob (H : List AO) (σ : List Src) (F : Nat → Prop) : Src → AO → Prop
 | .new sz, .cells sz' cs => sz' = sz ∧ cs = []
 | .old id, .cells sz cs2 => ∃ cs, H[id]? = some (.cells sz cs) ∧ Svs H σ F cs cs2
 | .old id, .ice sz cs2 => ∃ cs, ((H[id]? = some (.cells sz cs) ∧ F id) ∨ H[id]? = some (.ice sz cs)) ∧ Svs H σ F cs cs2
 | .old id, .raw o => H[id]? = some (.raw o)
 | .old id, .fx sz cs2 r => ∃ cs, H[id]? = some (.fx sz cs r) ∧ Svs H σ F cs cs2
 | .old id, .tf t cs2 => ∃ cs, H[id]? = some (.tf t cs) ∧ Svs H σ F cs cs2
 | .old id, .tc t cs2 => ∃ cs, H[id]? = some (.tc t cs) ∧ Svs H σ F cs cs2
 | .old id, .mapv ks vs2 => ∃ vs, H[id]? = some (.mapv ks vs) ∧ Svs H σ F vs vs2
 | .old id, .mi vs2 s sn l => ∃ vs, H[id]? = some (.mi vs s sn l) ∧ Svs H σ F vs vs2
 | _, .dead => True
 | _, _ => False
def Obs (H : List AO) (σ : List Src) (F : Nat → Prop) : List Src → List AO → Prop
 | [], [] => True
 | s :: ss, o :: os => Ob H σ F s o ∧ Obs H σ F ss os
 | _, _ => False
theorem Obs.get : ∀ {ss : List Src} {os : List AO}, Obs H σ F ss os → ss.length = os.length ∧ ∀ (i : Nat) s o, ss[i]? = some s → os[i]? = some o → Ob H σ F s o
 | [], [], _ => ⟨rfl, fun i s o h => by simp at h⟩
 | [], _ :: _, h => by simp only [Obs] at h
 | _ :: _, [], h => by simp only [Obs] at h
 | s :: ss, o :: os, h => by
  simp only [Obs] at h
  obtain ⟨h1, h2⟩ := Obs.get h.2
  refine ⟨by simp [h1], fun i s' o' hs ho => ?_⟩
  cases i with
  | zero => simp at hs ho; subst hs; subst ho; exact h.1
  | succ i => simp at hs ho; exact h2 i s' o' hs ho
def oldId : Src → Option Nat
 | .old id => some id
 | .new _ => none
def gone (σ : List Src) (H2 : List AO) (id : Nat) : Bool := (σ.zip H2).all fun (s, o) => s != .old id || !o.alive
theorem gone_spec {H2 : List AO} {id j : Nat} {o : AO} (h : gone σ H2 id = true) (h1 : σ[j]? = some (.old id)) (h2 : H2[j]? = some o) : o.alive = false := by
 unfold gone at h
 have := List.all_eq_true.1 h (.old id, o) (List.mem_of_getElem? (i := j) (by simp [List.getElem?_zip_eq_some, h1, h2]))
 simpa using this
theorem nodup_filterMap : ∀ {σ : List Src}, (σ.filterMap oldId).Nodup → ∀ (i j id : Nat), σ[i]? = some (.old id) → σ[j]? = some (.old id) → i = j
 | [], _, i, j, id, h, _ => by simp at h
 | s :: σ, hn, i, j, id, h1, h2 => by
  have hmem : ∀ (i : Nat), σ[i]? = some (.old id) → id ∈ σ.filterMap oldId := fun i h => List.mem_filterMap.2 ⟨_, List.mem_of_getElem? h, rfl⟩
  have hn' : (σ.filterMap oldId).Nodup ∧ (s = .old id → id ∉ σ.filterMap oldId) := by
   cases s with
   | new sz => simp only [List.filterMap_cons, oldId] at hn; exact ⟨hn, fun h => by cases h⟩
   | old id' =>
    simp only [List.filterMap_cons, oldId] at hn
    obtain ⟨h3, h4⟩ := List.nodup_cons.1 hn
    exact ⟨h4, fun h => by injection h with h; subst h; exact h3⟩
  cases i with
  | zero =>
   cases j with
   | zero => rfl
   | succ j => simp at h1 h2; exact (hn'.2 h1 (hmem j h2)).elim
  | succ i =>
   cases j with
   | zero => simp at h1 h2; exact (hn'.2 h2 (hmem i h1)).elim
   | succ j => simp at h1 h2; rw [nodup_filterMap hn'.1 i j id h1 h2]
theorem VS_core {g g2 : List AV} {H2 : List AO} (σ : List Src) (F : Nat → Prop) (hF : ∀ id, F id → gone σ H2 id = true) (hn : (σ.filterMap oldId).Nodup) (ho : Obs H σ F σ H2) (hg : Sgs H σ F g g2)
 {I : Nat → Prop} {m : List Loc} {w : World} {xs : List Value} (hr : HR I m H w) (hv : VRs I m w g xs) : HR (Frz F I H m) (sub m σ) H2 w ∧ VRs (Frz F I H m) (sub m σ) w g2 xs ∧ (∀ b, Own H2 (sub m σ) b → Own H m b) ∧
  (∀ (j : Nat) o L, H2[j]? = some o → o.alive = true → (sub m σ)[j]? = some L → L.cap ≠ 0 → ∃ id o', σ[j]? = some (.old id) ∧ H[id]? = some o' ∧ o'.alive = true ∧ m[id]? = some L) := by
 obtain ⟨hl, hob⟩ := ho.get
 have alv : ∀ (j : Nat) o L, H2[j]? = some o → o.alive = true → (sub m σ)[j]? = some L → L.cap ≠ 0 → ∃ id o', σ[j]? = some (.old id) ∧ H[id]? = some o' ∧ o'.alive = true ∧ m[id]? = some L := fun j o L h1 h2 h3 h4 => by
  obtain ⟨s, hs, rfl⟩ := sub_some h3
  have := hob j s o hs h1
  cases s with
  | new sz => exact (h4 rfl).elim
  | old id =>
   have hm : ∀ o', H[id]? = some o' → ∃ L', m[id]? = some L' := fun o' h => by
    have : id < m.length := by rw [hr.len]; exact (List.getElem?_eq_some_iff.1 h).1
    exact ⟨m[id], List.getElem?_eq_getElem this⟩
   cases o with
   | dead => cases h2
   | ice => cases h2
   | cells sz cs2 =>
    simp only [Ob] at this
    obtain ⟨cs, h5, _⟩ := this
    obtain ⟨L', hL⟩ := hm _ h5
    exact ⟨id, _, hs, h5, rfl, by rw [subL_old hL]; exact hL⟩
   | fx sz cs2 r =>
    simp only [Ob] at this
    obtain ⟨cs, h5, _⟩ := this
    obtain ⟨L', hL⟩ := hm _ h5
    exact ⟨id, _, hs, h5, rfl, by rw [subL_old hL]; exact hL⟩
   | tc t cs2 =>
    simp only [Ob] at this
    obtain ⟨cs, h5, _⟩ := this
    obtain ⟨L', hL⟩ := hm _ h5
    exact ⟨id, _, hs, h5, rfl, by rw [subL_old hL]; exact hL⟩
   | tf t cs2 =>
    simp only [Ob] at this
    obtain ⟨cs, h5, _⟩ := this
    obtain ⟨L', hL⟩ := hm _ h5
    exact ⟨id, _, hs, h5, rfl, by rw [subL_old hL]; exact hL⟩
   | mapv ks vs2 =>
    simp only [Ob] at this
    obtain ⟨vs, h5, _⟩ := this
    obtain ⟨L', hL⟩ := hm _ h5
    exact ⟨id, _, hs, h5, rfl, by rw [subL_old hL]; exact hL⟩
   | mi vs2 s2 sn2 l2 =>
    simp only [Ob] at this
    obtain ⟨vs, h5, _⟩ := this
    obtain ⟨L', hL⟩ := hm _ h5
    exact ⟨id, _, hs, h5, rfl, by rw [subL_old hL]; exact hL⟩
   | raw ob =>
    simp only [Ob] at this
    obtain ⟨L', hL⟩ := hm _ this
    exact ⟨id, _, hs, this, rfl, by rw [subL_old hL]; exact hL⟩
 have ownb : ∀ b, Own H2 (sub m σ) b → Own H m b := fun b ⟨j, o, L, h1, h2, h3, h4, h5⟩ => by
  obtain ⟨id, o', h6, h7, h8, h9⟩ := alv j o L h1 h2 h3 h4
  exact ⟨id, o', L, h7, h8, h9, h4, h5⟩
 refine ⟨⟨by simp [sub, hl], fun j o L h1 h2 => ?_, fun i j oi oj Li Lj hij hi hj ai aj mi mj ci cj => ?_, fun b hb hO => ?_, fun b hb => ?_, hr.gl.on (fun _ h => .inl h) fun _ _ => rfl⟩, hg.vrs hr hv, ownb, alv⟩
 ·obtain ⟨s, hs, rfl⟩ := sub_some h2
  have := hob j s o hs h1
  cases s with
  | new sz =>
   cases o <;> simp only [Ob] at this <;> try contradiction
   ·obtain ⟨rfl, rfl⟩ := this; simp [OR, subL]
   ·simp only [OR]
  | old id =>
   have hm : ∀ o', H[id]? = some o' → ∃ L', m[id]? = some L' := fun o' h => by
    have : id < m.length := by rw [hr.len]; exact (List.getElem?_eq_some_iff.1 h).1
    exact ⟨m[id], List.getElem?_eq_getElem this⟩
   cases o with
   | dead => simp only [OR]
   | cells sz cs2 =>
    simp only [Ob] at this
    obtain ⟨cs, h5, h6⟩ := this
    obtain ⟨L, hL⟩ := hm _ h5
    rw [subL_old hL]
    obtain ⟨q1, q2, q3⟩ := hr.ob id _ L h5 hL
    refine ⟨q1, by rw [h6.get.1]; exact q2, fun hc => ?_⟩
    obtain ⟨c, E, fz, r1, r2, r3, r4⟩ := q3 hc
    refine ⟨c, E, fz, r1, r2, r3, fun i x hx => ?_⟩
    obtain ⟨v, s1, s2⟩ := h6.get.2 i x hx
    obtain ⟨y, t1, t2, t3⟩ := r4 i v s1
    exact ⟨y, t1, s2.2 I m w y hr t2, s2.1 t3⟩
   | fx sz cs2 r =>
    simp only [Ob] at this
    obtain ⟨cs, h5, h6⟩ := this
    obtain ⟨L, hL⟩ := hm _ h5
    rw [subL_old hL]
    obtain ⟨⟨q1, q2, q3⟩, q0⟩ := hr.ob id _ L h5 hL
    refine ⟨⟨q1, by rw [h6.get.1]; exact q2, fun hc => ?_⟩, by rw [h6.get.1]; exact q0⟩
    obtain ⟨c, E, fz, r1, r2, r3, r4⟩ := q3 hc
    refine ⟨c, E, fz, r1, r2, r3, fun i x hx => ?_⟩
    obtain ⟨v, s1, s2⟩ := h6.get.2 i x hx
    obtain ⟨y, t1, t2, t3⟩ := r4 i v s1
    exact ⟨y, t1, s2.2 I m w y hr t2, s2.1 t3⟩
   | ice sz cs2 =>
    simp only [Ob] at this
    obtain ⟨cs, h5, h6⟩ := this
    have h5' := or_fst h5
    obtain ⟨L, hL⟩ : ∃ L', m[id]? = some L' := by rcases h5' with h | h <;> exact hm _ h
    rw [subL_old hL]
    obtain ⟨q1, q2⟩ := hr.szOf h5' hL
    exact ⟨q1, by rw [h6.get.1]; exact q2, fun hc => ⟨hr.frz h5 hL hc, h6.cr hr fun i c hc => hr.cellOf h5' hL hc⟩⟩
   | tc t cs2 =>
    simp only [Ob] at this
    obtain ⟨cs, h5, h6⟩ := this
    obtain ⟨L, hL⟩ := hm _ h5
    rw [subL_old hL]
    obtain ⟨q1, c, q2, q3⟩ := hr.ob id _ L h5 hL
    refine ⟨⟨q1.1, q1.2.1, q1.2.2.1, by rw [h6.get.1]; exact q1.2.2.2⟩, c, q2, fun i x hx => ?_⟩
    obtain ⟨v, s1, s2⟩ := h6.get.2 i x hx
    obtain ⟨y, t1, t2, t3⟩ := q3 i v s1
    exact ⟨y, t1, s2.2 I m w y hr t2, s2.1 t3⟩
   | tf t cs2 =>
    simp only [Ob] at this
    obtain ⟨cs, h5, h6⟩ := this
    obtain ⟨L, hL⟩ := hm _ h5
    rw [subL_old hL]
    obtain ⟨q1, c, fz, q2, q3⟩ := hr.ob id _ L h5 hL
    refine ⟨⟨q1.1, q1.2.1, q1.2.2.1, by rw [h6.get.1]; exact q1.2.2.2⟩, c, fz, q2, fun i x hx => ?_⟩
    obtain ⟨v, s1, s2⟩ := h6.get.2 i x hx
    obtain ⟨y, t1, t2, t3⟩ := q3 i v s1
    exact ⟨y, t1, s2.2 I m w y hr t2, s2.1 t3⟩
   | mapv ks vs2 =>
    simp only [Ob] at this
    obtain ⟨vs, h5, h6⟩ := this
    obtain ⟨L, hL⟩ := hm _ h5
    rw [subL_old hL]
    obtain ⟨q1, es, cl, q2, q3, q4⟩ := hr.ob id _ L h5 hL
    exact ⟨q1, es, cl, q2, q3, h6.vrs hr q4.1, q4.2⟩
   | mi vs2 s2 sn2 l2 =>
    simp only [Ob] at this
    obtain ⟨vs, h5, h6⟩ := this
    obtain ⟨L, hL⟩ := hm _ h5
    rw [subL_old hL]
    obtain ⟨q1, b, q2, q3⟩ := hr.ob id _ L h5 hL
    exact ⟨q1, b, q2, h6.vrs hr q3⟩
   | raw ob =>
    simp only [Ob] at this
    obtain ⟨L, hL⟩ := hm _ this
    rw [subL_old hL]
    exact hr.ob id _ L this hL
 ·obtain ⟨id, o', h6, h7, h8, h9⟩ := alv i oi Li hi ai mi ci
  obtain ⟨id2, o2, k6, k7, k8, k9⟩ := alv j oj Lj hj aj mj cj
  refine hr.inj id id2 o' o2 Li Lj (fun e => ?_) h7 k7 h8 k8 h9 k9 ci cj
  subst e
  exact hij (nodup_filterMap hn i j id h6 k6)
 ·obtain ⟨j, o, L, h1, h2, h3, h4, h5⟩ := hO
  obtain ⟨id, o', h6, h7, h8, h9⟩ := alv j o L h1 h2 h3 h4
  rcases hb with hb | ⟨id', o2, L2, hF', k1, k2, k3, k4, k5⟩
  ·exact hr.imm b hb ⟨id, o', L, h7, h8, h9, h4, h5⟩
  ·by_cases e : id' = id
   ·subst e
    have := gone_spec (hF _ hF') h6 h1
    rw [this] at h2; cases h2
   ·exact hr.inj id' id o2 o' L2 L e k1 h7 k2 h8 k3 h9 k4 h4 (by rw [k5, h5])
 ·rcases hb with hb | ⟨id', o2, L2, hF', k1, k2, k3, k4, k5⟩
  ·exact hr.ilt b hb
  ·rw [← k5]; exact hr.lt k1 k2 k3 k4
theorem VS_of {k : Nat} {g g2 : List AV} {H2 : List AO} (σ : List Src) (hn : (σ.filterMap oldId).Nodup) (ho : Obs H σ (fun id => gone σ H2 id = true) σ H2) (hg : Sgs H σ (fun id => gone σ H2 id = true) g g2) (hk : ∀ i, i < k → σ[i]? = some (.old i)) : VS k g H g2 H2 := fun I m w xs hr hv => by
 obtain ⟨h1, h2, h3, _⟩ := VS_core σ _ (fun _ h => h) hn ho hg hr hv
 refine ⟨_, _, h1, h2, fun b hb => .inl hb, fun b hb => ?_, h3, fun i L hi hm => sub_get (hk i hi) hm⟩
 rcases hb with hb | ⟨id', o2, L2, hF', k1, k2, k3, k4, k5⟩
 ·exact .inl hb
 ·exact .inr ⟨id', o2, L2, k1, k2, k3, k4, k5⟩
end
end Go.Abs
namespace Go.Abs
open Go
mutual
def AV.ren (τ : Nat → Nat) : AV → AV
 | .v x => .v x
 | .sl id off len => .sl (τ id) off len
 | .pt id off => .pt (τ id) off
 | .im n cs => .im n (rens τ cs)
 | .ip cs => .ip (rens τ cs)
 | .ag cs => .ag (rens τ cs)
 | .tu cs => .tu (rens τ cs)
 | .fn f a b => .fn f (rens τ a) (rens τ b)
 | .mp id => .mp (τ id)
 | .em => .em
 | .any => .any
 | .nb => .nb
def rens (τ : Nat → Nat) : List AV → List AV
 | [] => []
 | v :: vs => v.ren τ :: rens τ vs
end
def AO.ren (τ : Nat → Nat) : AO → AO
 | .cells sz cs => .cells sz (rens τ cs)
 | .ice sz cs => .ice sz (rens τ cs)
 | .raw o => .raw o
 | .mapv ks vs => .mapv ks (rens τ vs)
 | .mi vs s sn l => .mi (rens τ vs) s sn l
 | .tc t cs => .tc t (rens τ cs)
 | .tf t cs => .tf t (rens τ cs)
 | .fx sz cs r => .fx sz (rens τ cs) r
 | .dead => .dead
mutual
def AV.clb : AV → Bool
 | .v _ | .em | .any | .nb => true
 | .sl _ _ _ | .pt _ _ | .mp _ => false
 | .im _ cs | .ip cs | .ag cs | .tu cs => clbs cs
 | .fn _ a b => clbs a && clbs b
def clbs : List AV → Bool
 | [] => true
 | v :: vs => v.clb && clbs vs
end
theorem rens_eq (τ : Nat → Nat) : ∀ vs : List AV, rens τ vs = vs.map (·.ren τ)
 | [] => by simp [rens]
 | v :: vs => by simp [rens, rens_eq τ vs]
theorem rens_append (τ : Nat → Nat) (a b : List AV) : rens τ (a ++ b) = rens τ a ++ rens τ b := by rw [rens_eq, rens_eq, rens_eq, List.map_append]
theorem clbs_eq : ∀ vs : List AV, clbs vs = vs.all (·.clb)
 | [] => by simp [clbs]
 | v :: vs => by simp [clbs, clbs_eq vs]
mutual
theorem clb_ren (τ : Nat → Nat) : ∀ v : AV, v.clb = true → v.ren τ = v
 | .v _, _ => by simp only [AV.ren]
 | .em, _ => by simp only [AV.ren]
 | .any, _ => by simp only [AV.ren]
 | .nb, _ => by simp only [AV.ren]
 | .sl _ _ _, h => by simp [AV.clb] at h
 | .pt _ _, h => by simp [AV.clb] at h
 | .mp _, h => by simp [AV.clb] at h
 | .im _ cs, h => by simp only [AV.clb] at h; simp only [AV.ren, clbs_ren τ cs h]
 | .ip cs, h => by simp only [AV.clb] at h; simp only [AV.ren, clbs_ren τ cs h]
 | .ag cs, h => by simp only [AV.clb] at h; simp only [AV.ren, clbs_ren τ cs h]
 | .tu cs, h => by simp only [AV.clb] at h; simp only [AV.ren, clbs_ren τ cs h]
 | .fn f a b, h => by simp only [AV.clb, Bool.and_eq_true] at h; simp only [AV.ren, clbs_ren τ a h.1, clbs_ren τ b h.2]
theorem clbs_ren (τ : Nat → Nat) : ∀ vs : List AV, clbs vs = true → rens τ vs = vs
 | [], _ => by simp only [rens]
 | v :: vs, h => by simp only [clbs, Bool.and_eq_true] at h; simp only [rens, clb_ren τ v h.1, clbs_ren τ vs h.2]
end
mutual
theorem Cl.of : ∀ {v : AV}, v.clb = true → Cl v
 | .v _, _ => Cl.v _
 | .em, _ => Cl.em
 | .any, _ => fun I m w y h => by simp only [VR]
 | .nb, _ => fun I m w y h => by simpa only [VR] using h
 | .sl _ _ _, h => by simp [AV.clb] at h
 | .pt _ _, h => by simp [AV.clb] at h
 | .mp _, h => by simp [AV.clb] at h
 | .im _ cs, h => Cl.im (Cls.of (by simpa only [AV.clb] using h))
 | .ip cs, h => Cl.ip (Cls.of (by simpa only [AV.clb] using h))
 | .ag cs, h => Cl.ag (Cls.of (by simpa only [AV.clb] using h))
 | .tu cs, h => Cl.tu (Cls.of (by simpa only [AV.clb] using h))
 | .fn f a b, h => by simp only [AV.clb, Bool.and_eq_true] at h; exact Cl.fn (Cls.of h.1) (Cls.of h.2)
theorem Cls.of : ∀ {vs : List AV}, clbs vs = true → Cls vs
 | [], _ => Cls.nil
 | v :: vs, h => by simp only [clbs, Bool.and_eq_true] at h; exact Cls.cons (Cl.of h.1) (Cls.of h.2)
end
section
variable {I : Nat → Prop} {m m' : List Loc} {w : World} {τ : Nat → Nat}
mutual
theorem VR.ren (h : ∀ (j : Nat) L, lk m j = some L → lk m' (τ j) = some L) : ∀ (c : AV) (x : Value), VR I m w c x → VR I m' w (c.ren τ) x
 | .v _, _, k => by simpa only [AV.ren, VR] using k
 | .em, _, k => by simpa only [AV.ren, VR] using k
 | .any, _, k => by simp only [AV.ren, VR]
 | .nb, _, k => by simpa only [AV.ren, VR] using k
 | .sl _ _ _, _, k => by
  simp only [AV.ren, VR] at k ⊢
  obtain ⟨L, A, c, h1, h2⟩ := k
  exact ⟨L, A, c, h _ _ h1, h2⟩
 | .pt _ _, _, k => by
  simp only [AV.ren, VR] at k ⊢
  obtain ⟨L, h1, h2⟩ := k
  exact ⟨L, h _ _ h1, h2⟩
 | .mp _, _, k => by
  simp only [AV.ren, VR] at k ⊢
  obtain ⟨L, h1, h2⟩ := k
  exact ⟨L, h _ _ h1, h2⟩
 | .im n cs, _, k => by
  simp only [AV.ren, VR] at k ⊢
  obtain ⟨A, c, h1, h2, h3⟩ := k
  refine ⟨A, c, h1, h2, ?_⟩
  rcases h3 with rfl | ⟨b, o, h4, h5, h6⟩
  ·exact .inl (by simp only [rens])
  ·exact .inr ⟨b, o, h4, h5, CR.ren h cs o h6⟩
 | .ip cs, _, k => by
  simp only [AV.ren, VR] at k ⊢
  obtain ⟨b, o, h4, h5, h6⟩ := k
  exact ⟨b, o, h4, h5, CR.ren h cs o h6⟩
 | .ag cs, _, k => by
  simp only [AV.ren, VR] at k ⊢
  obtain ⟨xs, h1, h2⟩ := k
  exact ⟨xs, h1, VRs.ren h cs _ h2⟩
 | .tu cs, _, k => by
  simp only [AV.ren, VR] at k ⊢
  obtain ⟨xs, h1, h2⟩ := k
  exact ⟨xs, h1, VRs.ren h cs _ h2⟩
 | .fn f a b, _, k => by
  simp only [AV.ren, VR] at k ⊢
  obtain ⟨xs, ys, h1, h2, h3⟩ := k
  exact ⟨xs, ys, h1, VRs.ren h a _ h2, VRs.ren h b _ h3⟩
theorem VRs.ren (h : ∀ (j : Nat) L, lk m j = some L → lk m' (τ j) = some L) : ∀ (cs : List AV) (xs : List Value), VRs I m w cs xs → VRs I m' w (rens τ cs) xs
 | [], _, k => by simpa only [rens, VRs] using k
 | c :: cs, _, k => by
  simp only [rens, VRs] at k ⊢
  obtain ⟨y, zs, h1, h2, h3⟩ := k
  exact ⟨y, zs, h1, VR.ren h c y h2, VRs.ren h cs zs h3⟩
theorem CR.ren {b : Nat} (h : ∀ (j : Nat) L, lk m j = some L → lk m' (τ j) = some L) : ∀ (cs : List AV) (o : Nat), CR I m w b cs o → CR I m' w b (rens τ cs) o
 | [], _, _ => by simp only [rens, CR]
 | c :: cs, o, k => by
  simp only [rens, CR] at k ⊢
  obtain ⟨⟨x, h1, h2⟩, h3⟩ := k
  exact ⟨⟨x, h1, VR.ren h c x h2⟩, CR.ren h cs (o + 1) h3⟩
end
theorem ren_one (τ : Nat → Nat) (v : AV) : (v.ren τ).one = v.one := by cases v <;> rfl
theorem OR.ren (h : ∀ (j : Nat) L, lk m j = some L → lk m' (τ j) = some L) {o : AO} {L : Loc} (k : OR I m w o L) : OR I m' w (o.ren τ) L := by
 cases o with
 | dead => simp only [AO.ren, OR]
 | raw => simpa only [AO.ren, OR] using k
 | mapv ks vs =>
  simp only [AO.ren, OR] at k ⊢
  obtain ⟨q1, es, cl, q2, q3, q4⟩ := k
  exact ⟨q1, es, cl, q2, q3, VRs.ren h vs _ q4.1, q4.2⟩
 | mi vs s sn l =>
  simp only [AO.ren, OR] at k ⊢
  obtain ⟨q1, b, q2, q3⟩ := k
  exact ⟨q1, b, q2, VRs.ren h vs _ q3⟩
 | tc t cs =>
  simp only [AO.ren, OR] at k ⊢
  obtain ⟨q1, c, q2, q3⟩ := k
  refine ⟨⟨q1.1, q1.2.1, q1.2.2.1, by rw [rens_eq, List.length_map]; exact q1.2.2.2⟩, c, q2, fun i x hx => ?_⟩
  rw [rens_eq, List.getElem?_map, Option.map_eq_some_iff] at hx
  obtain ⟨v, hv, rfl⟩ := hx
  obtain ⟨y, h5, h6, h7⟩ := q3 i v hv
  exact ⟨y, h5, VR.ren h v y h6, by rw [ren_one]; exact h7⟩
 | tf t cs =>
  simp only [AO.ren, OR] at k ⊢
  obtain ⟨q1, c, fz, q2, q3⟩ := k
  refine ⟨⟨q1.1, q1.2.1, q1.2.2.1, by rw [rens_eq, List.length_map]; exact q1.2.2.2⟩, c, fz, q2, fun i x hx => ?_⟩
  rw [rens_eq, List.getElem?_map, Option.map_eq_some_iff] at hx
  obtain ⟨v, hv, rfl⟩ := hx
  obtain ⟨y, h5, h6, h7⟩ := q3 i v hv
  exact ⟨y, h5, VR.ren h v y h6, by rw [ren_one]; exact h7⟩
 | fx sz cs r =>
  simp only [AO.ren, OR] at k ⊢
  refine ⟨⟨k.1.1, by rw [rens_eq, List.length_map]; exact k.1.2.1, fun hc => ?_⟩, by rw [rens_eq, List.length_map]; exact k.2⟩
  obtain ⟨c, E, fz, h1, h2, h3, h4⟩ := k.1.2.2 hc
  refine ⟨c, E, fz, h1, h2, h3, fun i x hx => ?_⟩
  rw [rens_eq, List.getElem?_map, Option.map_eq_some_iff] at hx
  obtain ⟨v, hv, rfl⟩ := hx
  obtain ⟨y, h5, h6, h7⟩ := h4 i v hv
  exact ⟨y, h5, VR.ren h v y h6, by rw [ren_one]; exact h7⟩
 | ice sz cs =>
  simp only [AO.ren, OR] at k ⊢
  exact ⟨k.1, by rw [rens_eq, List.length_map]; exact k.2.1, fun hc => ⟨(k.2.2 hc).1, CR.ren h cs _ (k.2.2 hc).2⟩⟩
 | cells sz cs =>
  simp only [AO.ren, OR] at k ⊢
  refine ⟨k.1, by rw [rens_eq, List.length_map]; exact k.2.1, fun hc => ?_⟩
  obtain ⟨c, E, fz, h1, h2, h3, h4⟩ := k.2.2 hc
  refine ⟨c, E, fz, h1, h2, h3, fun i x hx => ?_⟩
  rw [rens_eq, List.getElem?_map, Option.map_eq_some_iff] at hx
  obtain ⟨v, hv, rfl⟩ := hx
  obtain ⟨y, h5, h6, h7⟩ := h4 i v hv
  exact ⟨y, h5, VR.ren h v y h6, by rw [ren_one]; exact h7⟩
theorem ren_alive (τ : Nat → Nat) (o : AO) : (o.ren τ).alive = o.alive := by cases o <;> rfl
end
def tau (ids : List Nat) (k n : Nat) (j : Nat) : Nat := if j < k then ids.getD j 0 else n + (j - k)
def upd (τ : Nat → Nat) : Nat → List Nat → List AO → List AO → List AO
 | _, [], _, H => H
 | k + 1, id :: ids, o :: Ho, H => upd τ k ids Ho (H.set id (o.ren τ))
 | k + 1, id :: ids, [], H => upd τ k ids [] (H.set id .dead)
 | 0, id :: ids, Ho, H => upd τ 0 ids Ho (H.set id .dead)
theorem upd_len (τ : Nat → Nat) : ∀ (ids : List Nat) (k : Nat) (Ho H : List AO), (upd τ k ids Ho H).length = H.length
 | [], k, Ho, H => by cases k <;> simp only [upd]
 | id :: ids, 0, Ho, H => by simp only [upd]; rw [upd_len τ ids]; simp
 | id :: ids, k + 1, [], H => by simp only [upd]; rw [upd_len τ ids]; simp
 | id :: ids, k + 1, o :: Ho, H => by simp only [upd]; rw [upd_len τ ids]; simp
theorem upd_other (τ : Nat → Nat) {t : Nat} : ∀ (ids : List Nat) (k : Nat) (Ho H : List AO), t ∉ ids → (upd τ k ids Ho H)[t]? = H[t]?
 | [], k, Ho, H, _ => by cases k <;> simp only [upd]
 | id :: ids, k, Ho, H, h => by
  have h1 : t ≠ id := fun e => h (by simp [e])
  have h2 : t ∉ ids := fun e => h (by simp [e])
  cases k with
  | zero => simp only [upd]; rw [upd_other τ ids 0 Ho _ h2, List.getElem?_set_ne (Ne.symm h1)]
  | succ k => cases Ho with
   | nil => simp only [upd]; rw [upd_other τ ids k [] _ h2, List.getElem?_set_ne (Ne.symm h1)]
   | cons o Ho => simp only [upd]; rw [upd_other τ ids k Ho _ h2, List.getElem?_set_ne (Ne.symm h1)]
theorem upd_id (τ : Nat → Nat) : ∀ (ids : List Nat) (k : Nat) (Ho H : List AO) (i t : Nat), ids.Nodup → ids[i]? = some t → t < H.length → (upd τ k ids Ho H)[t]? = some (if i < k then (match Ho[i]? with | some o => o.ren τ | none => .dead) else .dead)
 | [], k, Ho, H, i, t, _, h, _ => by simp at h
 | id :: ids, k, Ho, H, i, t, hn, h, hl => by
  obtain ⟨n1, n2⟩ := List.nodup_cons.1 hn
  cases i with
  | zero =>
   simp at h; subst h
   cases k with
   | zero => simp only [upd]; rw [upd_other τ ids 0 Ho _ n1, List.getElem?_set_self hl]; simp
   | succ k => cases Ho with
    | nil => simp only [upd]; rw [upd_other τ ids k [] _ n1, List.getElem?_set_self hl]; simp
    | cons o Ho => simp only [upd]; rw [upd_other τ ids k Ho _ n1, List.getElem?_set_self hl]; simp
  | succ i =>
   simp at h
   cases k with
   | zero => simp only [upd]; rw [upd_id τ ids 0 Ho _ i t n2 h (by simpa using hl)]; simp
   | succ k => cases Ho with
    | nil => simp only [upd]; rw [upd_id τ ids k [] _ i t n2 h (by simpa using hl)]; simp
    | cons o Ho => simp only [upd]; rw [upd_id τ ids k Ho _ i t n2 h (by simpa using hl)]; simp
theorem frz_none {I : Nat → Prop} {H : List AO} {m : List Loc} : Frz (fun _ => False) I H m = I := by
 funext b
 refine propext ⟨fun h => ?_, .inl⟩
 rcases h with h | ⟨_, _, _, h, _⟩
 ·exact h
 ·exact h.elim
theorem Svs.sgs {H : List AO} {σ : List Src} {F : Nat → Prop} : ∀ {vs vs2 : List AV}, Svs H σ F vs vs2 → Sgs H σ F vs vs2
 | [], [], _ => by simp only [Sgs]
 | [], _ :: _, h => by simp only [Svs] at h
 | _ :: _, [], h => by simp only [Svs] at h
 | v :: vs, v2 :: vs2, h => by simp only [Svs, Sgs] at h ⊢; exact ⟨.inr h.1, h.2.sgs⟩
theorem map_old_ids : ∀ (ids : List Nat), (ids.map Src.old).filterMap oldId = ids
 | [] => rfl
 | id :: ids => by simp [oldId, map_old_ids ids]
set_option maxHeartbeats 1000000 in
theorem ACall_fn {P : Program} {n k : Nat} {args args1 : List AV} {H Hi : List AO} {R R' : AV → List AO → Prop} (h : AFn P n k args1 Hi R) (ids : List Nat) (hnd : ids.Nodup) (hin : ∀ id ∈ ids, id < H.length) (hk : k ≤ ids.length)
 (ho : Obs H (ids.map .old) (fun _ => False) (ids.map .old) Hi) (ha : Svs H (ids.map .old) (fun _ => False) args args1)
 (hR : ∀ r Ho, R r Ho → R' (r.ren (tau ids k H.length)) (upd (tau ids k H.length) k ids Ho H ++ (Ho.drop k).map (·.ren (tau ids k H.length)))) : ACall P n args H R' := by
 intro I m w xs hr hv
 obtain ⟨c1, c2, c3, c4⟩ := VS_core (ids.map .old) (fun _ => False) (fun _ h => h.elim) (by rw [map_old_ids]; exact hnd) ho ha.sgs hr hv
 rw [frz_none] at c1 c2
 obtain ⟨ol, oo⟩ := ho.get
 rw [List.length_map] at ol
 generalize hm1 : sub m (ids.map Src.old) = m1 at *
 have m1get : ∀ (i id : Nat), ids[i]? = some id → m1[i]? = m[id]? := fun i id hi => by
  have hlt : id < m.length := by rw [hr.len]; exact hin id (List.mem_of_getElem? hi)
  rw [← hm1, sub_get (σ := ids.map Src.old) (j := i) (id := id) (L := m[id]) (by simp [hi]) (List.getElem?_eq_getElem hlt), List.getElem?_eq_getElem hlt]
 have hand : ∀ b, Own Hi m1 b → ∃ (i id : Nat) (o : AO) (L : Loc), ids[i]? = some id ∧ H[id]? = some o ∧ o.alive = true ∧ m[id]? = some L ∧ L.cap ≠ 0 ∧ L.b = b := fun b ⟨i, o, L, h1, h2, h3, h4, h5⟩ => by
  obtain ⟨id, o', h6, h7, h8, h9⟩ := c4 i o L h1 h2 h3 h4
  exact ⟨i, id, o', L, by simpa using h6, h7, h8, h9, h4, h5⟩
 have oth : ∀ (t : Nat) o L, H[t]? = some o → o.alive = true → m[t]? = some L → L.cap ≠ 0 → t ∉ ids → ¬ Own Hi m1 L.b := fun t o L h1 h2 h3 h4 h5 hO => by
  obtain ⟨i, id, o', L', k1, k2, k3, k4, k5, k6⟩ := hand _ hO
  exact hr.inj id t o' o L' L (fun e => h5 (e ▸ List.mem_of_getElem? k1)) k2 h1 k3 h2 k4 h3 k5 h4 k6
 refine (h I m1 w xs c1 c2).mono ?_
 rintro v w' ⟨r, Ho, I', m', h1, h2, h3, h4, h5⟩
 let τ := tau ids k H.length
 have hml := hr.len
 have hmo := h3.len
 have hm1l : m1.length = ids.length := by rw [← hm1]; simp [sub]
 have m'lt : ∀ j, j < k → m'[j]? = m1[j]? := fun j hj => by
  have : j < m1.length := by omega
  rw [List.getElem?_eq_getElem this]
  exact h5 j _ hj (List.getElem?_eq_getElem this)
 have emb : ∀ (j : Nat) L, m'[j]? = some L → (m ++ m'.drop k)[τ j]? = some L := fun j L hj => by
  simp only [τ, tau]
  by_cases hjk : j < k
  ·rw [if_pos hjk]
   have hji : j < ids.length := by omega
   rw [List.getD_eq_getElem?_getD, List.getElem?_eq_getElem hji, Option.getD_some]
   have hid : ids[j]? = some ids[j] := List.getElem?_eq_getElem hji
   have hlt : ids[j] < m.length := by rw [hml]; exact hin _ (List.getElem_mem hji)
   rw [List.getElem?_append_left hlt, ← m1get j _ hid, ← m'lt j hjk]
   exact hj
  ·rw [if_neg hjk, ← hml, List.getElem?_append_right (by omega), List.getElem?_drop]
   rw [show k + (m.length + (j - k) - m.length) = j by omega]
   exact hj
 have emb' : ∀ (j : Nat) L, lk m' j = some L → lk (m ++ m'.drop k) (τ j) = some L := fun j L h => lk_of (emb j L (lk_get h).1) (lk_get h).2
 have cls : ∀ (t : Nat) o L, (upd τ k ids Ho H ++ (Ho.drop k).map (·.ren τ))[t]? = some o → (m ++ m'.drop k)[t]? = some L → (t ∉ ids ∧ H[t]? = some o ∧ m[t]? = some L) ∨ o = .dead ∨ (∃ j oj, τ j = t ∧ Ho[j]? = some oj ∧ o = oj.ren τ ∧ m'[j]? = some L) := fun t o L ht hL => by
  by_cases hlt : t < H.length
  ·rw [List.getElem?_append_left (by rw [upd_len]; exact hlt)] at ht
   rw [List.getElem?_append_left (by omega)] at hL
   by_cases hmem : t ∈ ids
   ·obtain ⟨i, hi⟩ := List.getElem?_of_mem hmem
    rw [upd_id τ ids k Ho H i t hnd hi hlt] at ht
    injection ht with ht
    by_cases hik : i < k
    ·rw [if_pos hik] at ht
     cases hoi : Ho[i]? with
     | none => rw [hoi] at ht; exact .inr (.inl ht.symm)
     | some oi =>
      rw [hoi] at ht
      refine .inr (.inr ⟨i, oi, ?_, hoi, ht.symm, ?_⟩)
      ·simp only [τ, tau]; rw [if_pos hik, List.getD_eq_getElem?_getD, hi]; rfl
      ·rw [m'lt i hik, m1get i t hi]; exact hL
    ·rw [if_neg hik] at ht; exact .inr (.inl ht.symm)
   ·rw [upd_other τ ids k Ho H hmem] at ht
    exact .inl ⟨hmem, ht, hL⟩
  ·rw [List.getElem?_append_right (by rw [upd_len]; omega), upd_len, List.getElem?_map, List.getElem?_drop, Option.map_eq_some_iff] at ht
   obtain ⟨oj, hoj, rfl⟩ := ht
   rw [List.getElem?_append_right (by omega), List.getElem?_drop, hml] at hL
   refine .inr (.inr ⟨k + (t - H.length), oj, ?_, hoj, rfl, hL⟩)
   simp only [τ, tau]; rw [if_neg (by omega)]; omega
 have ownA : ∀ b, Own (upd τ k ids Ho H ++ (Ho.drop k).map (·.ren τ)) (m ++ m'.drop k) b → (∃ t o L, t ∉ ids ∧ H[t]? = some o ∧ o.alive = true ∧ m[t]? = some L ∧ L.cap ≠ 0 ∧ L.b = b) ∨ Own Ho m' b := fun b ⟨t, o, L, q1, q2, q3, q4, q5⟩ => by
  rcases cls t o L q1 q3 with ⟨r1, r2, r3⟩ | rfl | ⟨j, oj, r1, r2, rfl, r4⟩
  ·exact .inl ⟨t, o, L, r1, r2, q2, r3, q4, q5⟩
  ·cases q2
  ·exact .inr ⟨j, oj, L, r2, by rw [← ren_alive τ]; exact q2, r4, q4, q5⟩
 have Hlt : ∀ b, (∃ t o L, t ∉ ids ∧ H[t]? = some o ∧ o.alive = true ∧ m[t]? = some L ∧ L.cap ≠ 0 ∧ L.b = b) → b < w.heap.size ∧ Own H m b ∧ ¬ Own Hi m1 b := fun b ⟨t, o, L, q1, q2, q3, q4, q5, q6⟩ => by
  subst q6
  exact ⟨hr.lt q2 q3 q4 q5, ⟨t, o, L, q2, q3, q4, q5, rfl⟩, oth t o L q2 q3 q4 q5 q1⟩
 refine ⟨r.ren τ, _, I', m ++ m'.drop k, hR r Ho h1, VR.ren emb' r v h2, ⟨?_, fun t o L q1 q2 => ?_, fun i j oi oj Li Lj hij hi hj ai aj mi mj ci cj => ?_, fun b hb hO => ?_, h3.ilt, h3.gl⟩, ⟨h4.os, h4.tape, h4.output, h4.size, fun b hb hn => h4.blk b hb fun hO => hn (c3 b hO), h4.imm, fun b hb => ?_, ⟨_, rfl⟩, fun b hb => ?_⟩⟩
 ·simp only [List.length_append, upd_len, List.length_map, List.length_drop, hml, hmo]
 ·rcases cls t o L q1 q2 with ⟨r1, r2, r3⟩ | rfl | ⟨j, oj, r1, r2, rfl, r4⟩
  ·exact OR.mono (nu := m'.drop k) h4.imm (fun b hb => h4.blk b (hr.ilt b hb) fun hO => hr.imm b hb (c3 b hO)) (fun ha hc => h4.blk _ (hr.lt r2 ha r3 hc) (oth t o L r2 ha r3 hc r1)) (hr.ob t o L r2 r3)
  ·simp only [OR]
  ·exact OR.ren emb' (h3.ob j oj L r2 r4)
 ·have inner : ∀ (t : Nat) o L, t ∉ ids → H[t]? = some o → o.alive = true → m[t]? = some L → L.cap ≠ 0 → ∀ (j : Nat) oj, Ho[j]? = some oj → (oj.ren τ).alive = true → ∀ L', m'[j]? = some L' → L'.cap ≠ 0 → L.b ≠ L'.b := fun t o L r1 r2 r3 r4 r5 j oj s1 s2 L' s3 s4 e => by
   obtain ⟨u1, u2, u3⟩ := Hlt L.b ⟨t, o, L, r1, r2, r3, r4, r5, rfl⟩
   rcases h4.ow L.b ⟨j, oj, L', s1, by rw [← ren_alive τ]; exact s2, s3, s4, e.symm⟩ with hO | hO
   ·exact u3 hO
   ·omega
  rcases cls i oi Li hi mi with ⟨r1, r2, r3⟩ | rfl | ⟨p, op, r1, r2, rfl, r4⟩
  ·rcases cls j oj Lj hj mj with ⟨s1, s2, s3⟩ | rfl | ⟨q, oq, s1, s2, rfl, s4⟩
   ·exact hr.inj i j oi oj Li Lj hij r2 s2 ai aj r3 s3 ci cj
   ·cases aj
   ·exact inner i oi Li r1 r2 ai r3 ci q oq s2 aj Lj s4 cj
  ·cases ai
  ·rcases cls j oj Lj hj mj with ⟨s1, s2, s3⟩ | rfl | ⟨q, oq, s1, s2, rfl, s4⟩
   ·exact (inner j oj Lj s1 s2 aj s3 cj p op r2 ai Li r4 ci).symm
   ·cases aj
   ·exact h3.inj p q op oq Li Lj (fun e => hij (by rw [← r1, ← s1, e])) r2 s2 (by rw [← ren_alive τ]; exact ai) (by rw [← ren_alive τ]; exact aj) r4 s4 ci cj
 ·rcases ownA b hO with hA | hB
  ·obtain ⟨u1, u2, u3⟩ := Hlt b hA
   rcases h4.inew b hb with q | q | q
   ·exact hr.imm b q u2
   ·exact u3 q
   ·omega
  ·exact h3.imm b hb hB
 ·rcases ownA b hb with hA | hB
  ·exact .inl (Hlt b hA).2.1
  ·rcases h4.ow b hB with q | q
   ·exact .inl (c3 b q)
   ·exact .inr q
 ·rcases h4.inew b hb with q | q | q
  ·exact .inl q
  ·exact .inr (.inl (c3 b q))
  ·exact .inr (.inr q)
end Go.Abs
namespace Go.Abs
open Go
section
variable {P : Program} {n k : Nat} {H : List AO} {R : AV → List AO → Prop}
theorem ACall_ice {args : List AV} (id : Nat) {sz : Nat} {cs : List AV} (ho : H[id]? = some (.cells sz cs)) (h : ACall P n args (H.set id (.ice sz cs)) R) : ACall P n args H R := by
 intro I m w xs hr hv
 have hlt : id < H.length := (List.getElem?_eq_some_iff.1 ho).1
 have hm : m[id]? = some (m[id]'(by rw [hr.len]; exact hlt)) := List.getElem?_eq_getElem _
 generalize m[id]'(by rw [hr.len]; exact hlt) = L at hm
 let I2 : Nat → Prop := fun b => I b ∨ (L.cap ≠ 0 ∧ b = L.b)
 have old : ∀ (j : Nat) oj, (H.set id (.ice sz cs))[j]? = some oj → oj.alive = true → j ≠ id ∧ H[j]? = some oj := fun j oj h ha => by
  by_cases hj : j = id
  ·subst hj
   rw [List.getElem?_set_self hlt] at h
   injection h with h; subst h; cases ha
  ·exact ⟨hj, by rwa [List.getElem?_set_ne (Ne.symm hj)] at h⟩
 have own : ∀ b, Own (H.set id (.ice sz cs)) m b → Own H m b := fun b ⟨j, oj, Lj, h1, h2, h3⟩ => ⟨j, oj, Lj, (old j oj h1 h2).2, h2, h3⟩
 have mono : ∀ v y, VR I m w v y → VR I2 m w v y := fun v y k => by
  have := VR.mono (I' := I2) (nu := []) (w' := w) (fun _ h => .inl h) (fun _ _ => rfl) v y k
  simpa using this
 have hr2 : HR I2 m (H.set id (.ice sz cs)) w := ⟨by simp [hr.len], fun j oj Lj h1 h2 => by
  by_cases hj : j = id
  ·subst hj
   rw [List.getElem?_set_self hlt] at h1
   injection h1 with h1; subst h1
   rw [hm] at h2; injection h2 with h2; subst h2
   obtain ⟨q1, q2, q3⟩ := hr.ob j _ L ho hm
   refine ⟨q1, q2, fun hc => ⟨.inr ⟨hc, rfl⟩, CR.of_get fun i c hci => ?_⟩⟩
   obtain ⟨y, q4, q5⟩ := hr.cellOf (.inl ho) hm hci
   exact ⟨y, q4, mono c y q5⟩
  ·rw [List.getElem?_set_ne (Ne.symm hj)] at h1
   have := OR.mono (I' := I2) (nu := []) (w' := w) (fun _ h => .inl h) (fun _ _ => rfl) (fun _ _ => rfl) (hr.ob j oj Lj h1 h2)
   simpa using this,
  fun i j oi oj Li Lj hij hi hj ai aj => hr.inj i j oi oj Li Lj hij (old i oi hi ai).2 (old j oj hj aj).2 ai aj,
  fun b hb hO => by
   rcases hb with hb | ⟨hc, rfl⟩
   ·exact hr.imm b hb (own b hO)
   ·obtain ⟨j, oj, Lj, h1, h2, h3, h4, h5⟩ := hO
    obtain ⟨hj, h1'⟩ := old j oj h1 h2
    exact hr.inj j id oj _ Lj L hj h1' ho h2 rfl h3 hm h4 hc h5,
  fun b hb => by
   rcases hb with hb | ⟨hc, rfl⟩
   ·exact hr.ilt b hb
   ·exact hr.lt ho rfl hm hc, hr.gl.on (fun _ h => .inl h) fun _ _ => rfl⟩
 have hv2 : VRs I2 m w args xs.toList := by
  have := VRs.mono (I' := I2) (nu := []) (w' := w) (fun _ h => .inl h) (fun _ _ => rfl) args _ hv
  simpa using this
 refine (h I2 m w xs hr2 hv2).mono ?_
 rintro v w' ⟨r, H', I', m', h1, h2, h3, h4⟩
 exact ⟨r, H', I', m', h1, h2, h3, ⟨h4.os, h4.tape, h4.output, h4.size, fun b hb hn => h4.blk b hb fun hO => hn (own b hO), fun b hb => h4.imm b (.inl hb), fun b hb => (h4.ow b hb).imp (own b) _root_.id, h4.pre, fun b hb => by
  rcases h4.inew b hb with (q | ⟨q1, rfl⟩) | q | q
  ·exact .inl q
  ·exact .inr (.inl ⟨id, _, L, ho, rfl, hm, q1, rfl⟩)
  ·exact .inr (.inl (own b q))
  ·exact .inr (.inr q)⟩⟩
theorem APure_of {args : List AV} {r : AV} (h : AFn P n 0 args [] (fun v Ho => v = r ∧ Ho = [])) : APure P n args r := by
 intro I m w xs hr hv
 have hm : m = [] := List.eq_nil_of_length_eq_zero (by simpa using hr.len)
 subst hm
 refine (h I [] w xs hr hv).mono ?_
 rintro v w' ⟨r', Ho, I', m', ⟨rfl, rfl⟩, h2, h3, h4, h5⟩
 have hm' : m' = [] := List.eq_nil_of_length_eq_zero (by simpa using h3.len)
 subst hm'
 refine ⟨r', [], I', [], fun J mm w2 y hr2 k => ?_, h2, h3, h4.ext ⟨[], rfl⟩⟩
 have hmm : mm = [] := List.eq_nil_of_length_eq_zero (by simpa using hr2.len)
 subst hmm
 have := VR.mono (I' := fun b => J b ∨ Own [] [] b) (nu := []) (w' := w2) (fun _ hb => .inl hb) (fun _ _ => rfl) r' y k
 simpa using this
theorem APure.afn {args : List AV} {r : AV} (h : APure P n args r) : AFn P n 0 args [] (fun v Ho => v = r ∧ Ho = []) := by
 intro I m w xs hr hv
 have hm : m = [] := List.eq_nil_of_length_eq_zero (by simpa using hr.len)
 subst hm
 refine (h I [] w xs hr hv).mono ?_
 rintro v w' ⟨r', Ho, I', m', hrf, h2, h3, h4⟩
 refine ⟨r, [], fun b => I' b ∨ Own Ho m' b, [], ⟨rfl, rfl⟩, hrf I' m' w' v h3 h2, HR.empty (fun b hb => ?_) (h3.gl.on (fun _ h => .inl h) fun _ _ => rfl), ⟨h4.os, h4.tape, h4.output, h4.size, h4.blk, fun b hb => .inl (h4.imm b hb), fun b hb => (Own.nil hb).elim, fun b hb => ?_⟩, fun i L _ h => by simp at h⟩
 ·rcases hb with hb | hb
  ·exact h3.ilt b hb
  ·exact hb.lt h3
 ·rcases hb with hb | hb
  ·exact h4.inew b hb
  ·exact .inr (h4.ow b hb)
variable {K : List AV → List AO → Prop} {os : List LOp} {dst : Option Tmp} {g : List AV}
theorem LCall_ice {args : List AV} (id : Nat) {sz : Nat} {cs : List AV} (ho : H[id]? = some (.cells sz cs)) (h : LCall P K os dst g (H.set id (.ice sz cs)) n args) : LCall P K os dst g H n args := LCall_of (ACall_ice id ho (by unfold LCall at h; exact h))
theorem LCall_fn {args args1 : List AV} {Hi : List AO} (h : AFn P n k args1 Hi R) (ids : List Nat) (hnd : ids.Nodup) (hin : ∀ id ∈ ids, id < H.length) (hk : k ≤ ids.length)
 (ho : Obs H (ids.map .old) (fun _ => False) (ids.map .old) Hi) (ha : Svs H (ids.map .old) (fun _ => False) args args1)
 (hR : ∀ r Ho, R r Ho → LOps P K os (put g dst (r.ren (tau ids k H.length))) (upd (tau ids k H.length) k ids Ho H ++ (Ho.drop k).map (·.ren (tau ids k H.length)))) : LCall P K os dst g H n args := LCall_of (ACall_fn h ids hnd hin hk ho ha hR)
theorem LCall_put {args args1 : List AV} {r : AV} (h : APure P n args1 r) (hc : r.clb = true) (ha : Svs H [] (fun _ => False) args args1) (hR : LOps P K os (put g dst r) H) : LCall P K os dst g H n args :=
 LCall_fn h.afn [] List.nodup_nil (fun _ h => by cases h) (Nat.zero_le _) (by simp only [List.map_nil, Obs]) (by simpa using ha) (by
  rintro r' Ho ⟨rfl, rfl⟩
  rw [clb_ren _ _ hc]
  simpa [upd] using hR)
theorem Svs.eq {H : List AO} {σ : List Src} {F : Nat → Prop} {cs cs2 : List AV} (h : cs = cs2) (hc : clbs cs2 = true) : Svs H σ F cs cs2 := by subst h; exact Svs.cl (Cls.of hc)
theorem Sv.eq {H : List AO} {σ : List Src} {F : Nat → Prop} {v v2 : AV} (h : v = v2) (hc : v2.clb = true) : Sv H σ F v v2 := by subst h; exact Sv.cl (Cl.of hc)
theorem Sv.slE {H : List AO} {σ : List Src} {F : Nat → Prop} {id off len j off2 len2 : Nat} (hj : σ[j]? = some (.old id)) (h1 : off = off2) (h2 : len = len2) : Sv H σ F (.sl id off len) (.sl j off2 len2) := by subst h1; subst h2; exact Sv.sl hj
theorem Sv.slFE {H : List AO} {σ : List Src} {F : Nat → Prop} {id off len len2 sz : Nat} {cs rs : List AV} (ho : (H[id]? = some (.cells sz cs) ∧ F id) ∨ H[id]? = some (.ice sz cs)) (h1 : len = len2) (h : Svs H σ F (cs.drop off) rs) : Sv H σ F (.sl id off len) (.im len2 rs) := by subst h1; exact Sv.slF ho h
end
theorem Fin_of {k : Nat} {H Ho : List AO} {v r : AV} {R : AV → List AO → Prop} (hR : R r Ho) (h : VS k [v] H [r] Ho) : Fin k v H R := ⟨r, Ho, hR, h⟩
section
variable {P : Program} {H : List AO} {Q : List AV → Prop} {os : List LOp} {dst : Option Tmp} {g : List AV}
theorem ZNext_if {p : Prop} [Decidable p] {x : Option (AV × List AO)} (h : p) (h2 : ZNext P H Q os dst g x) : ZNext P H Q os dst g (if p then x else none) := by
 rw [if_pos h]; exact h2
end
attribute [go_sem] MX_skip MX_ret MX_exit MX_seq MX_cond MX_block MX_reg MX_loop MX_draw MCond_true MCond_false MCond_nb endM
attribute [go_sem] AV.clb clbs AV.ren rens AO.ren rens_append
end Go.Abs
