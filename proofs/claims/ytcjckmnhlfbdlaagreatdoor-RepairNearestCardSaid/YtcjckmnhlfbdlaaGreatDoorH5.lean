/- Part 5 of the texts that lead to repairNearestCard_holds. No condition. -/
import Derived.Test.YtcjckmnhlfbdlaaGreatDoorH4
set_option linter.all false
namespace Go.Abs
open Go
structure LOp where
  dst : Option Tmp
  op : Op
  guard : Option (Tmp × Bool) := none
inductive LC where
  | skip
  | ret
  | exit (id : Nat)
  | seq (a b : LC)
  | cond (c : Operand) (a b : LC)
  | block (id : Nat) (b : LC)
  | loop (b : LC)
  | reg (ops : List LOp)
  | draw (id : Nat) (ops : Array Oper)
def lowOp (ops : Array Oper) (o : Oper) : Option LOp :=
 match o.guard with
 | none => some ⟨o.dst, o.op, none⟩
 | some (j, want) => match (ops[j]?).bind (·.dst) with
  | some d => some ⟨o.dst, o.op, some (d, want)⟩
  | none => none
def lowOps (ops : Array Oper) : List Oper → Option (List LOp)
 | [] => some []
 | o :: os => match lowOp ops o, lowOps ops os with
  | some l, some ls => some (l :: ls)
  | _, _ => none
def low : Code → Option LC
 | .skip => some .skip
 | .ret => some .ret
 | .exit id => some (.exit id)
 | .seq a b => match low a, low b with
  | some x, some y => some (.seq x y)
  | _, _ => none
 | .cond c a b => match low a, low b with
  | some x, some y => some (.cond c x y)
  | _, _ => none
 | .block id b => (low b).map (.block id)
 | .loop b => (low b).map .loop
 | .region id ops false => (lowOps ops ops.toList).map .reg
 | .region id ops true => some (.draw id ops)
 | _ => none
def drawIn : Code → Nat → Option (Array Oper)
 | .region id ops _, n => if id = n then some ops else none
 | .seq a b, n => match drawIn a n with
  | some x => some x
  | none => drawIn b n
 | .cond _ a b, n => match drawIn a n with
  | some x => some x
  | none => drawIn b n
 | .block _ b, n => drawIn b n
 | .loop b, n => drawIn b n
 | _, _ => none
def drawOps (fn : Func) (n : Nat) : Array Oper := ((fn.body.bind fun c => drawIn c n)).getD #[]
def LW [DSt] (P : Program) (l : LC) (Q : Exit → List AV → List AO → Prop) (g : List AV) (H : List AO) : Prop := ∀ c, low c = some l → AW P c Q g H
def LExec (P : Program) (op : Op) (g : List AV) (H : List AO) (R : AV → List AO → Prop) : Prop :=
 match op with
 | .call { callee := .value f, args, .. } => match ev g f with
  | .fn (.func n) first cap => ACall P n (first ++ args.toList.map (ev g) ++ cap) H R
  | _ => False
 | op => match aop P g H op with
  | some (v, H') => R v H'
  | none => False
def LOps (P : Program) (K : List AV → List AO → Prop) : List LOp → List AV → List AO → Prop
 | [], g, H => K g H
 | ⟨dst, op, none⟩ :: os, g, H => LExec P op g H (fun v H' => LOps P K os (put g dst v) H')
 | ⟨dst, op, some (d, want)⟩ :: os, g, H => match g[d]? with
  | some (.v (.bool b)) => if b = want then LExec P op g H (fun v H' => LOps P K os (put g dst v) H') else LOps P K os (put g dst (.v undef)) H
  | some (.v (.tuple _)) => LOps P K os (put g dst (.v undef)) H
  | _ => False
section
variable {P : Program} {Q Q' : Exit → List AV → List AO → Prop} {g : List AV} {H : List AO}
theorem LExec_ok {o : Oper} {R : AV → List AO → Prop} (h : LExec P o.op g H R) : AExecR P o g H R := by
 unfold LExec at h
 unfold AExecR
 split at h
 ·rename_i f args ats hop
  simp only [hop]
  exact h
 ·rename_i op hno
  split
  ·rename_i f args ats hop; exact (hno f args ats hop).elim
  ·split at h
   ·rename_i v H' e; exact .inl ⟨v, H', e, h⟩
   ·exact h.elim
theorem AExecR.mono' {o : Oper} {R R' : AV → List AO → Prop} (h : AExecR P o g H R) (hr : ∀ v H', R v H' → R' v H') : AExecR P o g H R' := by
 unfold AExecR at *
 split
 ·rename_i f args ats hop
  simp only [hop] at h
  split
  ·rename_i n first cap hf
   simp only [hf] at h
   exact h.mono hr
  ·rename_i hno
   split at h
   ·rename_i hf; exact (hno _ _ _ hf).elim
   ·exact h
 ·rename_i op hno
  split at h
  ·rename_i f args ats hop; exact (hno f args ats hop).elim
  ·exact h.imp (fun ⟨v, H', h1, h2⟩ => ⟨v, H', h1, hr _ _ h2⟩) (fun ⟨v, H', h1, h2⟩ => ⟨v, H', h1, hr _ _ h2⟩)
theorem LOps_ok {ops : Array Oper} {K : List AV → List AO → Prop} : ∀ (os : List Oper) (ls : List LOp), lowOps ops os = some ls → ∀ {g : List AV} {H : List AO}, LOps P K ls g H → AOps P ops K os g H
 | [], ls, h, g, H, k => by simp only [lowOps] at h; injection h with h; subst h; exact k
 | o :: os, ls, h, g, H, k => by
  simp only [lowOps] at h
  split at h
  ·rename_i l ls' h1 h2
   injection h with h; subst h
   simp only [AOps, AOp, AOpR]
   unfold lowOp at h1
   split at h1
   ·rename_i hg
    injection h1 with h1; subst h1
    simp only [LOps] at k
    simp only [wantA, hg]
    exact (LExec_ok k).mono' fun v H' hk => LOps_ok os ls' h2 hk
   ·rename_i j want hg
    split at h1
    ·rename_i d hd
     injection h1 with h1; subst h1
     simp only [LOps] at k
     simp only [wantA, hg]
     erw [hd]
     simp only
     split at k
     ·rename_i b hb
      simp only [hb]
      split at k
      ·rename_i hbw
       have : (b == want) = true := by rw [hbw]; simp
       rw [this]
       exact (LExec_ok k).mono' fun v H' hk => LOps_ok os ls' h2 hk
      ·rename_i hbw
       have : (b == want) = false := by simpa using hbw
       rw [this]
       exact LOps_ok os ls' h2 k
     ·rename_i t ht
      simp only [ht]
      exact LOps_ok os ls' h2 k
     ·exact k.elim
    ·cases h1
  ·cases h
theorem low_seq {c : Code} {x y : LC} (h : low c = some (.seq x y)) : ∃ a b, c = .seq a b ∧ low a = some x ∧ low b = some y := by
 cases c
 case seq a b =>
  simp only [low] at h
  split at h
  ·rename_i x' y' h1 h2; injection h with h; injection h with e1 e2; subst e1; subst e2; exact ⟨a, b, rfl, h1, h2⟩
  ·cases h
 case region id ops d => cases d <;> simp [low] at h
 all_goals first | (simp [low] at h; done) | (simp only [low] at h; split at h <;> simp at h; done)
theorem low_cond {c : Code} {o : Operand} {x y : LC} (h : low c = some (.cond o x y)) : ∃ a b, c = .cond o a b ∧ low a = some x ∧ low b = some y := by
 cases c
 case cond o' a b =>
  simp only [low] at h
  split at h
  ·rename_i x' y' h1 h2; injection h with h; injection h with e0 e1 e2; subst e0; subst e1; subst e2; exact ⟨a, b, rfl, h1, h2⟩
  ·cases h
 case region id ops d => cases d <;> simp [low] at h
 all_goals first | (simp [low] at h; done) | (simp only [low] at h; split at h <;> simp at h; done)
theorem low_block {c : Code} {id : Nat} {x : LC} (h : low c = some (.block id x)) : ∃ a, c = .block id a ∧ low a = some x := by
 cases c
 case block id' a =>
  simp only [low] at h
  cases ha : low a with
  | none => rw [ha] at h; simp at h
  | some x' => rw [ha] at h; simp only [Option.map_some] at h; injection h with h; injection h with e1 e2; subst e1; subst e2; exact ⟨a, rfl, ha⟩
 case region id ops d => cases d <;> simp [low] at h
 all_goals first | (simp [low] at h; done) | (simp only [low] at h; split at h <;> simp at h; done)
theorem low_loop {c : Code} {x : LC} (h : low c = some (.loop x)) : ∃ a, c = .loop a ∧ low a = some x := by
 cases c
 case loop a =>
  simp only [low] at h
  cases ha : low a with
  | none => rw [ha] at h; simp at h
  | some x' => rw [ha] at h; simp only [Option.map_some] at h; injection h with h; injection h with e1; subst e1; exact ⟨a, rfl, ha⟩
 case region id ops d => cases d <;> simp [low] at h
 all_goals first | (simp [low] at h; done) | (simp only [low] at h; split at h <;> simp at h; done)
theorem low_reg {c : Code} {ls : List LOp} (h : low c = some (.reg ls)) : ∃ id ops, c = .region id ops false ∧ lowOps ops ops.toList = some ls := by
 cases c
 case region id ops d =>
  cases d
  ·simp only [low] at h
   cases ha : lowOps ops ops.toList with
   | none => rw [ha] at h; simp at h
   | some x' => rw [ha] at h; simp only [Option.map_some] at h; injection h with h; injection h with e1; subst e1; exact ⟨id, ops, rfl, ha⟩
  ·simp [low] at h
 all_goals first | (simp [low] at h; done) | (simp only [low] at h; split at h <;> simp at h; done)
theorem low_draw {c : Code} {id : Nat} {ops : Array Oper} (h : low c = some (.draw id ops)) : c = .region id ops true := by
 cases c
 case region id' ops' d =>
  cases d
  ·simp [low] at h
  ·simp only [low] at h; injection h with h; injection h with e1 e2; subst e1; subst e2; rfl
 all_goals first | (simp [low] at h; done) | (simp only [low] at h; split at h <;> simp at h; done)
theorem low_skip {c : Code} (h : low c = some .skip) : c = .skip := by
 cases c
 case skip => rfl
 case region id' ops' d => cases d <;> simp [low] at h
 all_goals first | (simp [low] at h; done) | (simp only [low] at h; split at h <;> simp at h; done)
theorem low_ret {c : Code} (h : low c = some .ret) : c = .ret := by
 cases c
 case ret => rfl
 case region id' ops' d => cases d <;> simp [low] at h
 all_goals first | (simp [low] at h; done) | (simp only [low] at h; split at h <;> simp at h; done)
theorem low_exit {c : Code} {id : Nat} (h : low c = some (.exit id)) : c = .exit id := by
 cases c
 case exit id' => simp only [low] at h; injection h with h; injection h with h; subst h; rfl
 case region id' ops' d => cases d <;> simp [low] at h
 all_goals first | (simp [low] at h; done) | (simp only [low] at h; split at h <;> simp at h; done)
theorem LW_skip [DSt] (h : Q .normal g H) : LW P .skip Q g H := fun c hc => by rw [low_skip hc]; exact AW_skip h
theorem LW_ret [DSt] (h : Q .ret g H) : LW P .ret Q g H := fun c hc => by rw [low_ret hc]; exact AW_ret h
theorem LW_exit [DSt] {id : Nat} (h : Q (.exit id) g H) : LW P (.exit id) Q g H := fun c hc => by rw [low_exit hc]; exact AW_exit h
theorem LW_reg [DSt] {ls : List LOp} (h : LOps P (Q .normal) ls g H) : LW P (.reg ls) Q g H := fun c hc => by
 obtain ⟨id, ops, rfl, h1⟩ := low_reg hc
 exact AW_region (LOps_ok _ _ h1 h)
theorem LW_draw [DSt] {id : Nat} {ops : Array Oper} (hm : P.follows .mixedOrders = true) (hlex : lexOK ops.toList = true) (C : (Nat → Bool) → List AO → Prop) (h0 : C (fun _ => false) H)
 (h : ADr P ops C (fun g' => ∀ H', C (fun i => decide (i < ops.size)) H' → Q .normal g' H') ops.toList 0 g) (hC : ∀ D D' H, (∀ i, i < ops.size → D i = D' i) → C D H → C D' H) : LW P (.draw id ops) Q g H := fun c hc => by
 rw [low_draw hc]
 exact AW_draw hm hlex C h0 h hC
def LDr (P : Program) (H : List AO) (Q : List AV → Prop) : List LOp → List AV → Prop
 | [], g => Q g
 | ⟨dst, op, none⟩ :: os, g => ∃ v, LExec P op g H (fun v' H' => v' = v ∧ H' = H) ∧ LDr P H Q os (put g dst v)
 | ⟨dst, op, some (d, want)⟩ :: os, g => match g[d]? with
  | some (.v (.bool b)) => if b = want then ∃ v, LExec P op g H (fun v' H' => v' = v ∧ H' = H) ∧ LDr P H Q os (put g dst v) else LDr P H Q os (put g dst (.v undef))
  | some (.v (.tuple _)) => LDr P H Q os (put g dst (.v undef))
  | _ => False
theorem LDr_ok {ops : Array Oper} {Q : List AV → Prop} : ∀ (os : List Oper) (ls : List LOp) (i : Nat), lowOps ops os = some ls → ∀ {g : List AV}, LDr P H Q ls g → ADr P ops (fun _ H' => H' = H) Q os i g
 | [], ls, i, h, g, k => by simp only [lowOps] at h; injection h with h; subst h; exact k
 | o :: os, ls, i, h, g, k => by
  simp only [lowOps] at h
  split at h
  ·rename_i l ls' h1 h2
   injection h with h; subst h
   simp only [ADr]
   unfold lowOp at h1
   split at h1
   ·rename_i hg
    injection h1 with h1; subst h1
    simp only [LDr] at k
    obtain ⟨v, k1, k2⟩ := k
    refine ⟨v, fun D H' hH _ _ => ?_, LDr_ok os ls' (i + 1) h2 k2⟩
    subst hH
    simp only [AOpR, wantA, hg]
    exact LExec_ok k1
   ·rename_i j want hg
    split at h1
    ·rename_i d hd
     injection h1 with h1; subst h1
     simp only [LDr] at k
     have key : ∀ b, wantA ops g o = some b → (b = true → ∃ v, LExec P o.op g H (fun v' H' => v' = v ∧ H' = H) ∧ LDr P H Q ls' (put g o.dst v)) → (b = false → LDr P H Q ls' (put g o.dst (.v undef))) →
      ∃ v, (∀ (D : Nat → Bool) H', H' = H → D i = false → (∀ j ∈ waits o, D j = true) → AOpR P ops o g H' (fun v' H'' => v' = v ∧ H'' = H)) ∧ ADr P ops (fun _ H' => H' = H) Q os (i + 1) (put g o.dst v) := fun b hb ht hf => by
      cases b with
      | true =>
       obtain ⟨v, k1, k2⟩ := ht rfl
       refine ⟨v, fun D H' hH _ _ => ?_, LDr_ok os ls' (i + 1) h2 k2⟩
       subst hH
       simp only [AOpR, hb]
       exact LExec_ok k1
      | false =>
       refine ⟨.v undef, fun D H' hH _ _ => ?_, LDr_ok os ls' (i + 1) h2 (hf rfl)⟩
       subst hH
       simp only [AOpR, hb]
       exact ⟨trivial, trivial⟩
     split at k
     ·rename_i b hb
      refine key (b == want) ?_ (fun hbw => ?_) (fun hbw => ?_)
      ·simp only [wantA, hg]; erw [hd]; simp only [hb]
      ·rw [if_pos (by simpa using hbw)] at k; exact k
      ·rw [if_neg (by simpa using hbw)] at k; exact k
     ·rename_i t ht
      refine key false ?_ (fun hbw => by cases hbw) (fun _ => k)
      simp only [wantA, hg]; erw [hd]; simp only [ht]
     ·exact k.elim
    ·cases h1
  ·cases h
theorem LW_still [DSt] {id : Nat} {ops : Array Oper} {ls : List LOp} (hl : lowOps ops ops.toList = some ls) (hm : P.follows .mixedOrders = true) (hlex : lexOK ops.toList = true) (h : LDr P H (fun g' => Q .normal g' H) ls g) : LW P (.draw id ops) Q g H :=
 LW_draw hm hlex (fun _ H' => H' = H) rfl (LDr_ok ops.toList ls 0 hl (by
  have : ∀ (ls : List LOp) (g : List AV), LDr P H (fun g' => Q .normal g' H) ls g → LDr P H (fun g' => ∀ H', H' = H → Q .normal g' H') ls g := by
   intro ls
   induction ls with
   | nil => intro g h H' e; subst e; exact h
   | cons l ls ih =>
    intro g h
    obtain ⟨dst, op, gd⟩ := l
    cases gd with
    | none =>
     simp only [LDr] at h ⊢
     obtain ⟨v, h1, h2⟩ := h
     exact ⟨v, h1, ih _ h2⟩
    | some x =>
     obtain ⟨d, want⟩ := x
     simp only [LDr] at h ⊢
     split at h
     ·rename_i b hb
      split at h
      ·rename_i hbw
       rw [if_pos hbw]
       obtain ⟨v, h1, h2⟩ := h
       exact ⟨v, h1, ih _ h2⟩
      ·rename_i hbw
       rw [if_neg hbw]
       exact ih _ h
     ·rename_i t ht
      exact ih _ h
     ·exact h.elim
  exact this ls g h)) (fun _ _ _ _ h => h)
def endL (P : Program) (rs : List ResultVar) (R : AV → List AO → Prop) : Exit → List AV → List AO → Prop
 | .normal, g, H | .ret, g, H => match resAll P g H rs with
  | some vs => R (result vs) H
  | none => False
 | _, _, _ => False
def LNext (P : Program) (K : List AV → List AO → Prop) (os : List LOp) (dst : Option Tmp) (g : List AV) : Option (AV × List AO) → Prop
 | some (v, H') => LOps P K os (put g dst v) H'
 | none => False
def LCall (P : Program) (K : List AV → List AO → Prop) (os : List LOp) (dst : Option Tmp) (g : List AV) (H : List AO) (n : FuncId) (args : List AV) : Prop := ACall P n args H (fun v H' => LOps P K os (put g dst v) H')
def LCallV (P : Program) (K : List AV → List AO → Prop) (os : List LOp) (dst : Option Tmp) (g : List AV) (H : List AO) (args : List AV) : AV → Prop
 | .fn (.func n) first cap => LCall P K os dst g H n (first ++ args ++ cap)
 | _ => False
def LDo (P : Program) (K : List AV → List AO → Prop) (os : List LOp) (dst : Option Tmp) (g : List AV) (H : List AO) (op : Op) : Prop := LExec P op g H (fun v H' => LOps P K os (put g dst v) H')
def LGuard (P : Program) (K : List AV → List AO → Prop) (os : List LOp) (dst : Option Tmp) (g : List AV) (H : List AO) (op : Op) (want : Bool) : Option AV → Prop
 | some (.v (.bool b)) => if b = want then LDo P K os dst g H op else LOps P K os (put g dst (.v undef)) H
 | some (.v (.tuple _)) => LOps P K os (put g dst (.v undef)) H
 | _ => False
variable {K : List AV → List AO → Prop} {os : List LOp} {dst : Option Tmp} {op : Op} {want : Bool}
theorem LOps_nil : LOps P K [] g H = K g H := _root_.id rfl
theorem LOps_cons : LOps P K (⟨dst, op, none⟩ :: os) g H = LDo P K os dst g H op := _root_.id rfl
theorem LOps_guard {d : Tmp} : LOps P K (⟨dst, op, some (d, want)⟩ :: os) g H = LGuard P K os dst g H op want (g[d]?) := by
 simp only [LOps, LGuard, LDo]
 all_goals (split <;> rfl)
theorem LGuard_tt : LGuard P K os dst g H op true (some (.v (.bool true))) = LDo P K os dst g H op := _root_.id rfl
theorem LGuard_ff : LGuard P K os dst g H op false (some (.v (.bool false))) = LDo P K os dst g H op := _root_.id rfl
theorem LGuard_tf : LGuard P K os dst g H op true (some (.v (.bool false))) = LOps P K os (put g dst (.v undef)) H := _root_.id rfl
theorem LGuard_ft : LGuard P K os dst g H op false (some (.v (.bool true))) = LOps P K os (put g dst (.v undef)) H := _root_.id rfl
theorem LGuard_undef : LGuard P K os dst g H op want (some (.v undef)) = LOps P K os (put g dst (.v undef)) H := _root_.id rfl
theorem LDo_call {f : Operand} {args : Array Operand} {ats : Array TypeId} : LDo P K os dst g H (.call ⟨.value f, args, ats⟩) = LCallV P K os dst g H (args.toList.map (ev g)) (ev g f) := by
 simp only [LDo, LExec, LCallV]
 all_goals (split <;> rfl)
theorem LCallV_fn {n : FuncId} {first cap args : List AV} : LCallV P K os dst g H args (.fn (.func n) first cap) = LCall P K os dst g H n (first ++ args ++ cap) := _root_.id rfl
theorem LDo_builtin {b : Builtin} {args : Array Operand} {ats : Array TypeId} : LDo P K os dst g H (.call ⟨.builtin b, args, ats⟩) = LNext P K os dst g (abuiltin P H b ats (args.toList.map (ev g))) := by
 simp only [LDo, LExec, LNext, aop]
 all_goals (split <;> simp_all)
theorem LDo_move {x : Operand} : LDo P K os dst g H (.move x) = LOps P K os (put g dst (ev g x)) H := _root_.id rfl
theorem LDo_assign {x : Operand} : LDo P K os dst g H (.assign x) = LOps P K os (put g dst (ev g x)) H := _root_.id rfl
theorem LDo_aop (h : ∀ c, op ≠ .call c) : LDo P K os dst g H op = LNext P K os dst g (aop P g H op) := by
 simp only [LDo, LExec]
 split
 ·exact absurd rfl (h _)
 ·simp only [LNext]
  all_goals (split <;> simp_all)
theorem LNext_some {v : AV} {H' : List AO} : LNext P K os dst g (some (v, H')) = LOps P K os (put g dst v) H' := _root_.id rfl
theorem LDo_pick {a b c : Operand} : LDo P K os dst g H (.pick c a b) = LNext P K os dst g (aop P g H (.pick c a b)) := LDo_aop (by simp)
theorem LDo_extract {a : Operand} {i : Nat} : LDo P K os dst g H (.extract a i) = LNext P K os dst g (aop P g H (.extract a i)) := LDo_aop (by simp)
theorem LDo_field {a : Operand} {t : TypeId} {i : Nat} : LDo P K os dst g H (.field t a i) = LNext P K os dst g (aop P g H (.field t a i)) := LDo_aop (by simp)
theorem LDo_load {a : Operand} {t : TypeId} : LDo P K os dst g H (.load t a) = LNext P K os dst g (aop P g H (.load t a)) := LDo_aop (by simp)
theorem LDo_store {a b : Operand} {t : TypeId} : LDo P K os dst g H (.store t a b) = LNext P K os dst g (aop P g H (.store t a b)) := LDo_aop (by simp)
theorem LDo_box {a : Operand} {t : TypeId} : LDo P K os dst g H (.box t a) = LNext P K os dst g (aop P g H (.box t a)) := LDo_aop (by simp)
theorem LDo_alloc {t : TypeId} : LDo P K os dst g H (.alloc t) = LNext P K os dst g (aop P g H (.alloc t)) := LDo_aop (by simp)
theorem LDo_build {t : TypeId} {ps : Array (Nat × Operand)} : LDo P K os dst g H (.build t ps) = LNext P K os dst g (aop P g H (.build t ps)) := LDo_aop (by simp)
theorem LDo_buildSlice {t : TypeId} {n : Nat} {ps : Array (Nat × Operand)} : LDo P K os dst g H (.buildSlice t n ps) = LNext P K os dst g (aop P g H (.buildSlice t n ps)) := LDo_aop (by simp)
theorem LDo_makeSlice {t : TypeId} {a b : Operand} : LDo P K os dst g H (.makeSlice t a b) = LNext P K os dst g (aop P g H (.makeSlice t a b)) := LDo_aop (by simp)
theorem LDo_slice {t : TypeId} {a : Operand} {x y z : Option Operand} : LDo P K os dst g H (.slice t a x y z) = LNext P K os dst g (aop P g H (.slice t a x y z)) := LDo_aop (by simp)
theorem LDo_fieldAddr {t : TypeId} {a : Operand} {i : Nat} : LDo P K os dst g H (.fieldAddr t a i) = LNext P K os dst g (aop P g H (.fieldAddr t a i)) := LDo_aop (by simp)
theorem LDo_indexAddr {t : TypeId} {a b : Operand} : LDo P K os dst g H (.indexAddr t a b) = LNext P K os dst g (aop P g H (.indexAddr t a b)) := LDo_aop (by simp)
theorem LDo_index {t : TypeId} {a b : Operand} : LDo P K os dst g H (.index t a b) = LNext P K os dst g (aop P g H (.index t a b)) := LDo_aop (by simp)
theorem LDo_nilCheck {a : Operand} : LDo P K os dst g H (.nilCheck a) = LNext P K os dst g (aop P g H (.nilCheck a)) := LDo_aop (by simp)
theorem LDo_unOp {t : TypeId} {a : Operand} {o : UnOp} : LDo P K os dst g H (.unOp o t a) = LNext P K os dst g (aop P g H (.unOp o t a)) := LDo_aop (by simp)
theorem LDo_binOp {t u : TypeId} {a b : Operand} {o : BinOp} : LDo P K os dst g H (.binOp o t a b u) = LNext P K os dst g (aop P g H (.binOp o t a b u)) := LDo_aop (by simp)
theorem LDo_convert {t u : TypeId} {a : Operand} : LDo P K os dst g H (.convert t u a) = LNext P K os dst g (aop P g H (.convert t u a)) := LDo_aop (by simp)
theorem LDo_makeFunc {f : Fn} {a b : Array Operand} : LDo P K os dst g H (.makeFunc f a b) = LNext P K os dst g (aop P g H (.makeFunc f a b)) := LDo_aop (by simp)
theorem LCall_pure {n : FuncId} {args : List AV} {r : AV} (h : APure P n args r) (hc : Cls args) (k : LOps P K os (put g dst r) H) : LCall P K os dst g H n args := ACall_pure h hc k
theorem LCall_borrow {n : FuncId} {args args' : List AV} {r : AV} (hs : Rfs H args args') (h : APure P n args' r) (hp : r.plain = true) (k : LOps P K os (put g dst r) H) : LCall P K os dst g H n args := ACall_borrow hs h hp k
def LX [DSt] (P : Program) : LC → (Exit → List AV → List AO → Prop) → List AV → List AO → Prop
 | .skip, Q, g, H => Q .normal g H
 | .ret, Q, g, H => Q .ret g H
 | .exit id, Q, g, H => Q (.exit id) g H
 | .seq a b, Q, g, H => LX P a (thenA (LX P b Q) Q) g H
 | .cond c a b, Q, g, H => match ev g c with
  | .v (.bool true) => LX P a Q g H
  | .v (.bool false) => LX P b Q g H
  | _ => False
 | .block id b, Q, g, H => LX P b (blockA id Q) g H
 | .loop b, Q, g, H => LW P (.loop b) Q g H
 | .reg ops, Q, g, H => LOps P (Q .normal) ops g H
 | .draw id ops, Q, g, H => LW P (.draw id ops) Q g H
def LCond [DSt] (P : Program) (a b : LC) (Q : Exit → List AV → List AO → Prop) (g : List AV) (H : List AO) : AV → Prop
 | .v (.bool true) => LX P a Q g H
 | .v (.bool false) => LX P b Q g H
 | _ => False
theorem LX_skip [DSt] : LX P .skip Q g H = Q .normal g H := _root_.id rfl
theorem LX_ret [DSt] : LX P .ret Q g H = Q .ret g H := _root_.id rfl
theorem LX_exit [DSt] {id : Nat} : LX P (.exit id) Q g H = Q (.exit id) g H := _root_.id rfl
theorem LX_seq [DSt] {a b : LC} : LX P (.seq a b) Q g H = LX P a (thenA (LX P b Q) Q) g H := _root_.id rfl
theorem LX_cond [DSt] {c : Operand} {a b : LC} : LX P (.cond c a b) Q g H = LCond P a b Q g H (ev g c) := by
 simp only [LX, LCond]
 all_goals (split <;> rfl)
theorem LCond_true [DSt] {a b : LC} : LCond P a b Q g H (.v (.bool true)) = LX P a Q g H := _root_.id rfl
theorem LCond_false [DSt] {a b : LC} : LCond P a b Q g H (.v (.bool false)) = LX P b Q g H := _root_.id rfl
theorem LX_block [DSt] {id : Nat} {b : LC} : LX P (.block id b) Q g H = LX P b (blockA id Q) g H := _root_.id rfl
theorem LX_reg [DSt] {ops : List LOp} : LX P (.reg ops) Q g H = LOps P (Q .normal) ops g H := _root_.id rfl
theorem LX_loop [DSt] {b : LC} : LX P (.loop b) Q g H = LW P (.loop b) Q g H := _root_.id rfl
theorem LX_draw [DSt] {id : Nat} {ops : Array Oper} : LX P (.draw id ops) Q g H = LW P (.draw id ops) Q g H := _root_.id rfl
theorem thenA_normal {N : List AV → List AO → Prop} : thenA N Q .normal g H = N g H := _root_.id rfl
theorem thenA_normal' {N : List AV → List AO → Prop} : thenA N Q .normal = N := _root_.id rfl
theorem thenA_ret {N : List AV → List AO → Prop} : thenA N Q .ret g H = Q .ret g H := _root_.id rfl
theorem thenA_exit {N : List AV → List AO → Prop} {id : Nat} : thenA N Q (.exit id) g H = Q (.exit id) g H := _root_.id rfl
theorem blockA_normal {id : Nat} : blockA id Q .normal g H = Q .normal g H := _root_.id rfl
theorem blockA_normal' {id : Nat} : blockA id Q .normal = Q .normal := _root_.id rfl
theorem blockA_ret {id : Nat} : blockA id Q .ret g H = Q .ret g H := _root_.id rfl
theorem blockA_exit {id id' : Nat} : blockA id Q (.exit id') g H = if id' = id then Q .normal g H else Q (.exit id') g H := _root_.id rfl
theorem LCall_of {n : FuncId} {args : List AV} (h : ACall P n args H (fun v H' => LOps P K os (put g dst v) H')) : LCall P K os dst g H n args := h
end
attribute [irreducible] LX LOps LCall LNext LDo LGuard LCond LCallV
end Go.Abs
