/- Part 4 of the texts that lead to repairNearestCard_holds. No condition. -/
import Derived.Deep.LoopGhost
import Derived.OrdersIn
import Derived.Test.YtcjckmnhlfbdlaaGreatDoorH3
set_option linter.all false
namespace Go.Abs
open Go
def fR (r : Option Nat) : Fence := { Fence.wide with round := r }
theorem fR_steps {P : Program} {r : Option Nat} {m m' : Machine} (h : Steps P m m') : StepsIn (Machine.fenced P (fR r)) P m m' := stepsIn_wide.2 h
theorem fR_calls {P : Program} {r : Option Nat} {n : Nat} {f : FuncId} {args : Array Value} {w : World} {R : Ending → World → Prop} (h : Calls P f args w R) : CallsIn (fR r) n P f args w R := callsIn_wide (n := n).2 h
theorem fR_callsOut {P : Program} {r : Option Nat} {n : Nat} {f : FuncId} {args : Array Value} {w : World} {R : Ending → World → Prop} (h : CallsIn (fR r) n P f args w R) : Calls P f args w R := callsIn_wide (n := n).1 h
def WPA (P : Program) (c : Code) (Q : Exit → Act → World → Prop) (a : Act) (w : World) : Prop := ∀ (r : Option Nat) (n : Nat), c.wpIn (fR r) n P Q a w
def OWP (P : Program) (o : Oper) (a : Act) (w : World) (K : Act → World → Prop) (Q : Exit → Act → World → Prop) : Prop := ∀ (r : Option Nat) (n : Nat), o.wpIn (fR r) n P a w K Q
section
variable {P : Program} {Q Q' : Exit → Act → World → Prop} {a : Act} {w : World}
theorem wp_mono {c : Code} (h : WPA P c Q a w) (hq : ∀ e a w, Q e a w → Q' e a w) : WPA P c Q' a w := fun r n => wpIn_mono (h r n) hq
theorem wp_skip (h : Q .normal a w) : WPA P .skip Q a w := fun _ _ => wpIn_skip h
theorem wp_exit {id : Nat} (h : Q (.exit id) a w) : WPA P (.exit id) Q a w := fun _ _ => wpIn_exit h
theorem wp_ret (h : Q .ret a w) : WPA P .ret Q a w := fun _ _ => wpIn_ret h
theorem wp_seq {x y : Code} (h : WPA P x (Exit.then (WPA P y Q) Q) a w) : WPA P (.seq x y) Q a w := fun r n => wpIn_seq (wpIn_mono (h r n) fun e _ _ q => by cases e <;> first | exact q r n | exact q)
theorem wp_cond {c : Operand} {x y : Code} {t : Bool} (hc : a.eval c = .bool t) (h : WPA P (if t then x else y) Q a w) : WPA P (.cond c x y) Q a w := fun r n => wpIn_cond hc (h r n)
theorem wp_block {id : Nat} {c : Code} (h : WPA P c (Exit.inBlock id Q) a w) : WPA P (.block id c) Q a w := fun r n => wpIn_block (h r n)
theorem wp_loop_ghost {c : Code} (I : Nat → Act → World → Prop) (n₀ : Nat) (h₀ : I n₀ a w)
 (round : ∀ n a w, I n a w → WPA P c (Exit.then (fun a' w' => ∃ n', n' < n ∧ I n' a' w') Q) a w) : WPA P (.loop c) Q a w := fun r n => by
 refine wpIn_loop (fun a w => ∃ k, I k a w) (fun a w => leastOf fun k => I k a w) ⟨n₀, h₀⟩ fun a w hI => wpIn_mono (round _ a w (leastOf_spec hI).1 r n) fun e a' w' q => ?_
 cases e with
 | normal =>
  obtain ⟨k, hlt, hk⟩ := q
  exact ⟨⟨k, hk⟩, Nat.lt_of_le_of_lt ((leastOf_spec ⟨k, hk⟩).2 k hk) hlt⟩
 | _ => exact q
theorem OWP.of {o : Oper} {K : Act → World → Prop} (h : o.wp P a w K Q) (hd : ∀ c, o.op ≠ .defer c) : OWP P o a w K Q := fun r n => by
 refine ⟨fun _ _ => trivial, ?_⟩
 rw [Oper.semAt_eq _ _ _ hd]
 unfold Oper.wp at h
 generalize (execOp a.eval o).run P w = x at *
 cases x with
 | ok y w' => cases y <;> simp only [Oper.upon, Oper.uponIn] at h ⊢ <;> first
  | exact h
  | exact h.elim
  | exact ⟨fun q => (by cases q), fR_calls h⟩
  | exact ⟨fun q => (by cases q), fun c cs _ => let ⟨v, w', h1, h2⟩ := h c cs; ⟨v, w', h1, fR_steps h2⟩⟩
 | halt y w' => cases y <;> simp only [Oper.upon, Oper.uponIn] at h ⊢ <;> exact h
theorem OWP.mono {o : Oper} {K K' : Act → World → Prop} (hk : ∀ a w, K a w → K' a w) (h : OWP P o a w K Q) : OWP P o a w K' Q := fun r n => Oper.wpIn_mono hk (h r n)
def wpOp (P : Program) (ops : Array Oper) (Q : Exit → Act → World → Prop) (i : Nat) (K : Act → World → Prop) (a : Act) (w : World) : Prop :=
 match ops[i]? with
 | none => K a w
 | some o => if Region.wanted o (yielded ops a.tmps) then OWP P o a w K Q else K (a.put o.dst undef) w
theorem wpOp_in {ops : Array Oper} {i : Nat} {K : Act → World → Prop} (h : wpOp P ops Q i K a w) (r : Option Nat) (n : Nat) : wpOpIn (fR r) n P ops Q i K a w := by
 unfold wpOp at h
 unfold wpOpIn
 split
 ·rename_i e; simp only [e] at h; exact h
 ·rename_i o e
  simp only [e] at h
  split
  ·rename_i hw; rw [if_pos hw] at h; exact h r n
  ·rename_i hw; rw [if_neg hw] at h; exact ⟨fun _ _ => trivial, h⟩
theorem wpOp_mono {ops : Array Oper} {i : Nat} {K K' : Act → World → Prop} (hk : ∀ a w, K a w → K' a w) (h : wpOp P ops Q i K a w) : wpOp P ops Q i K' a w := by
 unfold wpOp at *
 split
 ·rename_i e; simp only [e] at h; exact hk _ _ h
 ·rename_i o e
  simp only [e] at h
  split
  ·rename_i hw; rw [if_pos hw] at h; exact h.mono hk
  ·rename_i hw; rw [if_neg hw] at h; exact hk _ _ h
def wpOps (P : Program) (ops : Array Oper) (Q : Exit → Act → World → Prop) : List Nat → Act → World → Prop
 | [], a, w => Q .normal a w
 | i :: is, a, w => wpOp P ops Q i (wpOps P ops Q is) a w
theorem wpOps_cons {ops : Array Oper} (i : Nat) (is : List Nat) : wpOps P ops Q (i :: is) a w = wpOp P ops Q i (wpOps P ops Q is) a w := rfl
theorem wpOps_in {ops : Array Oper} (r : Option Nat) (n : Nat) : ∀ (l : List Nat) {a : Act} {w : World}, wpOps P ops Q l a w → wpOpsIn (fR r) n P ops Q l a w
 | [], _, _, h => h
 | i :: is, a, w, h => by
  rw [wpOpsIn_cons]
  exact wpOpIn_mono (fun _ _ k => wpOps_in r n is k) (wpOp_in h r n)
theorem wp_region {id : Nat} {ops : Array Oper} (h : wpOps P ops Q (List.range ops.size) a w) : WPA P (.region id ops false) Q a w := fun r n => wpIn_region (wpOps_in r n _ h)
def wpAny (P : Program) (md : Region.Mode) (ops : Array Oper) (Q : Exit → Act → World → Prop) : Nat → Array Bool → Act → World → Prop
 | 0, listed, a, w => Region.ready md ops listed = [] ∧ Q .normal a w
 | k + 1, listed, a, w => (Region.ready md ops listed = [] → Q .normal a w) ∧ ∀ i ∈ Region.ready md ops listed, wpOp P ops Q i (wpAny P md ops Q k (listed.setIfInBounds i true)) a w
theorem wpAny_in {md : Region.Mode} {ops : Array Oper} (r : Option Nat) (n : Nat) : ∀ (k : Nat) {listed : Array Bool} {a : Act} {w : World}, wpAny P md ops Q k listed a w → wpAnyIn (fR r) n P md ops Q k listed a w
 | 0, _, _, _, h => h
 | k + 1, _, _, _, h => ⟨h.1, fun i hi => wpOpIn_mono (fun _ _ q => wpAny_in r n k q) (wpOp_in (h.2 i hi) r n)⟩
theorem wp_region_any {id : Nat} {ops : Array Oper} (hm : P.follows .mixedOrders = true) (h : wpAny P .any ops Q ops.size (Array.replicate ops.size false) a { w with drawn := w.drawn + 1 }) : WPA P (.region id ops true) Q a w := fun r n =>
 wpIn_region_any hm (wpAny_in r n _ h)
theorem calls_of_wp {f : FuncId} {fn : Func} {c : Code} {args : Array Value} {R : Ending → World → Prop} (hf : P.funcs[f]? = some fn) (hb : fn.body = some c)
 (h : WPA P c (bodyPost P fn R) { tmps := args ++ Array.replicate (fn.ntmps - args.size) undef, defers := [] } w) : Calls P f args w R := Go.calls_of_wp hf hb (wpIn_wide.1 (h none 0))
end
class DSt where
 l : List Deferred
instance noDefers : DSt := ⟨[]⟩
def CallsFn (P : Program) (n : FuncId) (xs : Array Value) (w : World) (K : Value → World → Prop) : Prop :=
 match (callFunc n xs).run P w with
 | .ok (.value v) w' => K v w'
 | .ok (.enter f args) w' => Calls P f args w' (fun e w'' => ∃ v, e = .returned v ∧ K v w'')
 | _ => False
theorem CallsFn.mono {P : Program} {n : FuncId} {xs : Array Value} {w : World} {K K' : Value → World → Prop} (h : CallsFn P n xs w K) (hk : ∀ v w', K v w' → K' v w') : CallsFn P n xs w K' := by
 unfold CallsFn at *
 split
 ·rename_i v w' e; rw [e] at h; exact hk _ _ h
 ·rename_i f args w' e; rw [e] at h; exact h.mono fun e w'' ⟨v, h1, h2⟩ => ⟨v, h1, hk _ _ h2⟩
 ·rename_i h1 h2
  split at h
  ·exact (h1 _ _ (by assumption)).elim
  ·exact (h2 _ _ _ (by assumption)).elim
  ·exact h
def ACall (P : Program) (n : FuncId) (args : List AV) (H : List AO) (R : AV → List AO → Prop) : Prop :=
 ∀ (I : Nat → Prop) (m : List Loc) (w : World) (xs : Array Value), HR I m H w → VRs I m w args xs.toList →
  CallsFn P n xs w (fun v w' => ∃ r H' I' m', R r H' ∧ VR I' m' w' r v ∧ HR I' m' H' w' ∧ Ext I m (Own H m) w I' m' (Own H' m') w')
theorem ACall.mono {P : Program} {n : FuncId} {args : List AV} {H : List AO} {R R' : AV → List AO → Prop} (h : ACall P n args H R) (hr : ∀ r H', R r H' → R' r H') : ACall P n args H R' :=
 fun I m w xs h1 h2 => (h I m w xs h1 h2).mono fun v w' ⟨r, H', I', m', h3, h4⟩ => ⟨r, H', I', m', hr _ _ h3, h4⟩
def AW [DSt] (P : Program) (c : Code) (Q : Exit → List AV → List AO → Prop) (g : List AV) (H : List AO) : Prop :=
 ∀ (I : Nat → Prop) (m : List Loc) (a : Act) (w : World), HR I m H w → VRs I m w g a.tmps.toList → a.defers = DSt.l →
  WPA P c (fun e a' w' => ∃ g' H' I' m', Q e g' H' ∧ HR I' m' H' w' ∧ VRs I' m' w' g' a'.tmps.toList ∧ a'.defers = DSt.l ∧ Ext I m (Own H m) w I' m' (Own H' m') w') a w
def put (g : List AV) (dst : Option Tmp) (v : AV) : List AV :=
 match dst with
 | some d => g.set d v
 | none => g
def wantA (ops : Array Oper) (g : List AV) (o : Oper) : Option Bool :=
 match o.guard with
 | none => some true
 | some (j, want) => match (ops[j]?).bind (·.dst) with
  | some d => match g[d]? with
   | some (.v (.bool b)) => some (b == want)
   | some (.v (.tuple _)) => some false
   | _ => none
  | none => none
def OpSem (P : Program) (g : List AV) (H : List AO) (op : Op) (v : AV) (H' : List AO) : Prop :=
 ∀ (I : Nat → Prop) (m : List Loc) (w : World) (a : Act) (o : Oper), o.op = op → HR I m H w → (∀ x ∈ op.operands.toList, VR I m w (ev g x) (a.eval x)) → OpS P I m H w o a v H'
def AExecR (P : Program) (o : Oper) (g : List AV) (H : List AO) (R : AV → List AO → Prop) : Prop :=
 match o.op with
 | .call { callee := .value f, args, .. } => match ev g f with
  | .fn (.func n) first cap => ACall P n (first ++ args.toList.map (ev g) ++ cap) H R
  | _ => False
 | op => (∃ v H', aop P g H op = some (v, H') ∧ R v H') ∨ ∃ v H', OpSem P g H op v H' ∧ R v H'
def AOpR (P : Program) (ops : Array Oper) (o : Oper) (g : List AV) (H : List AO) (R : AV → List AO → Prop) : Prop :=
 match wantA ops g o with
 | some true => AExecR P o g H R
 | some false => R (.v undef) H
 | none => False
def AOp (P : Program) (ops : Array Oper) (o : Oper) (g : List AV) (H : List AO) (K : List AV → List AO → Prop) : Prop :=
 AOpR P ops o g H (fun v H' => K (put g o.dst v) H')
def AOps (P : Program) (ops : Array Oper) (K : List AV → List AO → Prop) : List Oper → List AV → List AO → Prop
 | [], g, H => K g H
 | o :: os, g, H => AOp P ops o g H (AOps P ops K os)
section
variable {P : Program}
theorem put_ok {I : Nat → Prop} {m : List Loc} {w : World} {g : List AV} {a : Act} (h : VRs I m w g a.tmps.toList) (dst : Option Tmp) {v : AV} {y : Value} (hv : VR I m w v y) : VRs I m w (put g dst v) (a.put dst y).tmps.toList := by
 cases dst with
 | none => exact h
 | some d =>
  simp only [put, Act.put, Array.toList_setIfInBounds]
  refine VRs.of_get (by simp [h.len]) fun i c x h1 h2 => ?_
  rw [List.getElem?_set] at h1 h2
  by_cases hd : d = i
  ·subst hd
   rw [if_pos rfl] at h1 h2
   split at h1
   ·rename_i hl
    rw [if_pos (by rw [h.len]; exact hl)] at h2
    injection h1 with h1; injection h2 with h2
    subst h1; subst h2; exact hv
   ·cases h1
  ·rw [if_neg hd] at h1 h2
   obtain ⟨y, h3, h4⟩ := h.get i c h1
   rw [h2] at h3; injection h3 with h3; subst h3; exact h4
theorem put_defers {a : Act} {dst : Option Tmp} {y : Value} {ds : List Deferred} (h : a.defers = ds) : (a.put dst y).defers = ds := by
 cases dst <;> exact h
theorem wantA_ok {I : Nat → Prop} {m : List Loc} {w : World} {ops : Array Oper} {g : List AV} {o : Oper} {a : Act} (h : VRs I m w g a.tmps.toList) {b : Bool} (hw : wantA ops g o = some b) : Region.wanted o (yielded ops a.tmps) = b := by
 unfold wantA at hw
 unfold Region.wanted
 split at hw
 ·rename_i hg; rw [hg]; injection hw
 ·rename_i j want hg
  rw [hg]
  split at hw
  ·rename_i d hd
   simp only [yielded]
   erw [hd]
   split at hw
   ·rename_i bb hb
    obtain ⟨y, h1, h2⟩ := h.get d _ hb
    have h3 : a.tmps[d]? = some y := by simpa using h1
    simp only [VR] at h2; subst h2
    injection hw with hw; subst hw
    simp only [Option.bind_some, h3]
    cases bb <;> cases want <;> rfl
   ·rename_i t ht
    obtain ⟨y, h1, h2⟩ := h.get d _ ht
    have h3 : a.tmps[d]? = some y := by simpa using h1
    simp only [VR] at h2; subst h2
    injection hw with hw; subst hw
    simp only [Option.bind_some, h3]
    cases want <;> rfl
   ·cases hw
  ·cases hw
def Post [DSt] (P : Program) (I : Nat → Prop) (m : List Loc) (H : List AO) (w : World) (K : List AV → List AO → Prop) (a' : Act) (w' : World) : Prop :=
 ∃ g' H' I' m', K g' H' ∧ HR I' m' H' w' ∧ VRs I' m' w' g' a'.tmps.toList ∧ a'.defers = DSt.l ∧ Ext I m (Own H m) w I' m' (Own H' m') w'
theorem not_defer {a : Act} {o : Oper} {w w' : World} {y : Value} {p : Prop} (h : (execOp a.eval o).run P w = .ok (.value y) w' ∨ ((execOp a.eval o).run P w = .ok .skip w' ∧ p)) (c : Call) : o.op ≠ .defer c := fun e => by
 simp only [execOp, e, Sem.run_bind] at h
 generalize (resolve a.eval c o.type).run P w = x at h
 cases x <;> simp [Result.andThen] at h
theorem aexec_sound [DSt] {I : Nat → Prop} {m : List Loc} {H : List AO} {w : World} {o : Oper} {g : List AV} {a : Act} {K : List AV → List AO → Prop} {Q : Exit → Act → World → Prop} (hr : HR I m H w) (hg : VRs I m w g a.tmps.toList) (hd : a.defers = DSt.l)
 (h : AExecR P o g H (fun v H' => K (put g o.dst v) H')) : OWP P o a w (Post P I m H w K) Q := by
 unfold AExecR at h
 split at h
 ·rename_i f args ats hop
  split at h
  ·rename_i n first cap hf
   have h1 := VR.ev hg f
   rw [hf] at h1
   simp only [VR] at h1
   obtain ⟨xs, ys, he, hxs, hys⟩ := h1
   have hargs : VRs I m w (first ++ args.toList.map (ev g) ++ cap) (xs ++ args.map a.eval ++ ys).toList := by
    rw [Array.toList_append, Array.toList_append]
    exact (hxs.append (evs_arr hg args)).append hys
   have hc := h I m w _ hr hargs
   have e0 : execOp a.eval o = callFunc n (xs ++ args.map a.eval ++ ys) := by
    simp [execOp, hop, resolve, he, Deferred.ofValue, invoke]
   refine OWP.of ?_ (fun c e => by rw [hop] at e; cases e)
   unfold Oper.wp
   rw [e0]
   unfold CallsFn at hc
   split at hc
   ·rename_i v w' e
    rw [e]
    simp only [Oper.upon]
    obtain ⟨r, H', I', m', h2, h3, h4, h5⟩ := hc
    exact ⟨_, H', I', m', h2, h4, put_ok (Ext.vrs hr h5 hg) o.dst h3, put_defers hd, h5⟩
   ·rename_i f' args' w' e
    rw [e]
    simp only [Oper.upon]
    refine hc.mono fun e w'' ⟨v, he', r, H', I', m', h2, h3, h4, h5⟩ => ?_
    subst he'
    exact ⟨_, H', I', m', h2, h4, put_ok (Ext.vrs hr h5 hg) o.dst h3, put_defers hd, h5⟩
   ·exact hc.elim
  ·exact h.elim
 ·rename_i op hop
  have key : ∃ v H', OpS P I m H w o a v H' ∧ K (put g o.dst v) H' := by
   rcases h with ⟨v, H', h1, h2⟩ | ⟨v, H', h1, h2⟩
   ·exact ⟨v, H', op_sound hr hg h1, h2⟩
   ·exact ⟨v, H', h1 I m w a o rfl hr fun x _ => VR.ev hg x, h2⟩
  obtain ⟨v, H', h1, h2⟩ := key
  obtain ⟨y, w', m', h3, h4, h5, h6⟩ := h1
  refine OWP.of ?_ (not_defer h3)
  unfold Oper.wp
  rcases h3 with h3 | ⟨h3, rfl⟩
  ·rw [h3]; simp only [Oper.upon]
   exact ⟨_, H', I, m', h2, h5, put_ok (Ext.vrs hr h6 hg) o.dst h4, put_defers hd, h6⟩
  ·rw [h3]; simp only [Oper.upon]
   exact ⟨_, H', I, m', h2, h5, put_ok (Ext.vrs hr h6 hg) o.dst h4, put_defers hd, h6⟩
theorem aop_step [DSt] {I : Nat → Prop} {m : List Loc} {H : List AO} {w : World} {ops : Array Oper} {o : Oper} {i : Nat} {g : List AV} {a : Act} {K : List AV → List AO → Prop} {Q : Exit → Act → World → Prop} (hr : HR I m H w) (hg : VRs I m w g a.tmps.toList) (hd : a.defers = DSt.l)
 (hi : ops[i]? = some o) (h : AOp P ops o g H K) : wpOp P ops Q i (Post P I m H w K) a w := by
 unfold AOp AOpR at h
 unfold wpOp
 simp only [hi]
 split at h
 ·rename_i hw
  rw [if_pos (wantA_ok hg hw)]
  exact aexec_sound hr hg hd h
 ·rename_i hw
  rw [if_neg (by rw [wantA_ok hg hw]; simp)]
  exact ⟨_, H, I, m, h, hr, put_ok hg o.dst (by simp only [VR]), put_defers hd, Ext.refl _ _ _ _⟩
 ·exact h.elim
theorem Post.trans [DSt] {I I' : Nat → Prop} {m m' : List Loc} {H H' : List AO} {w w' : World} {K : List AV → List AO → Prop} {a : Act} {w2 : World} (he : Ext I m (Own H m) w I' m' (Own H' m') w') (h : Post P I' m' H' w' K a w2) : Post P I m H w K a w2 := by
 obtain ⟨g2, H2, I2, m2, h1, h2, h3, h4, h5⟩ := h
 exact ⟨g2, H2, I2, m2, h1, h2, h3, h4, he.trans h5⟩
theorem aops_sound [DSt] {ops : Array Oper} {K : List AV → List AO → Prop} {Q : Exit → Act → World → Prop} : ∀ (l : List Oper) (k : Nat), (∀ j, l[j]? = ops[k + j]?) → ∀ {I : Nat → Prop} {m : List Loc} {H : List AO} {w : World} {g : List AV} {a : Act},
 HR I m H w → VRs I m w g a.tmps.toList → a.defers = DSt.l → (∀ a' w', Post P I m H w K a' w' → Q .normal a' w') → AOps P ops K l g H → wpOps P ops Q (List.range' k l.length) a w
 | [], k, _, I, m, H, w, g, a, hr, hg, hd, hq, h => by
  simp only [List.length_nil, List.range'_zero, wpOps]
  exact hq a w ⟨g, H, I, m, h, hr, hg, hd, Ext.refl _ _ _ _⟩
 | o :: l, k, hl, I, m, H, w, g, a, hr, hg, hd, hq, h => by
  have h0 : ops[k]? = some o := by simpa using (hl 0).symm
  simp only [List.length_cons, List.range'_succ, wpOps_cons]
  refine wpOp_mono ?_ (aop_step (Q := Q) hr hg hd h0 h)
  rintro a' w' ⟨g', H', I', m', h1, h2, h3, h4, h5⟩
  exact aops_sound l (k + 1) (fun j => by have := hl (j + 1); simpa [Nat.add_assoc, Nat.add_comm 1 j] using this) h2 h3 h4 (fun a2 w2 hp => hq a2 w2 (hp.trans h5)) h1
theorem AW_region [DSt] {id : Nat} {ops : Array Oper} {Q : Exit → List AV → List AO → Prop} {g : List AV} {H : List AO} (h : AOps P ops (Q .normal) ops.toList g H) : AW P (.region id ops false) Q g H := by
 intro I m a w hr hg hd
 refine wp_region ?_
 have := aops_sound (Q := fun e a' w' => ∃ g' H' I' m', Q e g' H' ∧ HR I' m' H' w' ∧ VRs I' m' w' g' a'.tmps.toList ∧ a'.defers = DSt.l ∧ Ext I m (Own H m) w I' m' (Own H' m') w') ops.toList 0 (by intro j; simp) hr hg hd (fun a' w' hp => hp) h
 rwa [← List.range_eq_range', Array.length_toList] at this
def thenA (next : List AV → List AO → Prop) (Q : Exit → List AV → List AO → Prop) : Exit → List AV → List AO → Prop
 | .normal, g, H => next g H
 | e, g, H => Q e g H
def blockA (id : Nat) (Q : Exit → List AV → List AO → Prop) : Exit → List AV → List AO → Prop
 | .exit id', g, H => if id' = id then Q .normal g H else Q (.exit id') g H
 | e, g, H => Q e g H
section
variable {Q Q' : Exit → List AV → List AO → Prop} {g : List AV} {H : List AO}
theorem AW_skip [DSt] (h : Q .normal g H) : AW P .skip Q g H := fun I m a w h1 h2 h3 => wp_skip ⟨g, H, I, m, h, h1, h2, h3, Ext.refl _ _ _ _⟩
theorem AW_exit [DSt] {id : Nat} (h : Q (.exit id) g H) : AW P (.exit id) Q g H := fun I m a w h1 h2 h3 => wp_exit ⟨g, H, I, m, h, h1, h2, h3, Ext.refl _ _ _ _⟩
theorem AW_ret [DSt] (h : Q .ret g H) : AW P .ret Q g H := fun I m a w h1 h2 h3 => wp_ret ⟨g, H, I, m, h, h1, h2, h3, Ext.refl _ _ _ _⟩
theorem AW_seq [DSt] {x y : Code} (h : AW P x (thenA (AW P y Q) Q) g H) : AW P (.seq x y) Q g H := by
 intro I m a w h1 h2 h3
 refine wp_seq (wp_mono (h I m a w h1 h2 h3) ?_)
 rintro e a' w' ⟨g', H', I', m', h4, h5, h6, h7, h8⟩
 cases e with
 | normal =>
  refine wp_mono (h4 I' m' a' w' h5 h6 h7) ?_
  rintro e a2 w2 ⟨g2, H2, I2, m2, k1, k2, k3, k4, k5⟩
  exact ⟨g2, H2, I2, m2, k1, k2, k3, k4, h8.trans k5⟩
 | _ => exact ⟨g', H', I', m', h4, h5, h6, h7, h8⟩
theorem AW_cond [DSt] {c : Operand} {x y : Code} {t : Bool} (hc : ev g c = .v (.bool t)) (h : AW P (if t then x else y) Q g H) : AW P (.cond c x y) Q g H := by
 intro I m a w h1 h2 h3
 have hv := VR.ev h2 c
 rw [hc] at hv
 simp only [VR] at hv
 exact wp_cond hv (h I m a w h1 h2 h3)
end
def resA (P : Program) (g : List AV) (H : List AO) : ResultVar → Option AV
 | .tmp t => some (g.getD t (.v undef))
 | .cell t ty => match acells H (g.getD t (.v undef)) with
  | some (cs, off) => apart P ty cs off
  | none => none
def resAll (P : Program) (g : List AV) (H : List AO) : List ResultVar → Option (List AV)
 | [] => some []
 | r :: rs => match resA P g H r, resAll P g H rs with
  | some v, some vs => some (v :: vs)
  | _, _ => none
def result : List AV → AV
 | [v] => v
 | vs => .tu vs
theorem resAll_ok {I : Nat → Prop} {m : List Loc} {H : List AO} {w : World} {g : List AV} {a : Act} (hr : HR I m H w) (hg : VRs I m w g a.tmps.toList) : ∀ {rs : List ResultVar} {vs : List AV}, resAll P g H rs = some vs →
 ∃ ys : List Value, (rs.mapM (fun r => (match r with | .tmp t => pure (a.tmps.getD t undef) | .cell x t => do loadVar t (← asAddr (a.tmps.getD x undef)) : Sem Value)) : Sem (List Value)).run P w = .ok ys w ∧ VRs I m w vs ys
 | [], vs, h => by simp only [resAll] at h; injection h with h; subst h; exact ⟨[], by simp, by simp [VRs]⟩
 | r :: rs, vs, h => by
  simp only [resAll] at h
  split at h
  ·rename_i v vs' h1 h2
   injection h with h; subst h
   obtain ⟨ys, h3, h4⟩ := resAll_ok hr hg h2
   have h5 : ∃ y, ((match r with | .tmp t => pure (a.tmps.getD t undef) | .cell x t => do loadVar t (← asAddr (a.tmps.getD x undef)) : Sem Value)).run P w = .ok y w ∧ VR I m w v y := by
    cases r with
    | tmp t =>
     simp only [resA] at h1
     injection h1 with h1; subst h1
     exact ⟨_, rfl, VR.ev hg (.tmp t)⟩
    | cell x t =>
     simp only [resA] at h1
     split at h1
     ·rename_i cs off hc
      obtain ⟨b, q, hx, hcs⟩ := acells_spec hr hc (VR.ev hg (.tmp x))
      obtain ⟨y, hy, hvy⟩ := run_loadVar' (P := P) h1 b q hcs
      simp only [Act.eval] at hx
      exact ⟨y, by simp [hx, asAddr, hy], hvy⟩
     ·cases h1
   obtain ⟨y, h6, h7⟩ := h5
   refine ⟨y :: ys, ?_, by simp only [VRs]; exact ⟨_, _, rfl, h7, h4⟩⟩
   simp only [List.mapM_cons, Sem.run_bind, h6, Result.andThen_ok, h3, Sem.run_pure]
  ·cases h
def endA (P : Program) (fn : Func) (R : AV → List AO → Prop) : Exit → List AV → List AO → Prop
 | .normal, g, H | .ret, g, H => ∃ vs, resAll P g H fn.results.toList = some vs ∧ R (result vs) H
 | _, _, _ => False
theorem ACall_of_AW {n : FuncId} {fn : Func} {c : Code} {args : List AV} {H : List AO} {R : AV → List AO → Prop} (hf : P.funcs[n]? = some fn) (hb : fn.body = some c) (hn : (fn.name == "runtime.NumGoroutine") = false)
 (h : AW P c (endA P fn R) (args ++ List.replicate (fn.ntmps - args.length) (.v undef)) H) : ACall P n args H R := by
 intro I m w xs hr hv
 have hl := hv.len
 rw [Array.length_toList] at hl
 have e0 : (callFunc n xs).run P w = .ok (.enter n xs) w := by
  simp [callFunc, hf, hn, hb]
  intro hh
  simp [hh] at hn
 unfold CallsFn
 rw [e0]
 refine calls_of_wp hf hb (wp_mono (h I m { tmps := xs ++ Array.replicate (fn.ntmps - xs.size) undef, defers := [] } w hr ?_ rfl) ?_)
 ·simp only [Array.toList_append, Array.toList_replicate, hl]
  refine hv.append ?_
  generalize fn.ntmps - args.length = k
  induction k with
  | zero => simp [VRs]
  | succ k ih => simp only [List.replicate_succ, VRs]; exact ⟨_, _, rfl, by simp only [VR], ih⟩
 ·rintro e a' w' ⟨g', H', I', m', h1, h2, h3, h4, h5⟩
  have key : (∃ vs, resAll P g' H' fn.results.toList = some vs ∧ R (result vs) H') → ∃ v, (results fn a'.tmps).run P w' = .ok v w' ∧ ∃ v', Ending.returned v = .returned v' ∧ ∃ r H' I' m', R r H' ∧ VR I' m' w' r v' ∧ HR I' m' H' w' ∧ Ext I m (Own H m) w I' m' (Own H' m') w' := by
   rintro ⟨vs, k1, k2⟩
   obtain ⟨ys, k3, k4⟩ := resAll_ok h2 h3 k1
   have k5 : (results fn a'.tmps).run P w' = .ok (if h : ys.toArray.size = 1 then ys.toArray[0] else .tuple ys.toArray) w' := by
    unfold results
    simp only [Array.mapM_eq_mapM_toList, Sem.run_bind, Sem.run_map]
    erw [k3]
    simp
   refine ⟨_, k5, _, rfl, result vs, H', I', m', k2, ?_, h2, h5⟩
   have kl := k4.len
   match vs, ys, k4, kl with
   | [v], [y], k4, _ =>
    simp only [VRs] at k4
    obtain ⟨y', zs, e, k6, _⟩ := k4
    obtain ⟨rfl, rfl⟩ := List.cons.inj e
    simpa [result] using k6
   | [], [], k4, _ => simp [result, VR, VRs]
   | v :: v2 :: vs, y :: y2 :: ys, k4, _ =>
    simp only [result]
    rw [dif_neg (by simp)]
    simp only [VR]
    exact ⟨_, rfl, k4⟩
  cases e with
  | normal => exact ⟨h4, key h1⟩
  | ret => exact ⟨h4, key h1⟩
  | _ => exact h1.elim
end
end Go.Abs
namespace Go.Abs
open Go
def Cl (v : AV) : Prop := ∀ (I : Nat → Prop) (m : List Loc) (w : World) (y : Value), VR I m w v y → VR I [] w v y
def Cls (vs : List AV) : Prop := ∀ v ∈ vs, Cl v
def Rf (H : List AO) (v r : AV) : Prop := ∀ (I : Nat → Prop) (m : List Loc) (w : World) (y : Value), HR I m H w → VR I m w v y → VR (fun b => I b ∨ Own H m b) [] w r y
def Rfs (H : List AO) : List AV → List AV → Prop
 | [], rs => rs = []
 | v :: vs, rs => ∃ r rs', rs = r :: rs' ∧ Rf H v r ∧ Rfs H vs rs'
section
variable {I : Nat → Prop} {m : List Loc} {w : World} {H : List AO}
theorem VRs.cl {vs : List AV} {ys : List Value} (h : Cls vs) (k : VRs I m w vs ys) : VRs I [] w vs ys :=
 VRs.of_get k.len fun i c x h1 h2 => by
  obtain ⟨y, h3, h4⟩ := k.get i c h1
  rw [h2] at h3; injection h3 with h3; subst h3
  exact h c (List.mem_of_getElem? h1) I m w x h4
theorem CR.cl {b : Nat} {cs : List AV} {o : Nat} (h : Cls cs) (k : CR I m w b cs o) : CR I [] w b cs o :=
 CR.of_get fun i c hc => by
  obtain ⟨x, h1, h2⟩ := k.get i c hc
  exact ⟨x, h1, h c (List.mem_of_getElem? hc) I m w x h2⟩
theorem Cl.v (x : Value) : Cl (.v x) := fun I m w y h => by simpa only [VR] using h
theorem Cl.em : Cl .em := fun I m w y h => by simpa only [VR] using h
theorem Cl.im {n : Nat} {cs : List AV} (h : Cls cs) : Cl (.im n cs) := fun I m w y k => by
 simp only [VR] at k ⊢
 obtain ⟨A, c, h1, h2, h3⟩ := k
 exact ⟨A, c, h1, h2, h3.imp id fun ⟨b, o, h4, h5, h6⟩ => ⟨b, o, h4, h5, h6.cl h⟩⟩
theorem Cl.ip {cs : List AV} (h : Cls cs) : Cl (.ip cs) := fun I m w y k => by
 simp only [VR] at k ⊢
 obtain ⟨b, o, h4, h5, h6⟩ := k
 exact ⟨b, o, h4, h5, h6.cl h⟩
theorem Cl.ag {cs : List AV} (h : Cls cs) : Cl (.ag cs) := fun I m w y k => by
 simp only [VR] at k ⊢
 obtain ⟨xs, h1, h2⟩ := k
 exact ⟨xs, h1, h2.cl h⟩
theorem Cl.tu {cs : List AV} (h : Cls cs) : Cl (.tu cs) := fun I m w y k => by
 simp only [VR] at k ⊢
 obtain ⟨xs, h1, h2⟩ := k
 exact ⟨xs, h1, h2.cl h⟩
theorem Cl.fn {f : Fn} {as bs : List AV} (h : Cls as) (k : Cls bs) : Cl (.fn f as bs) := fun I m w y q => by
 simp only [VR] at q ⊢
 obtain ⟨xs, ys, h1, h2, h3⟩ := q
 exact ⟨xs, ys, h1, h2.cl h, h3.cl k⟩
theorem Cls.nil : Cls [] := fun v h => by cases h
theorem Cls.cons {v : AV} {vs : List AV} (h : Cl v) (k : Cls vs) : Cls (v :: vs) := fun u hu => by
 rcases List.mem_cons.1 hu with rfl | hu
 ·exact h
 ·exact k u hu
theorem Rf.cl {v : AV} (h : Cl v) : Rf H v v := fun I m w y hr k => by
 have := VR.mono (I' := fun b => I b ∨ Own H m b) (nu := []) (w' := w) (fun b hb => .inl hb) (fun _ _ => rfl) v y (h I m w y k)
 simpa using this
theorem Rfs.vrs {I : Nat → Prop} {m : List Loc} {w : World} (hr : HR I m H w) : ∀ {vs rs : List AV} {ys : List Value}, Rfs H vs rs → VRs I m w vs ys → VRs (fun b => I b ∨ Own H m b) [] w rs ys
 | [], rs, ys, h, k => by simp only [Rfs] at h; subst h; simpa only [VRs] using k
 | v :: vs, rs, ys, h, k => by
  simp only [Rfs] at h
  obtain ⟨r, rs', rfl, h1, h2⟩ := h
  simp only [VRs] at k ⊢
  obtain ⟨y, zs, rfl, h3, h4⟩ := k
  exact ⟨y, zs, rfl, h1 I m w y hr h3, Rfs.vrs hr h2 h4⟩
theorem Rfs.get : ∀ {vs rs : List AV}, Rfs H vs rs → rs.length = vs.length ∧ ∀ (i : Nat) r, rs[i]? = some r → ∃ v, vs[i]? = some v ∧ Rf H v r
 | [], rs, h => by simp only [Rfs] at h; subst h; exact ⟨rfl, fun i r h => by simp at h⟩
 | v :: vs, rs, h => by
  simp only [Rfs] at h
  obtain ⟨r, rs', rfl, h1, h2⟩ := h
  obtain ⟨h3, h4⟩ := Rfs.get h2
  refine ⟨by simp [h3], fun i r' hi => ?_⟩
  cases i with
  | zero => simp at hi; subst hi; exact ⟨v, rfl, h1⟩
  | succ i => simp at hi; simpa using h4 i r' hi
theorem Rfs.cls : ∀ {vs : List AV}, Cls vs → Rfs H vs vs
 | [], _ => by simp only [Rfs]
 | v :: vs, h => by simp only [Rfs]; exact ⟨v, vs, rfl, Rf.cl (h v (List.mem_cons_self ..)), Rfs.cls fun u hu => h u (List.mem_cons_of_mem _ hu)⟩
theorem Rf.cells {id sz : Nat} {cs rs : List AV} (ho : H[id]? = some (.cells sz cs) ∨ H[id]? = some (.ice sz cs)) {off : Nat} (h : Rfs H (cs.drop off) rs) (hr : HR I m H w) {L : Loc} (hm : m[id]? = some L) : CR (fun b => I b ∨ Own H m b) [] w L.b rs (L.o + off) :=
 CR.of_get fun i r hi => by
  obtain ⟨v, h1, h2⟩ := h.get.2 i r hi
  rw [List.getElem?_drop] at h1
  obtain ⟨y, h3, h4⟩ := hr.cellOf ho hm h1
  exact ⟨y, by rw [← h3]; congr 2; omega, h2 I m w y hr h4⟩
theorem HR.shut (hr : HR I m H w) {id sz : Nat} {cs : List AV} (ho : H[id]? = some (.cells sz cs) ∨ H[id]? = some (.ice sz cs)) {L : Loc} (hm : m[id]? = some L) (hc : L.cap ≠ 0) : I L.b ∨ Own H m L.b := by
 rcases ho with ho | ho
 ·exact .inr ⟨id, _, L, ho, rfl, hm, hc, rfl⟩
 ·exact .inl ((hr.ob id _ L ho hm).2.2 hc).1
theorem Rf.pt {id off sz : Nat} {cs rs : List AV} (ho : H[id]? = some (.cells sz cs) ∨ H[id]? = some (.ice sz cs)) (hne : cs ≠ []) (h : Rfs H (cs.drop off) rs) : Rf H (.pt id off) (.ip rs) := fun I m w y hr k => by
 simp only [VR] at k ⊢
 obtain ⟨L, h1, rfl⟩ := k
 replace h1 := (lk_get h1).1
 have hsz := hr.szOf ho h1
 have : 0 < cs.length := List.length_pos_iff.2 hne
 exact ⟨L.b, L.o + off, rfl, hr.shut ho h1 (by omega), Rf.cells ho h hr h1⟩
end
def APure (P : Program) (n : FuncId) (args : List AV) (r : AV) : Prop := ACall P n args [] (fun v H' => Rf H' v r)
theorem Own.nil {m : List Loc} {b : Nat} : ¬ Own [] m b := fun ⟨id, o, L, h, _⟩ => by simp at h
theorem HR.empty {I : Nat → Prop} {w : World} (h : ∀ b, I b → b < w.heap.size) (hg : Gl I w) : HR I [] [] w where
 len := rfl
 ob := fun id o L h => by simp at h
 inj := fun i j oi oj Li Lj _ h => by simp at h
 imm := fun b _ h => Own.nil h
 ilt := h
 gl := hg
theorem HR.after {I I' : Nat → Prop} {m : List Loc} {H : List AO} {w w' : World} (hr : HR I m H w) (hI : ∀ b, I b → I' b) (hn : ∀ b, I' b → I b ∨ w.heap.size ≤ b) (hlt : ∀ b, I' b → b < w'.heap.size) (hs : w.heap.size ≤ w'.heap.size) (hw : ∀ b, b < w.heap.size → w'.heap[b]? = w.heap[b]?) : HR I' m H w' where
 len := hr.len
 ob := fun id o L h1 h2 => by
  have := OR.mono (nu := []) hI (fun b hb => hw b (hr.ilt b hb)) (fun ha hc => hw _ (hr.lt h1 ha h2 hc)) (hr.ob id o L h1 h2)
  simpa using this
 inj := hr.inj
 imm := fun b hb ho => by
  rcases hn b hb with h | h
  ·exact hr.imm b h ho
  ·have := ho.lt hr; omega
 ilt := hlt
 gl := hr.gl.on hI fun b hb => hw b (hr.ilt b hb)
section
variable {P : Program} {n : FuncId} {args args' : List AV} {H : List AO} {R : AV → List AO → Prop} {r : AV}
theorem ACall_pure (h : APure P n args r) (hc : Cls args) (hR : R r H) : ACall P n args H R := by
 intro I m w xs hr hv
 have h1 := h I [] w xs (HR.empty hr.ilt hr.gl) (VRs.cl hc hv)
 refine h1.mono ?_
 rintro v w' ⟨r', H', I', m', h2, h3, h4, h5⟩
 have hown : ∀ b, Own H' m' b → w.heap.size ≤ b := fun b hb => (h5.ow b hb).resolve_left Own.nil
 have hI : ∀ b, I' b → I b ∨ w.heap.size ≤ b := fun b hb => by
  rcases h5.inew b hb with h | h | h
  ·exact .inl h
  ·exact (Own.nil h).elim
  ·exact .inr h
 have hblk : ∀ b, b < w.heap.size → w'.heap[b]? = w.heap[b]? := fun b hb => h5.blk b hb Own.nil
 have hr' : HR (fun b => I' b ∨ Own H' m' b) m H w' := hr.after (fun b hb => .inl (h5.imm b hb)) (fun b hb => by
  rcases hb with hb | hb
  ·exact hI b hb
  ·exact .inr (hown b hb)) (fun b hb => by
  rcases hb with hb | hb
  ·exact h4.ilt b hb
  ·exact hb.lt h4) h5.size hblk
 refine ⟨r, H, fun b => I' b ∨ Own H' m' b, m, hR, ?_, hr', ⟨h5.os, h5.tape, h5.output, h5.size, fun b hb _ => hblk b hb, fun b hb => .inl (h5.imm b hb), fun b hb => .inl hb, ⟨[], by simp⟩, fun b hb => ?_⟩⟩
 ·have := VR.mono (nu := m) (fun _ h => h) (fun _ _ => rfl) r v (h2 I' m' w' v h4 h3)
  simpa using this
 ·rcases hb with hb | hb
  ·rcases hI b hb with h | h
   ·exact .inl h
   ·exact .inr (.inr h)
  ·exact .inr (.inr (hown b hb))
def AV.plain : AV → Bool
 | .v _ => true
 | .tu vs => vs.all fun | .v _ => true | _ => false
 | .ag vs => vs.all fun | .v _ => true | _ => false
 | _ => false
theorem VRs.plain {I I' : Nat → Prop} {m m' : List Loc} {w w' : World} : ∀ {vs : List AV} {ys : List Value}, (vs.all fun | .v _ => true | _ => false) = true → VRs I m w vs ys → VRs I' m' w' vs ys
 | [], ys, _, h => by simpa only [VRs] using h
 | v :: vs, ys, hp, h => by
  simp only [VRs] at h ⊢
  obtain ⟨y, zs, rfl, h1, h2⟩ := h
  simp only [List.all_cons, Bool.and_eq_true] at hp
  refine ⟨y, zs, rfl, ?_, VRs.plain hp.2 h2⟩
  cases v
  case v => simpa only [VR] using h1
  all_goals exact Bool.noConfusion hp.1
theorem VR.plain {I I' : Nat → Prop} {m m' : List Loc} {w w' : World} {v : AV} {y : Value} (hp : v.plain = true) (h : VR I m w v y) : VR I' m' w' v y := by
 cases v <;> simp only [AV.plain] at hp <;> try contradiction
 ·simpa only [VR] using h
 ·simp only [VR] at h ⊢
  obtain ⟨xs, h1, h2⟩ := h
  exact ⟨xs, h1, VRs.plain hp h2⟩
 ·simp only [VR] at h ⊢
  obtain ⟨xs, h1, h2⟩ := h
  exact ⟨xs, h1, VRs.plain hp h2⟩
theorem ACall_borrow (hs : Rfs H args args') (h : APure P n args' r) (hp : r.plain = true) (hR : R r H) : ACall P n args H R := by
 intro I m w xs hr hv
 have h1 := h (fun b => I b ∨ Own H m b) [] w xs (HR.empty (fun b hb => by
  rcases hb with hb | hb
  ·exact hr.ilt b hb
  ·exact hb.lt hr) (hr.gl.on (fun _ h => .inl h) fun _ _ => rfl)) (hs.vrs hr hv)
 refine h1.mono ?_
 rintro v w' ⟨r', H', I', m', h2, h3, h4, h5⟩
 have hblk : ∀ b, b < w.heap.size → w'.heap[b]? = w.heap[b]? := fun b hb => h5.blk b hb Own.nil
 exact ⟨r, H, I, m, hR, VR.plain hp (h2 I' m' w' v h4 h3), hr.after (fun _ h => h) (fun b hb => .inl hb) (fun b hb => Nat.lt_of_lt_of_le (hr.ilt b hb) h5.size) h5.size hblk, ⟨h5.os, h5.tape, h5.output, h5.size, fun b hb _ => hblk b hb, fun _ h => h, fun b hb => .inl hb, ⟨[], by simp⟩, fun b hb => .inl hb⟩⟩
end
end Go.Abs
namespace Go.Abs
open Go
theorem AOpR.mono {P : Program} {ops : Array Oper} {o : Oper} {g : List AV} {H : List AO} {R R' : AV → List AO → Prop} (h : AOpR P ops o g H R) (hr : ∀ v H', R v H' → R' v H') : AOpR P ops o g H R' := by
 unfold AOpR at *
 split
 ·rename_i hw
  simp only [hw] at h
  unfold AExecR at *
  split
  ·rename_i f args ats hop
   simp only [hop] at h
   split
   ·rename_i n first cap hf
    simp only [hf] at h
    exact h.mono hr
   ·rename_i hno
    split at h
    ·rename_i hf; exact (hno _ _ _ hf).elim
    ·exact h
  ·rename_i op hno
   split at h
   ·rename_i f args ats hop; exact (hno f args ats hop).elim
   ·exact h.imp (fun ⟨v, H', h1, h2⟩ => ⟨v, H', h1, hr _ _ h2⟩) (fun ⟨v, H', h1, h2⟩ => ⟨v, H', h1, hr _ _ h2⟩)
 ·rename_i hw; simp only [hw] at h; exact hr _ _ h
 ·rename_i hw; simp only [hw] at h
theorem ev_congr {g g' : List AV} {x : Operand} (h : ∀ t, x = .tmp t → g[t]? = g'[t]?) : ev g x = ev g' x := by
 cases x with
 | tmp t => simp only [ev, List.getD_eq_getElem?_getD, h t rfl]
 | _ => rfl
theorem map_ev_congr {g g' : List AV} {xs : List Operand} (h : ∀ x ∈ xs, ev g x = ev g' x) : xs.map (ev g) = xs.map (ev g') := List.map_congr_left h
theorem aop_congr {P : Program} {g g' : List AV} {H : List AO} {op : Op} (h : ∀ x ∈ op.operands, ev g x = ev g' x) : aop P g H op = aop P g' H op := by
 cases op with
 | call c =>
  obtain ⟨callee, args, ats⟩ := c
  cases callee with
  | builtin b =>
   simp only [aop]
   rw [map_ev_congr fun x hx => h x (by simp [Op.operands, Call.operands]; exact Array.mem_toList_iff.1 hx)]
  | _ => simp only [aop]
 | build t ps =>
  simp only [aop]
  have e : (ps.toList.map fun p => (p.1, ev g p.2)) = ps.toList.map fun p => (p.1, ev g' p.2) := List.map_congr_left fun p hp => by
   rw [h p.2 (by simp [Op.operands]; exact ⟨p.1, Array.mem_toList_iff.1 hp⟩)]
  rw [e]
 | buildSlice t n ps =>
  simp only [aop]
  have e : (ps.toList.map fun p => (p.1, ev g p.2)) = ps.toList.map fun p => (p.1, ev g' p.2) := List.map_congr_left fun p hp => by
   rw [h p.2 (by simp [Op.operands]; exact ⟨p.1, Array.mem_toList_iff.1 hp⟩)]
  rw [e]
 | makeFunc f xs ys =>
  simp only [aop]
  rw [map_ev_congr fun x hx => h x (by simp [Op.operands]; exact .inl (Array.mem_toList_iff.1 hx)), map_ev_congr fun x hx => h x (by simp [Op.operands]; exact .inr (Array.mem_toList_iff.1 hx))]
 | slice t x lo hi mx =>
  simp only [aop]
  have e1 := h x (by simp [Op.operands])
  have e2 : lo.map (ev g) = lo.map (ev g') := by cases lo <;> simp; exact h _ (by simp [Op.operands])
  have e3 : hi.map (ev g) = hi.map (ev g') := by cases hi <;> simp; exact h _ (by simp [Op.operands])
  have e4 : mx.map (ev g) = mx.map (ev g') := by cases mx <;> simp; exact h _ (by simp [Op.operands])
  rw [e1, e2, e3, e4]
 | pick c x y => simp only [aop]; rw [h c (by simp [Op.operands]), h x (by simp [Op.operands]), h y (by simp [Op.operands])]
 | store t x y => simp only [aop]; rw [h x (by simp [Op.operands]), h y (by simp [Op.operands])]
 | binOp o t x y t2 => simp only [aop]; rw [h x (by simp [Op.operands]), h y (by simp [Op.operands])]
 | makeSlice t x y => simp only [aop]; rw [h x (by simp [Op.operands]), h y (by simp [Op.operands])]
 | indexAddr t x y => simp only [aop]; rw [h x (by simp [Op.operands]), h y (by simp [Op.operands])]
 | index t x y => simp only [aop]; rw [h x (by simp [Op.operands]), h y (by simp [Op.operands])]
 | move x => simp only [aop]; rw [h x (by simp [Op.operands])]
 | assign x => simp only [aop]; rw [h x (by simp [Op.operands])]
 | extract x i => simp only [aop]; rw [h x (by simp [Op.operands])]
 | field t x f => simp only [aop]; rw [h x (by simp [Op.operands])]
 | load t x => simp only [aop]; rw [h x (by simp [Op.operands])]
 | box t x => simp only [aop]; rw [h x (by simp [Op.operands])]
 | fieldAddr t x f => simp only [aop]; rw [h x (by simp [Op.operands])]
 | nilCheck x => simp only [aop]; rw [h x (by simp [Op.operands])]
 | unOp o t x => simp only [aop]; rw [h x (by simp [Op.operands])]
 | convert s d x => simp only [aop]; rw [h x (by simp [Op.operands])]
 | _ => simp only [aop]
theorem AOpR.congr {P : Program} {ops : Array Oper} {o : Oper} {g g' : List AV} {H : List AO} {R : AV → List AO → Prop} (h : ∀ t ∈ o.looksAt ops, g[t]? = g'[t]?) (k : AOpR P ops o g H R) : AOpR P ops o g' H R := by
 have hev : ∀ x ∈ o.op.operands, ev g x = ev g' x := fun x hx => ev_congr fun t ht => h t (by
  subst ht
  unfold Oper.looksAt
  refine List.mem_append.2 (.inl (List.mem_filterMap.2 ⟨.tmp t, by simpa using hx, rfl⟩)))
 have hw : wantA ops g o = wantA ops g' o := by
  unfold wantA
  split
  ·rfl
  ·rename_i j want hg
   split
   ·rename_i d hd
    rw [h d (by
     unfold Oper.looksAt
     refine List.mem_append.2 (.inr ?_)
     rw [hg]
     simp only
     rw [hd]
     simp)]
   ·rfl
 unfold AOpR at *
 rw [← hw]
 split
 ·rename_i hw'
  simp only [hw'] at k
  unfold AExecR at *
  split
  ·rename_i f args ats hop
   simp only [hop] at k
   have e1 : ev g f = ev g' f := hev f (by rw [hop]; simp [Op.operands, Call.operands])
   have e2 : args.toList.map (ev g) = args.toList.map (ev g') := map_ev_congr fun x hx => hev x (by rw [hop]; simp [Op.operands, Call.operands]; exact .inr (Array.mem_toList_iff.1 hx))
   rw [e1, e2] at k
   exact k
  ·rename_i op hno
   split at k
   ·rename_i f args ats hop; exact (hno f args ats hop).elim
   ·exact k.imp (fun ⟨v, H', h1, h2⟩ => ⟨v, H', by rw [← aop_congr hev]; exact h1, h2⟩) (fun ⟨v, H', h1, h2⟩ => ⟨v, H', fun I m w a o2 e1 e2 e3 => h1 I m w a o2 e1 e2 fun x hx => by
     rw [hev x (by simpa using hx)]; exact e3 x hx, h2⟩)
 ·rename_i hw'; simp only [hw'] at k; exact k
 ·rename_i hw'; simp only [hw'] at k
def waits (o : Oper) : List Nat := o.after.toList.filterMap fun e => if Region.binds .any e then some e.on else none
def lexOK (ops : List Oper) : Bool :=
  let A := ops.toArray
  (ops.zipIdx.all fun (o, i) => (waits o).all fun j => decide (j < i)) && ops.zipIdx.all fun (o, i) => ops.zipIdx.all fun (p, j) => i == j ||
    (match p.dst with
     | none => true
     | some t => o.dst != some t && (!(o.looksAt A).contains t || (if j < i then (waits o).contains j else (waits p).contains i)))
def Dset (D : Nat → Bool) (i : Nat) : Nat → Bool := fun j => if j = i then true else D j
def ADr (P : Program) (ops : Array Oper) (C : (Nat → Bool) → List AO → Prop) (Q : List AV → Prop) : List Oper → Nat → List AV → Prop
 | [], _, g => Q g
 | o :: os, i, g => ∃ v, (∀ D H, C D H → D i = false → (∀ j ∈ waits o, D j = true) → AOpR P ops o g H (fun v' H' => v' = v ∧ C (Dset D i) H')) ∧ ADr P ops C Q os (i + 1) (put g o.dst v)
def gof : List AV → List Oper → List AV → Nat → (Nat → Bool) → List AV
 | g, o :: os, v :: vs, i, D => gof (if D i then put g o.dst v else g) os vs (i + 1) D
 | g, _, _, _, _ => g
theorem put_len (g : List AV) (d : Option Tmp) (v : AV) : (put g d v).length = g.length := by cases d <;> simp [put]
theorem put_get (g : List AV) (d : Option Tmp) (v : AV) (t : Nat) : (put g d v)[t]? = if d = some t then (if t < g.length then some v else none) else g[t]? := by
 cases d with
 | none => simp [put]
 | some d =>
  simp only [put, List.getElem?_set]
  by_cases h : d = t
  ·subst h; simp
  ·simp [h]
theorem gof_len : ∀ (os : List Oper) (vs g : List AV) (i : Nat) (D : Nat → Bool), (gof g os vs i D).length = g.length
 | [], vs, g, i, D => by simp [gof]
 | o :: os, [], g, i, D => by simp [gof]
 | o :: os, v :: vs, g, i, D => by
  simp only [gof]
  rw [gof_len os vs _ (i + 1) D]
  split
  ·exact put_len _ _ _
  ·rfl
theorem gof_none : ∀ (os : List Oper) (vs g : List AV) (i : Nat) (D : Nat → Bool) (t : Nat), (∀ (k : Nat) o, os[k]? = some o → o.dst = some t → D (i + k) = false) → (gof g os vs i D)[t]? = g[t]?
 | [], vs, g, i, D, t, h => by simp [gof]
 | o :: os, [], g, i, D, t, h => by simp [gof]
 | o :: os, v :: vs, g, i, D, t, h => by
  simp only [gof]
  rw [gof_none os vs _ (i + 1) D t fun k o' h1 h2 => by
   have := h (k + 1) o' (by simpa using h1) h2
   rw [← this]; congr 1; omega]
  split
  ·rename_i hD
   rw [put_get, if_neg]
   intro hd
   have := h 0 o rfl hd
   simp only [Nat.add_zero] at this
   rw [this] at hD; cases hD
  ·rfl
theorem gof_some : ∀ (os : List Oper) (vs g : List AV) (i : Nat) (D : Nat → Bool) (t k : Nat) (o : Oper) (v : AV), os[k]? = some o → vs[k]? = some v → o.dst = some t → D (i + k) = true → (∀ (k' : Nat) o', k' ≠ k → os[k']? = some o' → o'.dst ≠ some t) →
 (gof g os vs i D)[t]? = if t < g.length then some v else none
 | [], vs, g, i, D, t, k, o, v, h1, _, _, _, _ => by simp at h1
 | p :: os, [], g, i, D, t, k, o, v, _, h2, _, _, _ => by simp at h2
 | p :: os, u :: vs, g, i, D, t, k, o, v, h1, h2, h3, h4, h5 => by
  simp only [gof]
  cases k with
  | zero =>
   simp at h1 h2
   subst h1; subst h2
   simp only [Nat.add_zero] at h4
   rw [if_pos h4, gof_none os vs _ (i + 1) D t fun k' o' k1 k2 => (h5 (k' + 1) o' (by omega) (by simpa using k1) k2).elim, put_get, if_pos h3]
  | succ k =>
   rw [gof_some os vs _ (i + 1) D t k o v (by simpa using h1) (by simpa using h2) h3 (by rw [← h4]; congr 1; omega) fun k' o' k1 k2 => h5 (k' + 1) o' (by omega) (by simpa using k2)]
   have : (if D i = true then put g p.dst u else g).length = g.length := by
    split
    ·exact put_len _ _ _
    ·rfl
   simp only [this]
theorem gof_all {D : Nat → Bool} {os : List Oper} {vs g : List AV} {i : Nat} (h : ∀ k, D (i + k) = false) : gof g os vs i D = g := by
 apply List.ext_getElem?
 intro t
 exact gof_none os vs g i D t fun k o _ _ => h k
theorem gof_congr : ∀ (os : List Oper) (vs g : List AV) (i : Nat) (D D' : Nat → Bool), (∀ k, k < os.length → D (i + k) = D' (i + k)) → gof g os vs i D = gof g os vs i D'
 | [], vs, g, i, D, D', h => by simp [gof]
 | o :: os, [], g, i, D, D', h => by simp [gof]
 | o :: os, v :: vs, g, i, D, D', h => by
  simp only [gof]
  have h0 := h 0 (by simp)
  simp only [Nat.add_zero] at h0
  rw [h0]
  exact gof_congr os vs _ (i + 1) D D' fun k hk => by
   have := h (k + 1) (by simpa using hk)
   rw [show i + 1 + k = i + (k + 1) by omega]; exact this
section
variable {P : Program} {ops : Array Oper}
theorem ADr.vals {C : (Nat → Bool) → List AO → Prop} {Q : List AV → Prop} : ∀ (os : List Oper) (i : Nat) (g : List AV), ADr P ops C Q os i g → ∃ vs : List AV, vs.length = os.length ∧
 (∀ (k : Nat) o v, os[k]? = some o → vs[k]? = some v → ∀ D H, C D H → D (i + k) = false → (∀ j ∈ waits o, D j = true) → AOpR P ops o (gof g os vs i (fun j => decide (j < i + k))) H (fun v' H' => v' = v ∧ C (Dset D (i + k)) H')) ∧
 Q (gof g os vs i (fun j => decide (j < i + os.length)))
 | [], i, g, h => ⟨[], rfl, fun k o v h1 => by simp at h1, by simpa [gof, ADr] using h⟩
 | o :: os, i, g, h => by
  simp only [ADr] at h
  obtain ⟨v, h1, h2⟩ := h
  obtain ⟨vs, h3, h4, h5⟩ := ADr.vals os (i + 1) _ h2
  refine ⟨v :: vs, by simp [h3], fun k o' v' k1 k2 D H k3 k4 k5 => ?_, ?_⟩
  ·cases k with
   | zero =>
    simp at k1 k2
    subst k1; subst k2
    simp only [Nat.add_zero] at k4 ⊢
    have e : gof g (o :: os) (v :: vs) i (fun j => decide (j < i)) = g := gof_all fun k => by simp
    rw [e]
    exact h1 D H k3 k4 k5
   | succ k =>
    have := h4 k o' v' (by simpa using k1) (by simpa using k2) D H k3 (by rw [← k4]; congr 1; omega) k5
    simp only [gof]
    rw [if_pos (by simp)]
    have e : i + (k + 1) = i + 1 + k := by omega
    simp only [e]
    exact this
  ·simp only [gof, List.length_cons]
   rw [if_pos (by simp)]
   have e : i + (os.length + 1) = i + 1 + os.length := by omega
   simp only [e]
   exact h5
theorem count_set (D : Nat → Bool) (i : Nat) : ∀ (l : List Nat), l.Nodup → i ∈ l → D i = false → l.countP (fun j => !Dset D i j) + 1 = l.countP (fun j => !D j)
 | [], _, h, _ => by cases h
 | a :: l, hn, h, hD => by
  have hn' := List.nodup_cons.1 hn
  simp only [List.countP_cons]
  by_cases ha : a = i
  ·subst ha
   have e : l.countP (fun j => !Dset D a j) = l.countP (fun j => !D j) := List.countP_congr fun j hj => by
    have : j ≠ a := fun e => hn'.1 (e ▸ hj)
    simp [Dset, this]
   rw [e]
   simp [Dset, hD]
  ·have hi : i ∈ l := (List.mem_cons.1 h).resolve_left (Ne.symm ha)
   have ih := count_set D i l hn'.2 hi hD
   simp only [Dset, ha, if_false] at *
   omega
theorem lexOK_spec {os : List Oper} (h : lexOK os = true) :
 (∀ (i : Nat) o, os[i]? = some o → ∀ j ∈ waits o, j < i) ∧
 (∀ (i j : Nat) o p t, os[i]? = some o → os[j]? = some p → i ≠ j → p.dst = some t → o.dst ≠ some t ∧ (t ∈ o.looksAt os.toArray → (j < i → j ∈ waits o) ∧ (i < j → i ∈ waits p))) := by
 unfold lexOK at h
 simp only [Bool.and_eq_true, List.all_eq_true] at h
 have mem : ∀ (i : Nat) o, os[i]? = some o → (o, i) ∈ os.zipIdx := fun i o hi => by
  rw [List.mem_zipIdx_iff_getElem?]; exact hi
 refine ⟨fun i o hi j hj => by simpa using h.1 _ (mem i o hi) j hj, fun i j o p t hi hj hne hd => ?_⟩
 have h1 := h.2 _ (mem i o hi) _ (mem j p hj)
 simp only [Bool.or_eq_true, beq_iff_eq, hne, false_or, hd, Bool.and_eq_true, bne_iff_ne, ne_eq, Bool.not_eq_true'] at h1
 refine ⟨fun e => h1.1 (by rw [e]), fun ht => ?_⟩
 rcases h1.2 with h2 | h2
 ·exfalso
  have : (o.looksAt os.toArray).contains t = true := by simpa using ht
  rw [this] at h2; cases h2
 ·refine ⟨fun hlt => ?_, fun hlt => ?_⟩
  ·rw [if_pos hlt] at h2; simpa using h2
  ·rw [if_neg (by omega)] at h2; simpa using h2
theorem AW_draw [DSt] {id : Nat} {Q : Exit → List AV → List AO → Prop} {g : List AV} {H : List AO} (hm : P.follows .mixedOrders = true) (hlex : lexOK ops.toList = true) (C : (Nat → Bool) → List AO → Prop) (h0 : C (fun _ => false) H)
 (h : ADr P ops C (fun g' => ∀ H', C (fun i => decide (i < ops.size)) H' → Q .normal g' H') ops.toList 0 g) (hC : ∀ D D' H, (∀ i, i < ops.size → D i = D' i) → C D H → C D' H) : AW P (.region id ops true) Q g H := by
 obtain ⟨vs, hvl, hstep, hfin⟩ := ADr.vals ops.toList 0 g h
 obtain ⟨hw1, hw2⟩ := lexOK_spec hlex
 simp only [Nat.zero_add, Array.length_toList] at hstep hfin hvl
 intro I m a w hr hg hd
 refine wp_region_any hm ?_
 let S : (Nat → Bool) → Act → World → Prop := fun D a' w' => ∃ H' I' m', C D H' ∧ HR I' m' H' w' ∧ VRs I' m' w' (gof g ops.toList vs 0 D) a'.tmps.toList ∧ a'.defers = DSt.l ∧ Ext I m (Own H m) w I' m' (Own H' m') w'
 have hsame : ∀ {cs : List AV} {w1 w2 : World} {I' : Nat → Prop} {m' : List Loc} {xs : List Value}, w2.heap = w1.heap → VRs I' m' w1 cs xs → VRs I' m' w2 cs xs := fun e k => VRs.of_heap e k
 have key : ∀ (fuel : Nat) (listed : Array Bool) (D : Nat → Bool) (a' : Act) (w' : World), listed.size = ops.size → (∀ i, D i = listed.getD i false) → (∀ i, D i = true → ∀ o, ops[i]? = some o → ∀ j ∈ waits o, D j = true) →
  (List.range ops.size).countP (fun i => !D i) = fuel → S D a' w' → wpAny P .any ops (fun e a' w' => ∃ g' H' I' m', Q e g' H' ∧ HR I' m' H' w' ∧ VRs I' m' w' g' a'.tmps.toList ∧ a'.defers = DSt.l ∧ Ext I m (Own H m) w I' m' (Own H' m') w') fuel listed a' w' := by
  have done : ∀ (D : Nat → Bool) (a' : Act) (w' : World), (∀ i, i < ops.size → D i = true) → S D a' w' → ∃ g' H' I' m', Q .normal g' H' ∧ HR I' m' H' w' ∧ VRs I' m' w' g' a'.tmps.toList ∧ a'.defers = DSt.l ∧ Ext I m (Own H m) w I' m' (Own H' m') w' := by
   rintro D a' w' hall ⟨H', I', m', k1, k2, k3, k4, k5⟩
   have e : gof g ops.toList vs 0 D = gof g ops.toList vs 0 (fun j => decide (j < ops.size)) := gof_congr _ _ _ _ _ _ fun k hk => by
    simp only [Array.length_toList] at hk
    rw [Nat.zero_add, hall k hk]; simp [hk]
   rw [e] at k3
   exact ⟨_, H', I', m', hfin H' (hC D _ H' (fun i hi => by rw [hall i hi]; simp [hi]) k1), k2, k3, k4, k5⟩
  intro fuel
  induction fuel with
  | zero =>
   intro listed D a' w' hsz hD hcl hcnt hS
   have hall : ∀ i, i < ops.size → D i = true := fun i hi => by
    have := List.countP_eq_zero.1 hcnt i (List.mem_range.2 hi)
    simpa using this
   refine ⟨?_, done D a' w' hall hS⟩
   rw [List.eq_nil_iff_forall_not_mem]
   intro i hi
   obtain ⟨h1, o, h2, h3⟩ := mem_ready.1 hi
   have hlt : i < ops.size := (Array.getElem?_eq_some_iff.1 h2).1
   have := hall i hlt
   rw [hD] at this
   have hl : i < listed.size := by omega
   simp [hl] at h1 this
   rw [this] at h1; cases h1
  | succ fuel ih =>
   intro listed D a' w' hsz hD hcl hcnt hS
   refine ⟨fun hnil => ?_, fun i hi => ?_⟩
   ·
    exfalso
    have hex : ∃ i, i < ops.size ∧ D i = false := by
     have hpos : 0 < (List.range ops.size).countP (fun i => !D i) := by omega
     obtain ⟨i, h1, h2⟩ := List.countP_pos_iff.1 hpos
     exact ⟨i, List.mem_range.1 h1, by simpa using h2⟩
    obtain ⟨i, ⟨hi1, hi2⟩, hmin⟩ := exists_least hex
    have hi : i ∈ Region.ready .any ops listed := by
     rw [mem_ready]
     have hl : i < listed.size := by omega
     refine ⟨?_, ops[i], by simp [hi1], fun e he hb => ?_⟩
     ·have := hD i; rw [hi2] at this; simp [hl] at this ⊢; exact this
     ·have hj : e.on ∈ waits ops[i] := by
       unfold waits
       exact List.mem_filterMap.2 ⟨e, by simpa using he, by simp [hb]⟩
      have hlt := hw1 i ops[i] (by simp [hi1]) _ hj
      have : D e.on = true := by
       cases hh : D e.on with
       | true => rfl
       | false => have := hmin e.on ⟨by omega, hh⟩; omega
      rw [hD] at this; exact this
    rw [hnil] at hi; cases hi
   ·obtain ⟨hun, o, ho, hall⟩ := mem_ready.1 hi
    have hlt : i < ops.size := (Array.getElem?_eq_some_iff.1 ho).1
    have hl : i < listed.size := by omega
    have hDi : D i = false := by rw [hD]; simp [hl] at hun ⊢; exact hun
    have hot : ops.toList[i]? = some o := by simpa using ho
    obtain ⟨v, hv⟩ : ∃ v, vs[i]? = some v := ⟨vs[i]'(by omega), List.getElem?_eq_getElem (by omega)⟩
    have hwt : ∀ j ∈ waits o, D j = true := fun j hj => by
     unfold waits at hj
     obtain ⟨e, he, hb⟩ := List.mem_filterMap.1 hj
     split at hb
     ·rename_i hbb
      injection hb with hb; subst hb
      rw [hD]; exact hall e (by simpa using he) hbb
     ·cases hb
    obtain ⟨H', I', m', k1, k2, k3, k4, k5⟩ := hS
    have hs := hstep i o v hot hv D H' k1 hDi hwt
    have hlook : ∀ t ∈ o.looksAt ops, (gof g ops.toList vs 0 (fun j => decide (j < i)))[t]? = (gof g ops.toList vs 0 D)[t]? := fun t ht => by
     by_cases hwr : ∃ (j : Nat) (p : Oper), ops.toList[j]? = some p ∧ p.dst = some t
     ·obtain ⟨j, p, hj, hp⟩ := hwr
      have huniq : ∀ (k' : Nat) o', k' ≠ j → ops.toList[k']? = some o' → o'.dst ≠ some t := fun k' o' h1 h2 => (hw2 k' j o' p t h2 hj h1 hp).1
      obtain ⟨u, hu⟩ : ∃ u, vs[j]? = some u := by
       have : j < ops.size := by have := (List.getElem?_eq_some_iff.1 hj).1; simpa using this
       exact ⟨vs[j]'(by omega), List.getElem?_eq_getElem (by omega)⟩
      have hboth : D j = decide (j < i) := by
       by_cases hji : j = i
       ·subst hji; rw [hDi]; simp
       ·have h2 := (hw2 i j o p t hot hj (Ne.symm hji) hp).2 (by simpa using ht)
        by_cases hlt' : j < i
        ·rw [hwt j (h2.1 hlt')]; simp [hlt']
        ·have h3 := h2.2 (by omega)
         cases hh : D j with
         | false => simp [hlt']
         | true =>
          have := hcl j hh p (by simpa using hj) i h3
          rw [hDi] at this; cases this
      by_cases hlt' : j < i
      ·rw [gof_some _ _ _ _ _ t j p u hj hu hp (by simp [hlt']) huniq, gof_some _ _ _ _ _ t j p u hj hu hp (by rw [Nat.zero_add, hboth]; simp [hlt']) huniq]
      ·have hn : ∀ D' : Nat → Bool, D' j = false → (gof g ops.toList vs 0 D')[t]? = g[t]? := fun D' hD' => gof_none _ _ _ _ _ t fun k o' h1 h2 => by
        by_cases hk : k = j
        ·subst hk; rw [Nat.zero_add]; exact hD'
        ·exact (huniq k o' hk h1 h2).elim
       rw [hn _ (by simp [hlt']), hn D (by rw [hboth]; simp [hlt'])]
     ·have hn : ∀ D' : Nat → Bool, (gof g ops.toList vs 0 D')[t]? = g[t]? := fun D' => gof_none _ _ _ _ _ t fun k o' h1 h2 => (hwr ⟨k, o', h1, h2⟩).elim
      rw [hn, hn]
    have hs' : AOp P ops o (gof g ops.toList vs 0 D) H' (fun g' H'' => g' = put (gof g ops.toList vs 0 D) o.dst v ∧ C (Dset D i) H'') :=
     (hs.congr hlook).mono fun v' H'' ⟨e1, e2⟩ => ⟨by rw [e1], e2⟩
    refine wpOp_mono ?_ (aop_step k2 k3 k4 ho hs')
    rintro a2 w2 ⟨g2, H2, I2, m2, ⟨j1, j2⟩, j3, j4, j5, j6⟩
    subst j1
    have hput : put (gof g ops.toList vs 0 D) o.dst v = gof g ops.toList vs 0 (Dset D i) := by
     apply List.ext_getElem?
     intro t
     rw [put_get, gof_len]
     by_cases hdt : o.dst = some t
     ·rw [if_pos hdt, gof_some _ _ _ _ _ t i o v hot hv hdt (by simp [Dset]) fun k' o' h1 h2 => (hw2 k' i o' o t h2 hot h1 hdt).1]
     ·rw [if_neg hdt]
      by_cases hwr : ∃ (j : Nat) (p : Oper), ops.toList[j]? = some p ∧ p.dst = some t
      ·obtain ⟨j, p, hj, hp⟩ := hwr
       have hji : j ≠ i := fun e => by subst e; rw [hot] at hj; injection hj with hj; subst hj; exact hdt hp
       have huniq : ∀ (k' : Nat) o', k' ≠ j → ops.toList[k']? = some o' → o'.dst ≠ some t := fun k' o' h1 h2 => (hw2 k' j o' p t h2 hj h1 hp).1
       obtain ⟨u, hu⟩ : ∃ u, vs[j]? = some u := by
        have : j < ops.size := by have := (List.getElem?_eq_some_iff.1 hj).1; simpa using this
        exact ⟨vs[j]'(by omega), List.getElem?_eq_getElem (by omega)⟩
       have hDj : Dset D i j = D j := by simp [Dset, hji]
       cases hh : D j with
       | true => rw [gof_some _ _ _ _ _ t j p u hj hu hp (by rw [Nat.zero_add]; exact hh) huniq, gof_some _ _ _ _ _ t j p u hj hu hp (by rw [Nat.zero_add, hDj]; exact hh) huniq]
       | false =>
        have hn : ∀ D' : Nat → Bool, D' j = false → (gof g ops.toList vs 0 D')[t]? = g[t]? := fun D' hD' => gof_none _ _ _ _ _ t fun k o' h1 h2 => by
         by_cases hk : k = j
         ·subst hk; rw [Nat.zero_add]; exact hD'
         ·exact (huniq k o' hk h1 h2).elim
        rw [hn D hh, hn _ (by rw [hDj]; exact hh)]
      ·have hn : ∀ D' : Nat → Bool, (gof g ops.toList vs 0 D')[t]? = g[t]? := fun D' => gof_none _ _ _ _ _ t fun k o' h1 h2 => (hwr ⟨k, o', h1, h2⟩).elim
       rw [hn, hn]
    rw [hput] at j4
    refine ih (listed.setIfInBounds i true) (Dset D i) a2 w2 (by simp [hsz]) (fun j => ?_) (fun j hj p hp k hk => ?_) ?_ ⟨H2, I2, m2, j2, j3, j4, j5, k5.trans j6⟩
    ·by_cases hji : j = i
     ·subst hji; simp [Dset, hl]
     ·rw [getD_set_ne false (Ne.symm hji)]; simp [Dset, hji, hD]
    ·by_cases hji : j = i
     ·subst hji
      rw [ho] at hp; injection hp with hp; subst hp
      have := hwt k hk
      unfold Dset
      split
      ·rfl
      ·exact this
     ·have h1 : D j = true := by simpa [Dset, hji] using hj
      have := hcl j h1 p hp k hk
      unfold Dset
      split
      ·rfl
      ·exact this
    ·have := count_set D i (List.range ops.size) List.nodup_range (List.mem_range.2 hlt) hDi
     omega
 refine key ops.size (Array.replicate ops.size false) (fun _ => false) a _ (by simp) (fun i => by by_cases hi : i < ops.size <;> simp [hi]) (fun i h => by cases h) ?_ ⟨H, I, m, h0, HR.of_heap (w := w) (w' := { w with drawn := w.drawn + 1 }) rfl hr, ?_, hd, ⟨rfl, rfl, rfl, Nat.le_refl _, fun _ _ _ => rfl, fun _ h => h, fun _ h => .inl h, ⟨[], by simp⟩, fun _ h => .inl h⟩⟩
 ·simp
 ·rw [gof_all fun k => rfl]
  exact VRs.of_heap (w := w) (w' := { w with drawn := w.drawn + 1 }) rfl hg
end
end Go.Abs
