/- Part 26 of the texts that lead to stropheStanzasCard_holds. No condition. -/
import Derived.Test.YteoeioodocjbiaaGreatDoorH25
set_option linter.unusedSimpArgs false
set_option linter.unusedVariables false
set_option linter.unnecessarySimpa false
namespace Go.Proofs.YteoeioodocjbiaaGreatDoor
open Go Go.Abs
set_option maxRecDepth 100000 in
theorem chunk16 (l : List ByteArray) (n : Nat) (hn : 1 ≤ n) : AFn Tryz.prog 16 0 [.im l.length (strs l), .v (.int .i64 n)] [] (fun v Ho => v = .fn (.func 36) [] [.pt 0 0, .pt 1 0] ∧ Ho = [.cells 1 [.im l.length (strs l)], .cells 1 [.v (.int .i64 n)]]) := by
  refine callm16 ?_
  have h1 : ¬ ((n : Int) < 1) := by omega
  simp only [go_sem, seval, L16, h1]
  repeat' (first
      | ((first | ((first | refine LNext_if ?_ ?_ | refine ZNext_if ?_ ?_ | refine ZY_if ?_ ?_); (first | omega | exact True.intro | (simp only [go_sem, List.length_map, List.length_cons, List.length_nil, List.length_append, List.length_replicate, List.length_drop, List.length_take, List.length_set, Nat.reduceAdd, Nat.reduceMul, true_and, and_true]; omega) | (refine And.intro ?_ ?_ <;> first | omega | exact True.intro | (simp only [List.length_map, List.length_cons, List.length_nil, List.length_append, List.length_replicate, List.length_drop, List.length_take, List.length_set]; omega)))) | (refine And.intro ?_ ?_; (show okA _ _ _ _ = true); kernel_rfl) | refine MX_ok (l := .seq _ _) ?_ | refine MX_ok (l := .reg _) ?_ | refine MX_ok (l := .cond _ _ _) ?_ | refine MX_ok (l := .block _ _) ?_ | refine MX_ok (l := .ret) ?_ | refine MX_ok (l := .skip) ?_); (try simp only [go_sem, seval, h1]))
      | ((first | refine MCond_split ?_ ?_ | refine NCond_split ?_ ?_ | refine LGuard_split ?_ ?_ | refine ZG_split ?_ ?_) <;> (intro hc; (try simp only [go_sem, seval, hc, h1]); (try simp only [decide_eq_true_eq, decide_eq_false_iff_not, Bool.not_eq_true', Bool.not_eq_false', Bool.not_eq_true, Bool.not_eq_false, beq_iff_eq, bne_iff_ne, ne_eq, beq_eq_false_iff_ne, bne_eq_false_iff_eq, Int.not_lt, Int.not_le, gt_iff_lt, ge_iff_le, Decidable.not_not] at hc)))
      | (refine And.intro ?_ ?_))
  refine Fin_of ⟨rfl, rfl⟩ ?_; (refine VS_of [.old 0, .old 1] (by decide) ?_ ?_ (by decide); all_goals (repeat' (first | exact trivial | refine And.intro ?_ ?_ | exact ⟨rfl, rfl⟩ | exact Sg.any | ((first | refine ⟨_, rfl, ?_⟩ | refine ⟨_, .inl ⟨rfl, rfl⟩, ?_⟩ | refine ⟨_, .inr rfl, ?_⟩ | refine Sg.of ?_); (repeat' (first | (refine Sv.fn ?_ ?_) | ((first | refine Sv.cl (Cl.of ?_) | refine Svs.cl (Cls.of ?_)); simp only [go_sem, Bool.and_self, Bool.and_true]; done) | exact Sv.pt rfl | exact Sv.mp rfl | exact Sv.nil rfl | exact Sv.em rfl | (refine Sv.slE rfl ?_ ?_ <;> (first | rfl | omega | (simp only [go_sem]; done) | (simp [go_sem]; done) | (simp [go_sem]; omega))) | ((first | refine Sv.eq ?_ ?_ | refine Svs.eq ?_ ?_) <;> (first | rfl | omega | (simp only [go_sem]; done) | (simp [go_sem]; done) | (simp [go_sem]; omega))) | exact Sv.nil0 | exact Sv.em0 | exact Sv.sl0 | ((first | refine Sv.slFE (.inl ⟨rfl, rfl⟩) ?_ (Svs.eq ?_ ?_) | refine Sv.slFE (.inr rfl) ?_ (Svs.eq ?_ ?_)) <;> (first | rfl | omega | (simp only [go_sem]; done) | (simp [go_sem]; done) | (simp [go_sem]; omega))) | exact Svs.nilI | refine Svs.consI ?_ ?_ | refine Sv.tu ?_ | refine Sv.ag ?_)); done) | rfl)))
theorem okVs_strs (p : Nat → Bool) (l : List ByteArray) : okVs p (strs l) = true := by
  induction l with
  | nil => rfl
  | cons a l ih => show (okV p (.v (.string a)) && okVs p (strs l)) = true; rw [ih]; rfl
theorem okVs_dropS (p : Nat → Bool) (l : List ByteArray) (i : Nat) : okVs p ((strs l).drop i) = true := by
  have : (strs l).drop i = strs (l.drop i) := by simp [strs, List.map_drop]
  rw [this]; exact okVs_strs p _
noncomputable def c36_y : LC := .reg ([⟨some 19, Op.move (Operand.tmp 0), none⟩,
    ⟨some 20, Op.load 22 (Operand.tmp 1), none⟩,
    ⟨some 21, Op.move (Operand.tmp 4), none⟩,
    ⟨some 22, Op.move (Operand.tmp 4), none⟩,
    ⟨some 23, Op.move (Operand.tmp 5), none⟩,
    ⟨some 24, Op.binOp BinOp.add 3 (Operand.tmp 22) (Operand.tmp 23) 3, none⟩,
    ⟨some 25, Op.move (Operand.tmp 4), none⟩,
    ⟨some 26, Op.move (Operand.tmp 5), none⟩,
    ⟨some 27, Op.binOp BinOp.add 3 (Operand.tmp 25) (Operand.tmp 26) 3, none⟩,
    ⟨some 28, Op.slice 22 (Operand.tmp 20) (some (Operand.tmp 21)) (some (Operand.tmp 24)) (some (Operand.tmp 27)), none⟩,
    ⟨some 29, Op.call { callee := Callee.value (Operand.tmp 19), args := #[Operand.tmp 28], argTypes := #[22] }, none⟩,
    ⟨some 30, Op.unOp UnOp.not 4 (Operand.tmp 29), none⟩])
noncomputable def c36_h : LC := .seq (.reg [⟨some 6, Op.move (Operand.tmp 4), none⟩,
    ⟨some 7, Op.load 22 (Operand.tmp 1), none⟩,
    ⟨some 8, Op.call { callee := Callee.builtin Builtin.len, args := #[Operand.tmp 7], argTypes := #[22] }, none⟩,
    ⟨some 9, Op.binOp BinOp.lss 3 (Operand.tmp 6) (Operand.tmp 8) 3, none⟩]) (.cond (Operand.tmp 9) .skip (.exit 0))
noncomputable def c36_e : LC := .reg [⟨some 10, Op.move (Operand.tmp 4), none⟩,
    ⟨some 11, Op.load 3 (Operand.tmp 2), none⟩,
    ⟨some 12, Op.binOp BinOp.add 3 (Operand.tmp 10) (Operand.tmp 11) 3, none⟩,
    ⟨some 4, Op.assign (Operand.tmp 12), none⟩]
theorem body36 : ∃ c0 c1 c2 c3 c4 c5 : Code, Tryz.f36.body = some (.seq c0 (.block 0 (.loop (.seq c1 (.seq (.block 1 (.seq c2 (.seq c3 c4))) c5))))) ∧ low c0 = some (.reg [⟨some 4, Op.assign (Operand.const (Value.int IntKind.i64 0)), none⟩]) ∧ low c1 = some c36_h ∧ low c2 = some (.draw 3 d36_3) ∧ low c3 = some c36_y ∧ low c4 = some (.cond (Operand.tmp 30) .ret .skip) ∧ low c5 = some c36_e :=
  ⟨_, _, _, _, _, _, rfl, by kernel_rfl, by kernel_rfl, by kernel_rfl, by kernel_rfl, by kernel_rfl, by kernel_rfl⟩
def O5 (l : List ByteArray) (n k : Nat) : List AO := [.cells 1 [.im l.length (strs l)], .cells 1 [.v (.int .i64 n)], .cells 1 [.sl 3 0 k], .cells 1 (chs (chsOf n k l))]
def S36 (f : Nat) (k n : Nat) : List AV := [.fn (.yield f) [] [], .pt 0 0, .pt 1 0, .any, .v (.int .i64 (k * n : Nat)), .any, .any, .any, .any, .any, .any, .any, .any, .any, .any, .any, .any, .any, .any, .any, .any, .any, .any, .any, .any, .any, .any, .any, .any, .any, .any]
set_option maxRecDepth 100000 in
set_option maxHeartbeats 1000000 in
theorem iter36 {f : Nat} {rec : Loop} {g0 : List AV} (hg0 : okVs (fun j => Nat.blt j 3) g0 = true) (l : List ByteArray) (n q : Nat) (hn : 1 ≤ n) (hl : l.length = q * n) (hb : l.length ≤ 400)
    (hr : ∀ k, k < q → RdV Tryz.prog 3 f rec g0 [.im n (strs (piece n k l))] (O5 l n k) (O5 l n (k + 1))) {c : Code} (hc : Tryz.f36.body = some c) :
    YV Tryz.prog 3 f rec g0 c (fun e _ H => (e = .normal ∨ e = .ret) ∧ H = O5 l n q) ([.fn (.yield f) [] []] ++ [.pt 0 0, .pt 1 0] ++ List.replicate (31 - 3) (.v undef)) [.cells 1 [.im l.length (strs l)], .cells 1 [.v (.int .i64 n)], .cells 1 [.v (.slice none 0 0)]] := by
  obtain ⟨c0, c1, c2, c3, c4, c5, e, h0, h1, h2, h3, h4, h5⟩ := body36
  obtain rfl : _ = c := Option.some.inj (e.symm.trans hc)
  clear e hc
  refine YV_seq hg0 (YV.of_MW h0 (MX_ok ?_))
  simp only [go_sem, seval]
  refine YV.vs hg0 (g2 := S36 f 0 n) (H2 := O5 l n 0) ?_ ?_
  · unfold O5
    (refine VS_of [.old 0, .old 1, .old 2, .new 1] (by decide) ?_ ?_ (by decide); all_goals (repeat' (first | exact trivial | refine And.intro ?_ ?_ | exact ⟨rfl, rfl⟩ | exact Sg.any | ((first | refine ⟨_, rfl, ?_⟩ | refine ⟨_, .inl ⟨rfl, rfl⟩, ?_⟩ | refine ⟨_, .inr rfl, ?_⟩ | refine Sg.of ?_); (repeat' (first | ((first | refine Sv.cl (Cl.of ?_) | refine Svs.cl (Cls.of ?_)); simp only [go_sem, Bool.and_self, Bool.and_true]; done) | exact Sv.pt rfl | exact Sv.mp rfl | exact Sv.nil rfl | exact Sv.em rfl | (refine Sv.slE rfl ?_ ?_ <;> (first | rfl | omega | (simp only [Nat.zero_mul]; done) | (simp only [go_sem, Nat.zero_mul]; done) | (simp [Nat.zero_mul]; done) | (simp [Nat.zero_mul]; omega))) | ((first | refine Sv.eq ?_ ?_ | refine Svs.eq ?_ ?_) <;> (first | rfl | omega | (simp only [Nat.zero_mul]; done) | (simp only [go_sem, Nat.zero_mul]; done) | (simp [Nat.zero_mul]; done) | (simp [Nat.zero_mul]; omega))) | exact Sv.nil0 | exact Sv.em0 | exact Sv.sl0 | ((first | refine Sv.slFE (.inl ⟨rfl, rfl⟩) ?_ (Svs.eq ?_ ?_) | refine Sv.slFE (.inr rfl) ?_ (Svs.eq ?_ ?_)) <;> (first | rfl | omega | (simp only [Nat.zero_mul]; done) | (simp only [go_sem, Nat.zero_mul]; done) | (simp [Nat.zero_mul]; done) | (simp [Nat.zero_mul]; omega))) | exact Svs.nilI | refine Svs.consI ?_ ?_ | refine Sv.tu ?_ | refine Sv.ag ?_)); done) | rfl)))
  refine YV_block (YV_loop hg0 (fun j g H => ∃ k, j = q - k ∧ k ≤ q ∧ g = S36 f k n ∧ H = O5 l n k) q ⟨0, rfl, Nat.zero_le _, rfl, rfl⟩ ?_)
  rintro j _ _ ⟨k, rfl, hk, rfl, rfl⟩
  rcases Nat.lt_or_ge k q with hi | hi
  · have hi' : ((k * n : Nat) : Int) < l.length := by rw [hl]; exact mul_lt hi hn
    have hb := below_mul (n := n) hi
    have hmin : (((l.length - k * n : Nat) : Int) < (n : Int)) = False := by simp only [eq_iff_iff, iff_false]; omega
    have hw : IntKind.wrap .i64 (((k * n : Nat) : Int) + (n : Int)) = ((k * n + n : Nat) : Int) := by rw [wrapI (by omega) (by omega)]; rfl
    refine YV_seq hg0 (YV.of_MW h1 (MX_ok ?_))
    simp only [go_sem, seval, c36_h, S36, O5, hi']
    refine YV_seq hg0 (YV_block (YV_seq hg0 (YV.of_MW h2 ?_)))
    have q1 : (0 ≤ ((k * n : Nat) : Int) ∧ ((k * n : Nat) : Int) ≤ (l.length : Int)) = True := by simp only [eq_iff_iff, iff_true]; omega
    have q2 : (k * n = l.length) = False := by simp only [eq_iff_iff, iff_false]; omega
    repeat' (first
        | ((first | ((first | refine LNext_if ?_ ?_ | refine ZNext_if ?_ ?_ | refine ZY_if ?_ ?_); (first | omega | exact True.intro | (simp only [go_sem, List.length_map, List.length_cons, List.length_nil, List.length_append, List.length_replicate, List.length_drop, List.length_take, List.length_set, Nat.reduceAdd, Nat.reduceMul, true_and, and_true]; omega) | (refine And.intro ?_ ?_ <;> first | omega | exact True.intro | (simp only [List.length_map, List.length_cons, List.length_nil, List.length_append, List.length_replicate, List.length_drop, List.length_take, List.length_set]; omega)))) | (refine And.intro ?_ ?_; (show okA _ _ _ _ = true); kernel_rfl) | refine MW_still dl36_3 mixedP dx36_3 ?_ | refine MX_ok (l := .seq _ _) ?_ | refine MX_ok (l := .reg _) ?_ | refine MX_ok (l := .cond _ _ _) ?_ | refine MX_ok (l := .block _ _) ?_ | refine MX_ok (l := .ret) ?_ | refine MX_ok (l := .skip) ?_); (try simp only [go_sem, seval, l36_3, Int.toNat_natCast, hmin, hi', q1, q2, if_true, if_false, Option.map_some]))
        | ((first | refine MCond_split ?_ ?_ | refine NCond_split ?_ ?_ | refine LGuard_split ?_ ?_ | refine ZG_split ?_ ?_) <;> (intro hc; (try simp only [go_sem, seval, hc, l36_3, Int.toNat_natCast, hmin, hi', q1, q2, if_true, if_false, Option.map_some]); (try simp only [decide_eq_true_eq, decide_eq_false_iff_not, Bool.not_eq_true', Bool.not_eq_false', Bool.not_eq_true, Bool.not_eq_false, beq_iff_eq, bne_iff_ne, ne_eq, beq_eq_false_iff_ne, bne_eq_false_iff_eq, Int.not_lt, Int.not_le, gt_iff_lt, ge_iff_le, Decidable.not_not] at hc)))
        | (refine And.intro ?_ ?_))
    refine YV_seq hg0 (YV_reg_y h3 10 rfl ?_)
    refine RegS_at 9 rfl (by simp) ?_
    simp only [go_sem, seval, List.take_succ_cons, List.take_zero, hw]
    refine ⟨_, _, OpSem.slice3 (l := k * n) (u := k * n + n) ti22 ti9 rfl rfl rfl rfl rfl (by omega) (by omega), RegS_ops ?_⟩
    rw [Nat.add_sub_cancel_left, strs_piece]
    simp only [go_sem, seval]
    refine ⟨by simp only [okVs, okV, okVs_strs, okVs_dropS, Bool.and_self, Bool.and_true]; decide, O5 l n (k + 1), hr k hi, RegS_ops ?_⟩
    simp only [go_sem, seval]
    refine YV.of_MW h4 (MX_ok ?_)
    simp only [go_sem, seval]
    refine YV.of_MW h5 (MX_ok ?_)
    simp only [go_sem, seval, c36_e, O5, hw]
    refine ⟨q - (k + 1), _, _, by omega, ⟨k + 1, rfl, by omega, rfl, rfl⟩, ?_⟩
    (refine VS_of [.old 0, .old 1, .old 2, .old 3] (by decide) ?_ ?_ (by decide); all_goals (repeat' (first | exact trivial | refine And.intro ?_ ?_ | exact ⟨rfl, rfl⟩ | exact Sg.any | ((first | refine ⟨_, rfl, ?_⟩ | refine ⟨_, .inl ⟨rfl, rfl⟩, ?_⟩ | refine ⟨_, .inr rfl, ?_⟩ | refine Sg.of ?_); (repeat' (first | ((first | refine Sv.cl (Cl.of ?_) | refine Svs.cl (Cls.of ?_)); simp only [go_sem, Bool.and_self, Bool.and_true]; done) | exact Sv.pt rfl | exact Sv.mp rfl | exact Sv.nil rfl | exact Sv.em rfl | (refine Sv.slE rfl ?_ ?_ <;> (first | rfl | omega | (simp only [Nat.succ_mul]; done) | (simp only [go_sem, Nat.succ_mul]; done) | (simp [Nat.succ_mul]; done) | (simp [Nat.succ_mul]; omega))) | ((first | refine Sv.eq ?_ ?_ | refine Svs.eq ?_ ?_) <;> (first | rfl | omega | (simp only [Nat.succ_mul]; done) | (simp only [go_sem, Nat.succ_mul]; done) | (simp [Nat.succ_mul]; done) | (simp [Nat.succ_mul]; omega))) | exact Sv.nil0 | exact Sv.em0 | exact Sv.sl0 | ((first | refine Sv.slFE (.inl ⟨rfl, rfl⟩) ?_ (Svs.eq ?_ ?_) | refine Sv.slFE (.inr rfl) ?_ (Svs.eq ?_ ?_)) <;> (first | rfl | omega | (simp only [Nat.succ_mul]; done) | (simp only [go_sem, Nat.succ_mul]; done) | (simp [Nat.succ_mul]; done) | (simp [Nat.succ_mul]; omega))) | exact Svs.nilI | refine Svs.consI ?_ ?_ | refine Sv.tu ?_ | refine Sv.ag ?_)); done) | rfl)))
  · have hk' : k = q := by omega
    subst hk'
    have hi' : ¬ ((k * n : Nat) : Int) < l.length := by omega
    refine YV_seq hg0 (YV.of_MW h1 (MX_ok ?_))
    simp only [go_sem, seval, c36_h, S36, O5, hi']
    exact .inl trivial
def S5 (l : List ByteArray) (n : Nat) : List AV := [.im l.length (strs l), .v (.int .i64 n), .any, .any, .any, .any, .pt 2 0, .any, .any, .any, .any, .any, .any, .any, .any, .any, .any, .any, .any, .any, .any, .any, .any, .any, .any, .any, .any, .any, .any, .any, .any, .fn (.func 36) [] [.pt 0 0, .pt 1 0], .any, .any, .any, .any, .any, .any, .any]
set_option maxRecDepth 100000 in
set_option maxHeartbeats 1000000 in
theorem round5 {f : Nat} {rec : Loop} {c4 c5 : Code} (h4 : low c4 = some L5_p4) (h5 : low c5 = some L5_p5) (r1 : rec.state = .ready) (r2 : rec.pending = none) (r3 : rec.params = #[32]) (r4 : rec.assign = c4) (r5 : rec.body = c5) (l : List ByteArray) (n q : Nat) (hn : 1 ≤ n) (hl : l.length = q * n) (hb : l.length ≤ 400) (k : Nat) (hk : k < q) :
    RdV Tryz.prog 3 f rec (S5 l n) [.im n (strs (piece n k l))] (O5 l n k) (O5 l n (k + 1)) := by
  have hbm := below_mul (n := n) hk
  have hk9 : k ≤ k * n := Nat.le_mul_of_pos_right k hn
  have hpl : (piece n k l).length = n := piece_len (by omega)
  have c6 := clone6 (piece n k l) (by omega)
  rw [hpl] at c6
  refine RdV_of_BW r1 r2 (Q1 := fun g1 H1 => g1 = ((S5 l n).set 32 (.im n (strs (piece n k l)))).set 7 (.im n (strs (piece n k l))) ∧ H1 = O5 l n k) (by rw [r3]; rfl) ?_ ?_
  · rw [r4, r3]
    refine (MX_ok (l := L5_p4) ?_) c4 h4
    show MX Tryz.prog 3 L5_p4 _ ((S5 l n).set 32 (.im n (strs (piece n k l)))) (O5 l n k)
    simp only [go_sem, seval, L5_p4, S5, O5]
  · rintro g1 H1 ⟨rfl, rfl⟩
    rw [r5]
    refine (MW.post (Q := fun e g H => e = .normal ∧ VS 3 g H (List.replicate 39 .any) (O5 l n (k + 1))) ?_ fun e g H ⟨h1, h2⟩ => ⟨_, _, h2, h1, rfl⟩) c5 h5
    refine MX_ok ?_
    simp only [go_sem, seval, L5_p5, S5, O5]
    repeat' (first
        | ((first | (refine ZC_pure (LCl_cl (c6) ?_ ?_) ?_ ?_; iterate 3 (simp only [go_sem, Bool.and_self, Bool.and_true])) | (refine MW_dy dl5_12 mixedP dx5_12 ax5_12 4 ?_ ?_; (first | exact Nat.zero_le _ | (simp only [go_sem, List.length_cons, List.length_nil, Nat.reduceAdd, Nat.reduceLeDiff]; done) | (simp only [go_sem]; omega))) | ((first | refine LNext_if ?_ ?_ | refine ZNext_if ?_ ?_ | refine ZY_if ?_ ?_); (first | omega | exact True.intro | (simp only [go_sem, List.length_map, List.length_cons, List.length_nil, List.length_append, List.length_replicate, List.length_drop, List.length_take, List.length_set, Nat.reduceAdd, Nat.reduceMul, true_and, and_true]; omega) | (refine And.intro ?_ ?_ <;> first | omega | exact True.intro | (simp only [List.length_map, List.length_cons, List.length_nil, List.length_append, List.length_replicate, List.length_drop, List.length_take, List.length_set]; omega)))) | (refine And.intro ?_ ?_; (show okA _ _ _ _ = true); kernel_rfl) | refine MX_ok (l := .seq _ _) ?_ | refine MX_ok (l := .reg _) ?_ | refine MX_ok (l := .cond _ _ _) ?_ | refine MX_ok (l := .block _ _) ?_ | refine MX_ok (l := .ret) ?_ | refine MX_ok (l := .skip) ?_); (try simp only [go_sem, seval, l5_12]))
        | ((first | refine MCond_split ?_ ?_ | refine NCond_split ?_ ?_ | refine LGuard_split ?_ ?_ | refine ZG_split ?_ ?_) <;> (intro hc; (try simp only [go_sem, seval, hc, l5_12]); (try simp only [decide_eq_true_eq, decide_eq_false_iff_not, Bool.not_eq_true', Bool.not_eq_false', Bool.not_eq_true, Bool.not_eq_false, beq_iff_eq, bne_iff_ne, ne_eq, beq_eq_false_iff_ne, bne_eq_false_iff_eq, Int.not_lt, Int.not_le, gt_iff_lt, ge_iff_le, Decidable.not_not] at hc)))
        | (refine And.intro ?_ ?_))
    (refine VS_of [.old 0, .old 1, .old 2, .old 5] (by decide) ?_ ?_ (by decide); all_goals (repeat' (first | exact trivial | refine And.intro ?_ ?_ | exact ⟨rfl, rfl⟩ | exact Sg.any | ((first | refine ⟨_, rfl, ?_⟩ | refine ⟨_, .inl ⟨rfl, rfl⟩, ?_⟩ | refine ⟨_, .inr rfl, ?_⟩ | refine Sg.of ?_); (repeat' (first | ((first | refine Sv.cl (Cl.of ?_) | refine Svs.cl (Cls.of ?_)); simp only [go_sem, Bool.and_self, Bool.and_true]; done) | exact Sv.pt rfl | exact Sv.mp rfl | exact Sv.nil rfl | exact Sv.em rfl | (refine Sv.slE rfl ?_ ?_ <;> (first | rfl | omega | (simp only [chs_snocN hpl]; done) | (simp only [go_sem, chs_snocN hpl]; done) | (simp [chs_snocN hpl]; done) | (simp [chs_snocN hpl]; omega))) | ((first | refine Sv.eq ?_ ?_ | refine Svs.eq ?_ ?_) <;> (first | rfl | omega | (simp only [chs_snocN hpl]; done) | (simp only [go_sem, chs_snocN hpl]; done) | (simp [chs_snocN hpl]; done) | (simp [chs_snocN hpl]; omega))) | exact Sv.nil0 | exact Sv.em0 | exact Sv.sl0 | ((first | refine Sv.slFE (.inl ⟨rfl, rfl⟩) ?_ (Svs.eq ?_ ?_) | refine Sv.slFE (.inr rfl) ?_ (Svs.eq ?_ ?_)) <;> (first | rfl | omega | (simp only [chs_snocN hpl]; done) | (simp only [go_sem, chs_snocN hpl]; done) | (simp [chs_snocN hpl]; done) | (simp [chs_snocN hpl]; omega))) | exact Svs.nilI | refine Svs.consI ?_ ?_ | refine Sv.tu ?_ | refine Sv.ag ?_)); done) | rfl)))
theorem name5 : (Tryz.f5.name == "runtime.NumGoroutine") = false := by kernel_rfl
theorem name36 : (Tryz.f36.name == "runtime.NumGoroutine") = false := by kernel_rfl
set_option maxRecDepth 100000 in
set_option maxHeartbeats 2000000 in
theorem stanzas5 (l : List ByteArray) (z : Int) : APure Tryz.prog 5 [.im l.length (strs l), .v (.int .i64 z)] (.tu [stV l z, .v (.int .i64 (stE l z))]) := by
  obtain ⟨c0, c1, c2, c3, c4, c5, c6, e, h0, h1, h2, h3, h4, h5, h6⟩ := body5
  refine APure_of (AFn_of_BT Tryz.func5 e name5 ?_)
  show BT Tryz.prog 0 _ (endM Tryz.prog 0 [ResultVar.tmp 4, ResultVar.tmp 5] _) ([.im l.length (strs l), .v (.int .i64 z)] ++ List.replicate (39 - 2) (.v undef)) []
  clear e
  refine BT_seq (BT.of_MW h0 fun D => MX_ok ?_)
  simp only [go_sem, seval, L5_p0]
  refine BT_seq (BT.of_MW h1 fun D => MX_ok ?_)
  by_cases e1 : l.length = 0
  · have e : stE l z = 7 := by simp [stE, e1]
    have e1' : ((l.length : Int) == 0) = true := by simp [e1]
    rw [stV, e, if_neg (by decide)]
    simp only [go_sem, seval, L5_p1, e1']
    repeat' (first
        | ((first | ((first | refine LNext_if ?_ ?_ | refine ZNext_if ?_ ?_ | refine ZY_if ?_ ?_); (first | omega | exact True.intro | (simp only [go_sem, List.length_map, List.length_cons, List.length_nil, List.length_append, List.length_replicate, List.length_drop, List.length_take, List.length_set, Nat.reduceAdd, Nat.reduceMul, true_and, and_true]; omega) | (refine And.intro ?_ ?_ <;> first | omega | exact True.intro | (simp only [List.length_map, List.length_cons, List.length_nil, List.length_append, List.length_replicate, List.length_drop, List.length_take, List.length_set]; omega)))) | (refine And.intro ?_ ?_; (show okA _ _ _ _ = true); kernel_rfl) | refine MX_ok (l := .seq _ _) ?_ | refine MX_ok (l := .reg _) ?_ | refine MX_ok (l := .cond _ _ _) ?_ | refine MX_ok (l := .block _ _) ?_ | refine MX_ok (l := .ret) ?_ | refine MX_ok (l := .skip) ?_); (try simp only [go_sem, seval, e1']))
        | ((first | refine MCond_split ?_ ?_ | refine NCond_split ?_ ?_ | refine LGuard_split ?_ ?_ | refine ZG_split ?_ ?_) <;> (intro hc; (try simp only [go_sem, seval, hc, e1']); (try simp only [decide_eq_true_eq, decide_eq_false_iff_not, Bool.not_eq_true', Bool.not_eq_false', Bool.not_eq_true, Bool.not_eq_false, beq_iff_eq, bne_iff_ne, ne_eq, beq_eq_false_iff_ne, bne_eq_false_iff_eq, Int.not_lt, Int.not_le, gt_iff_lt, ge_iff_le, Decidable.not_not] at hc)))
        | (refine And.intro ?_ ?_))
    refine Fin_of ⟨rfl, rfl⟩ ?_; (refine VS_of [] (by decide) ?_ ?_ (by decide); all_goals (repeat' (first | exact trivial | refine And.intro ?_ ?_ | exact ⟨rfl, rfl⟩ | exact Sg.any | ((first | refine ⟨_, rfl, ?_⟩ | refine ⟨_, .inl ⟨rfl, rfl⟩, ?_⟩ | refine ⟨_, .inr rfl, ?_⟩ | refine Sg.of ?_); (repeat' (first | ((first | refine Sv.cl (Cl.of ?_) | refine Svs.cl (Cls.of ?_)); simp only [go_sem, Bool.and_self, Bool.and_true]; done) | exact Sv.pt rfl | exact Sv.mp rfl | exact Sv.nil rfl | exact Sv.em rfl | (refine Sv.slE rfl ?_ ?_ <;> (first | rfl | omega | (simp only [go_sem]; done) | (simp [go_sem]; done) | (simp [go_sem]; omega))) | ((first | refine Sv.eq ?_ ?_ | refine Svs.eq ?_ ?_) <;> (first | rfl | omega | (simp only [go_sem]; done) | (simp [go_sem]; done) | (simp [go_sem]; omega))) | exact Sv.nil0 | exact Sv.em0 | exact Sv.sl0 | ((first | refine Sv.slFE (.inl ⟨rfl, rfl⟩) ?_ (Svs.eq ?_ ?_) | refine Sv.slFE (.inr rfl) ?_ (Svs.eq ?_ ?_)) <;> (first | rfl | omega | (simp only [go_sem]; done) | (simp [go_sem]; done) | (simp [go_sem]; omega))) | exact Svs.nilI | refine Svs.consI ?_ ?_ | refine Sv.tu ?_ | refine Sv.ag ?_)); done) | rfl)))
  have e1' : ((l.length : Int) == 0) = false := by rw [beq_eq_false_iff_ne]; omega
  by_cases e2 : (400 : Int) < l.length
  · have e : stE l z = 3 := by simp [stE, e1, e2]
    rw [stV, e, if_neg (by decide)]
    simp only [go_sem, seval, L5_p1, e1', e2]
    repeat' (first
        | ((first | ((first | refine LNext_if ?_ ?_ | refine ZNext_if ?_ ?_ | refine ZY_if ?_ ?_); (first | omega | exact True.intro | (simp only [go_sem, List.length_map, List.length_cons, List.length_nil, List.length_append, List.length_replicate, List.length_drop, List.length_take, List.length_set, Nat.reduceAdd, Nat.reduceMul, true_and, and_true]; omega) | (refine And.intro ?_ ?_ <;> first | omega | exact True.intro | (simp only [List.length_map, List.length_cons, List.length_nil, List.length_append, List.length_replicate, List.length_drop, List.length_take, List.length_set]; omega)))) | (refine And.intro ?_ ?_; (show okA _ _ _ _ = true); kernel_rfl) | refine MX_ok (l := .seq _ _) ?_ | refine MX_ok (l := .reg _) ?_ | refine MX_ok (l := .cond _ _ _) ?_ | refine MX_ok (l := .block _ _) ?_ | refine MX_ok (l := .ret) ?_ | refine MX_ok (l := .skip) ?_); (try simp only [go_sem, seval, e1', e2]))
        | ((first | refine MCond_split ?_ ?_ | refine NCond_split ?_ ?_ | refine LGuard_split ?_ ?_ | refine ZG_split ?_ ?_) <;> (intro hc; (try simp only [go_sem, seval, hc, e1', e2]); (try simp only [decide_eq_true_eq, decide_eq_false_iff_not, Bool.not_eq_true', Bool.not_eq_false', Bool.not_eq_true, Bool.not_eq_false, beq_iff_eq, bne_iff_ne, ne_eq, beq_eq_false_iff_ne, bne_eq_false_iff_eq, Int.not_lt, Int.not_le, gt_iff_lt, ge_iff_le, Decidable.not_not] at hc)))
        | (refine And.intro ?_ ?_))
    refine Fin_of ⟨rfl, rfl⟩ ?_; (refine VS_of [] (by decide) ?_ ?_ (by decide); all_goals (repeat' (first | exact trivial | refine And.intro ?_ ?_ | exact ⟨rfl, rfl⟩ | exact Sg.any | ((first | refine ⟨_, rfl, ?_⟩ | refine ⟨_, .inl ⟨rfl, rfl⟩, ?_⟩ | refine ⟨_, .inr rfl, ?_⟩ | refine Sg.of ?_); (repeat' (first | ((first | refine Sv.cl (Cl.of ?_) | refine Svs.cl (Cls.of ?_)); simp only [go_sem, Bool.and_self, Bool.and_true]; done) | exact Sv.pt rfl | exact Sv.mp rfl | exact Sv.nil rfl | exact Sv.em rfl | (refine Sv.slE rfl ?_ ?_ <;> (first | rfl | omega | (simp only [go_sem]; done) | (simp [go_sem]; done) | (simp [go_sem]; omega))) | ((first | refine Sv.eq ?_ ?_ | refine Svs.eq ?_ ?_) <;> (first | rfl | omega | (simp only [go_sem]; done) | (simp [go_sem]; done) | (simp [go_sem]; omega))) | exact Sv.nil0 | exact Sv.em0 | exact Sv.sl0 | ((first | refine Sv.slFE (.inl ⟨rfl, rfl⟩) ?_ (Svs.eq ?_ ?_) | refine Sv.slFE (.inr rfl) ?_ (Svs.eq ?_ ?_)) <;> (first | rfl | omega | (simp only [go_sem]; done) | (simp [go_sem]; done) | (simp [go_sem]; omega))) | exact Svs.nilI | refine Svs.consI ?_ ?_ | refine Sv.tu ?_ | refine Sv.ag ?_)); done) | rfl)))
  by_cases e3 : z < 1
  · have e : stE l z = 6 := by simp [stE, e1, e2, e3]
    rw [stV, e, if_neg (by decide)]
    simp only [go_sem, seval, L5_p1, e1', e2, e3]
    repeat' (first
        | ((first | ((first | refine LNext_if ?_ ?_ | refine ZNext_if ?_ ?_ | refine ZY_if ?_ ?_); (first | omega | exact True.intro | (simp only [go_sem, List.length_map, List.length_cons, List.length_nil, List.length_append, List.length_replicate, List.length_drop, List.length_take, List.length_set, Nat.reduceAdd, Nat.reduceMul, true_and, and_true]; omega) | (refine And.intro ?_ ?_ <;> first | omega | exact True.intro | (simp only [List.length_map, List.length_cons, List.length_nil, List.length_append, List.length_replicate, List.length_drop, List.length_take, List.length_set]; omega)))) | (refine And.intro ?_ ?_; (show okA _ _ _ _ = true); kernel_rfl) | refine MX_ok (l := .seq _ _) ?_ | refine MX_ok (l := .reg _) ?_ | refine MX_ok (l := .cond _ _ _) ?_ | refine MX_ok (l := .block _ _) ?_ | refine MX_ok (l := .ret) ?_ | refine MX_ok (l := .skip) ?_); (try simp only [go_sem, seval, e1', e2, e3]))
        | ((first | refine MCond_split ?_ ?_ | refine NCond_split ?_ ?_ | refine LGuard_split ?_ ?_ | refine ZG_split ?_ ?_) <;> (intro hc; (try simp only [go_sem, seval, hc, e1', e2, e3]); (try simp only [decide_eq_true_eq, decide_eq_false_iff_not, Bool.not_eq_true', Bool.not_eq_false', Bool.not_eq_true, Bool.not_eq_false, beq_iff_eq, bne_iff_ne, ne_eq, beq_eq_false_iff_ne, bne_eq_false_iff_eq, Int.not_lt, Int.not_le, gt_iff_lt, ge_iff_le, Decidable.not_not] at hc)))
        | (refine And.intro ?_ ?_))
    refine Fin_of ⟨rfl, rfl⟩ ?_; (refine VS_of [] (by decide) ?_ ?_ (by decide); all_goals (repeat' (first | exact trivial | refine And.intro ?_ ?_ | exact ⟨rfl, rfl⟩ | exact Sg.any | ((first | refine ⟨_, rfl, ?_⟩ | refine ⟨_, .inl ⟨rfl, rfl⟩, ?_⟩ | refine ⟨_, .inr rfl, ?_⟩ | refine Sg.of ?_); (repeat' (first | ((first | refine Sv.cl (Cl.of ?_) | refine Svs.cl (Cls.of ?_)); simp only [go_sem, Bool.and_self, Bool.and_true]; done) | exact Sv.pt rfl | exact Sv.mp rfl | exact Sv.nil rfl | exact Sv.em rfl | (refine Sv.slE rfl ?_ ?_ <;> (first | rfl | omega | (simp only [go_sem]; done) | (simp [go_sem]; done) | (simp [go_sem]; omega))) | ((first | refine Sv.eq ?_ ?_ | refine Svs.eq ?_ ?_) <;> (first | rfl | omega | (simp only [go_sem]; done) | (simp [go_sem]; done) | (simp [go_sem]; omega))) | exact Sv.nil0 | exact Sv.em0 | exact Sv.sl0 | ((first | refine Sv.slFE (.inl ⟨rfl, rfl⟩) ?_ (Svs.eq ?_ ?_) | refine Sv.slFE (.inr rfl) ?_ (Svs.eq ?_ ?_)) <;> (first | rfl | omega | (simp only [go_sem]; done) | (simp [go_sem]; done) | (simp [go_sem]; omega))) | exact Svs.nilI | refine Svs.consI ?_ ?_ | refine Sv.tu ?_ | refine Sv.ag ?_)); done) | rfl)))
  by_cases e4 : 20 < z
  · have e : stE l z = 6 := by simp [stE, e1, e2, e4]
    rw [stV, e, if_neg (by decide)]
    simp only [go_sem, seval, L5_p1, e1', e2, e3, e4]
    repeat' (first
        | ((first | ((first | refine LNext_if ?_ ?_ | refine ZNext_if ?_ ?_ | refine ZY_if ?_ ?_); (first | omega | exact True.intro | (simp only [go_sem, List.length_map, List.length_cons, List.length_nil, List.length_append, List.length_replicate, List.length_drop, List.length_take, List.length_set, Nat.reduceAdd, Nat.reduceMul, true_and, and_true]; omega) | (refine And.intro ?_ ?_ <;> first | omega | exact True.intro | (simp only [List.length_map, List.length_cons, List.length_nil, List.length_append, List.length_replicate, List.length_drop, List.length_take, List.length_set]; omega)))) | (refine And.intro ?_ ?_; (show okA _ _ _ _ = true); kernel_rfl) | refine MX_ok (l := .seq _ _) ?_ | refine MX_ok (l := .reg _) ?_ | refine MX_ok (l := .cond _ _ _) ?_ | refine MX_ok (l := .block _ _) ?_ | refine MX_ok (l := .ret) ?_ | refine MX_ok (l := .skip) ?_); (try simp only [go_sem, seval, e1', e2, e3, e4]))
        | ((first | refine MCond_split ?_ ?_ | refine NCond_split ?_ ?_ | refine LGuard_split ?_ ?_ | refine ZG_split ?_ ?_) <;> (intro hc; (try simp only [go_sem, seval, hc, e1', e2, e3, e4]); (try simp only [decide_eq_true_eq, decide_eq_false_iff_not, Bool.not_eq_true', Bool.not_eq_false', Bool.not_eq_true, Bool.not_eq_false, beq_iff_eq, bne_iff_ne, ne_eq, beq_eq_false_iff_ne, bne_eq_false_iff_eq, Int.not_lt, Int.not_le, gt_iff_lt, ge_iff_le, Decidable.not_not] at hc)))
        | (refine And.intro ?_ ?_))
    refine Fin_of ⟨rfl, rfl⟩ ?_; (refine VS_of [] (by decide) ?_ ?_ (by decide); all_goals (repeat' (first | exact trivial | refine And.intro ?_ ?_ | exact ⟨rfl, rfl⟩ | exact Sg.any | ((first | refine ⟨_, rfl, ?_⟩ | refine ⟨_, .inl ⟨rfl, rfl⟩, ?_⟩ | refine ⟨_, .inr rfl, ?_⟩ | refine Sg.of ?_); (repeat' (first | ((first | refine Sv.cl (Cl.of ?_) | refine Svs.cl (Cls.of ?_)); simp only [go_sem, Bool.and_self, Bool.and_true]; done) | exact Sv.pt rfl | exact Sv.mp rfl | exact Sv.nil rfl | exact Sv.em rfl | (refine Sv.slE rfl ?_ ?_ <;> (first | rfl | omega | (simp only [go_sem]; done) | (simp [go_sem]; done) | (simp [go_sem]; omega))) | ((first | refine Sv.eq ?_ ?_ | refine Svs.eq ?_ ?_) <;> (first | rfl | omega | (simp only [go_sem]; done) | (simp [go_sem]; done) | (simp [go_sem]; omega))) | exact Sv.nil0 | exact Sv.em0 | exact Sv.sl0 | ((first | refine Sv.slFE (.inl ⟨rfl, rfl⟩) ?_ (Svs.eq ?_ ?_) | refine Sv.slFE (.inr rfl) ?_ (Svs.eq ?_ ?_)) <;> (first | rfl | omega | (simp only [go_sem]; done) | (simp [go_sem]; done) | (simp [go_sem]; omega))) | exact Svs.nilI | refine Svs.consI ?_ ?_ | refine Sv.tu ?_ | refine Sv.ag ?_)); done) | rfl)))
  have z0 : ¬ z = 0 := by omega
  by_cases e5 : (l.length : Int).tmod z = 0
  · have e : stE l z = 0 := stE_ok e1 e2 e3 e4 e5
    rw [stV, e, if_pos rfl]
    obtain ⟨n, q, rfl, hn, hl, hq, hz⟩ := st_parts e3 e5
    rw [hq, hz]
    simp only [go_sem, seval, L5_p1, e1', e2, e3, e4, e5, z0, if_false, Option.map_some]
    repeat' (first
        | ((first | ((first | refine LNext_if ?_ ?_ | refine ZNext_if ?_ ?_ | refine ZY_if ?_ ?_); (first | omega | exact True.intro | (simp only [go_sem, List.length_map, List.length_cons, List.length_nil, List.length_append, List.length_replicate, List.length_drop, List.length_take, List.length_set, Nat.reduceAdd, Nat.reduceMul, true_and, and_true]; omega) | (refine And.intro ?_ ?_ <;> first | omega | exact True.intro | (simp only [List.length_map, List.length_cons, List.length_nil, List.length_append, List.length_replicate, List.length_drop, List.length_take, List.length_set]; omega)))) | (refine And.intro ?_ ?_; (show okA _ _ _ _ = true); kernel_rfl) | refine MX_ok (l := .seq _ _) ?_ | refine MX_ok (l := .reg _) ?_ | refine MX_ok (l := .cond _ _ _) ?_ | refine MX_ok (l := .block _ _) ?_ | refine MX_ok (l := .ret) ?_ | refine MX_ok (l := .skip) ?_); (try simp only [go_sem, seval, e1', e2, e3, e4, e5, z0, if_false, Option.map_some]))
        | ((first | refine MCond_split ?_ ?_ | refine NCond_split ?_ ?_ | refine LGuard_split ?_ ?_ | refine ZG_split ?_ ?_) <;> (intro hc; (try simp only [go_sem, seval, hc, e1', e2, e3, e4, e5, z0, if_false, Option.map_some]); (try simp only [decide_eq_true_eq, decide_eq_false_iff_not, Bool.not_eq_true', Bool.not_eq_false', Bool.not_eq_true, Bool.not_eq_false, beq_iff_eq, bne_iff_ne, ne_eq, beq_eq_false_iff_ne, bne_eq_false_iff_eq, Int.not_lt, Int.not_le, gt_iff_lt, ge_iff_le, Decidable.not_not] at hc)))
        | (refine And.intro ?_ ?_))
    refine BT_seq (BT.of_MW h2 fun D => MX_ok ?_)
    simp only [go_sem, seval, L5_p2]
    refine BT_seq (BT_seq (BT.of_MW h3 fun D => MW.post (Q := fun e g H => e = .normal ∧ VS 0 g H (S5 l n) [.cells 1 [.im l.length (strs l)], .cells 1 [.v (.int .i64 n)], .cells 1 [.v (.slice none 0 0)]]) (MX_ok ?_) ?_))
    · simp only [go_sem, seval, L5_p3]
      (refine LCall_fn (chunk16 l n hn) [] (by decide) (by simp) (by decide) ?_ ?_ ?_; (focus ((repeat' (first | exact trivial | refine And.intro ?_ ?_ | exact ⟨rfl, rfl⟩ | ((first | refine ⟨_, rfl, ?_⟩ | refine ⟨_, .inl ⟨rfl, rfl⟩, ?_⟩ | refine ⟨_, .inr rfl, ?_⟩); (repeat' (first | ((first | refine Sv.cl (Cl.of ?_) | refine Svs.cl (Cls.of ?_)); simp only [go_sem, Bool.and_self, Bool.and_true]; done) | exact Sv.pt rfl | exact Sv.mp rfl | exact Sv.nil rfl | exact Sv.em rfl | (refine Sv.slE rfl ?_ ?_ <;> (first | rfl | omega | (simp only [go_sem]; done) | (simp [go_sem]; done) | (simp [go_sem]; omega))) | ((first | refine Sv.eq ?_ ?_ | refine Svs.eq ?_ ?_) <;> (first | rfl | omega | (simp only [go_sem]; done) | (simp [go_sem]; done) | (simp [go_sem]; omega))) | exact Sv.nil0 | exact Sv.em0 | exact Sv.sl0 | ((first | refine Sv.slFE (.inl ⟨rfl, rfl⟩) ?_ (Svs.eq ?_ ?_) | refine Sv.slFE (.inr rfl) ?_ (Svs.eq ?_ ?_)) <;> (first | rfl | omega | (simp only [go_sem]; done) | (simp [go_sem]; done) | (simp [go_sem]; omega))) | exact Svs.nilI | refine Svs.consI ?_ ?_ | refine Sv.tu ?_ | refine Sv.ag ?_)); done) | rfl)); done)); (focus ((repeat' (first | ((first | refine Sv.cl (Cl.of ?_) | refine Svs.cl (Cls.of ?_)); simp only [go_sem, Bool.and_self, Bool.and_true]; done) | exact Sv.pt rfl | exact Sv.mp rfl | exact Sv.nil rfl | exact Sv.em rfl | (refine Sv.slE rfl ?_ ?_ <;> (first | rfl | omega | (simp only [go_sem]; done) | (simp [go_sem]; done) | (simp [go_sem]; omega))) | ((first | refine Sv.eq ?_ ?_ | refine Svs.eq ?_ ?_) <;> (first | rfl | omega | (simp only [go_sem]; done) | (simp [go_sem]; done) | (simp [go_sem]; omega))) | exact Sv.nil0 | exact Sv.em0 | exact Sv.sl0 | ((first | refine Sv.slFE (.inl ⟨rfl, rfl⟩) ?_ (Svs.eq ?_ ?_) | refine Sv.slFE (.inr rfl) ?_ (Svs.eq ?_ ?_)) <;> (first | rfl | omega | (simp only [go_sem]; done) | (simp [go_sem]; done) | (simp [go_sem]; omega))) | exact Svs.nilI | refine Svs.consI ?_ ?_ | refine Sv.tu ?_ | refine Sv.ag ?_)); done)); (rintro _ _ ⟨rfl, rfl⟩); (try simp only [go_sem, seval, tau, upd, List.set_cons_zero, List.set_cons_succ, List.map_cons, List.map_nil, List.drop_zero, List.drop_succ_cons, List.drop_nil, Nat.not_lt_zero, Nat.sub_zero, List.cons_append, List.nil_append]))
      unfold S5
      (refine VS_of [.old 1, .old 2, .old 0] (by decide) ?_ ?_ (by decide); all_goals (repeat' (first | exact trivial | refine And.intro ?_ ?_ | exact ⟨rfl, rfl⟩ | exact Sg.any | ((first | refine ⟨_, rfl, ?_⟩ | refine ⟨_, .inl ⟨rfl, rfl⟩, ?_⟩ | refine ⟨_, .inr rfl, ?_⟩ | refine Sg.of ?_); (repeat' (first | (refine Sv.fn ?_ ?_) | ((first | refine Sv.cl (Cl.of ?_) | refine Svs.cl (Cls.of ?_)); simp only [go_sem, Bool.and_self, Bool.and_true]; done) | exact Sv.pt rfl | exact Sv.mp rfl | exact Sv.nil rfl | exact Sv.em rfl | (refine Sv.slE rfl ?_ ?_ <;> (first | rfl | omega | (simp only [go_sem]; done) | (simp [go_sem]; done) | (simp [go_sem]; omega))) | ((first | refine Sv.eq ?_ ?_ | refine Svs.eq ?_ ?_) <;> (first | rfl | omega | (simp only [go_sem]; done) | (simp [go_sem]; done) | (simp [go_sem]; omega))) | exact Sv.nil0 | exact Sv.em0 | exact Sv.sl0 | ((first | refine Sv.slFE (.inl ⟨rfl, rfl⟩) ?_ (Svs.eq ?_ ?_) | refine Sv.slFE (.inr rfl) ?_ (Svs.eq ?_ ?_)) <;> (first | rfl | omega | (simp only [go_sem]; done) | (simp [go_sem]; done) | (simp [go_sem]; omega))) | exact Svs.nilI | refine Svs.consI ?_ ?_ | refine Sv.tu ?_ | refine Sv.ag ?_)); done) | rfl)))
    · rintro e g H ⟨rfl, hv⟩
      refine ⟨_, _, hv, ?_⟩
      obtain ⟨d0, d1, d2, d3, d4, d5, ed, _⟩ := body36
      show BT Tryz.prog 0 _ _ (S5 l n) _
      refine BT_block ((BT_rangeV (k := 3) (HE := O5 l n q) (Nat.zero_le _) rfl Tryz.func36 ed rfl name36 ?_ ?_).mono ?_)
      · unfold S5
        simp only [okVs, okV, okVs_strs, Bool.and_self, Bool.and_true]
        decide
      · intro f rec r1 r2 r3 r4 r5
        exact iter36 (by unfold S5; simp only [okVs, okV, okVs_strs, Bool.and_self, Bool.and_true]; decide) l n q hn hl (by omega) (fun k hk => round5 h4 h5 r1 r2 r3 r4 r5 l n q hn hl (by omega) k hk) ed
      · rintro e g H ⟨rfl, rfl, rfl⟩
        show BT Tryz.prog 0 _ _ _ _
        refine BT.of_MW h6 fun D => MX_ok ?_
        simp only [go_sem, seval, L5_p6, S5, O5]
        repeat' (first
            | ((first | ((first | refine LNext_if ?_ ?_ | refine ZNext_if ?_ ?_ | refine ZY_if ?_ ?_); (first | omega | exact True.intro | (simp only [go_sem, List.length_map, List.length_cons, List.length_nil, List.length_append, List.length_replicate, List.length_drop, List.length_take, List.length_set, Nat.reduceAdd, Nat.reduceMul, true_and, and_true]; omega) | (refine And.intro ?_ ?_ <;> first | omega | exact True.intro | (simp only [List.length_map, List.length_cons, List.length_nil, List.length_append, List.length_replicate, List.length_drop, List.length_take, List.length_set]; omega)))) | (refine And.intro ?_ ?_; (show okA _ _ _ _ = true); kernel_rfl) | refine MX_ok (l := .seq _ _) ?_ | refine MX_ok (l := .reg _) ?_ | refine MX_ok (l := .cond _ _ _) ?_ | refine MX_ok (l := .block _ _) ?_ | refine MX_ok (l := .ret) ?_ | refine MX_ok (l := .skip) ?_); (try simp only [go_sem, seval]))
            | ((first | refine MCond_split ?_ ?_ | refine NCond_split ?_ ?_ | refine LGuard_split ?_ ?_ | refine ZG_split ?_ ?_) <;> (intro hc; (try simp only [go_sem, seval, hc]); (try simp only [decide_eq_true_eq, decide_eq_false_iff_not, Bool.not_eq_true', Bool.not_eq_false', Bool.not_eq_true, Bool.not_eq_false, beq_iff_eq, bne_iff_ne, ne_eq, beq_eq_false_iff_ne, bne_eq_false_iff_eq, Int.not_lt, Int.not_le, gt_iff_lt, ge_iff_le, Decidable.not_not] at hc)))
            | (refine And.intro ?_ ?_))
        refine Fin_of ⟨rfl, rfl⟩ ?_; (refine VS_of [] (by decide) ?_ ?_ (by decide); all_goals (repeat' (first | exact trivial | refine And.intro ?_ ?_ | exact ⟨rfl, rfl⟩ | exact Sg.any | ((first | refine ⟨_, rfl, ?_⟩ | refine ⟨_, .inl ⟨rfl, rfl⟩, ?_⟩ | refine ⟨_, .inr rfl, ?_⟩ | refine Sg.of ?_); (repeat' (first | ((first | refine Sv.cl (Cl.of ?_) | refine Svs.cl (Cls.of ?_)); simp only [go_sem, Bool.and_self, Bool.and_true]; done) | exact Sv.pt rfl | exact Sv.mp rfl | exact Sv.nil rfl | exact Sv.em rfl | (refine Sv.slE rfl ?_ ?_ <;> (first | rfl | omega | (simp only [go_sem]; done) | (simp [go_sem]; done) | (simp [go_sem]; omega))) | ((first | refine Sv.eq ?_ ?_ | refine Svs.eq ?_ ?_) <;> (first | rfl | omega | (simp only [go_sem]; done) | (simp [go_sem]; done) | (simp [go_sem]; omega))) | exact Sv.nil0 | exact Sv.em0 | exact Sv.sl0 | ((first | refine Sv.slFE (.inl ⟨rfl, rfl⟩) ?_ (Svs.eq ?_ ?_) | refine Sv.slFE (.inr rfl) ?_ (Svs.eq ?_ ?_)) <;> (first | rfl | omega | (simp only [go_sem]; done) | (simp [go_sem]; done) | (simp [go_sem]; omega))) | exact Svs.nilI | refine Svs.consI ?_ ?_ | refine Sv.tu ?_ | refine Sv.ag ?_)); done) | rfl)))
  · have e : stE l z = 1 := by simp [stE, e1, e2, e3, e4, e5]
    rw [stV, e, if_neg (by decide)]
    have e5' : ((l.length : Int).tmod z != 0) = true := by simp [e5]
    simp only [go_sem, seval, L5_p1, e1', e2, e3, e4, e5', z0, if_false, Option.map_some]
    repeat' (first
        | ((first | ((first | refine LNext_if ?_ ?_ | refine ZNext_if ?_ ?_ | refine ZY_if ?_ ?_); (first | omega | exact True.intro | (simp only [go_sem, List.length_map, List.length_cons, List.length_nil, List.length_append, List.length_replicate, List.length_drop, List.length_take, List.length_set, Nat.reduceAdd, Nat.reduceMul, true_and, and_true]; omega) | (refine And.intro ?_ ?_ <;> first | omega | exact True.intro | (simp only [List.length_map, List.length_cons, List.length_nil, List.length_append, List.length_replicate, List.length_drop, List.length_take, List.length_set]; omega)))) | (refine And.intro ?_ ?_; (show okA _ _ _ _ = true); kernel_rfl) | refine MX_ok (l := .seq _ _) ?_ | refine MX_ok (l := .reg _) ?_ | refine MX_ok (l := .cond _ _ _) ?_ | refine MX_ok (l := .block _ _) ?_ | refine MX_ok (l := .ret) ?_ | refine MX_ok (l := .skip) ?_); (try simp only [go_sem, seval, e1', e2, e3, e4, e5', z0, if_false, Option.map_some]))
        | ((first | refine MCond_split ?_ ?_ | refine NCond_split ?_ ?_ | refine LGuard_split ?_ ?_ | refine ZG_split ?_ ?_) <;> (intro hc; (try simp only [go_sem, seval, hc, e1', e2, e3, e4, e5', z0, if_false, Option.map_some]); (try simp only [decide_eq_true_eq, decide_eq_false_iff_not, Bool.not_eq_true', Bool.not_eq_false', Bool.not_eq_true, Bool.not_eq_false, beq_iff_eq, bne_iff_ne, ne_eq, beq_eq_false_iff_ne, bne_eq_false_iff_eq, Int.not_lt, Int.not_le, gt_iff_lt, ge_iff_le, Decidable.not_not] at hc)))
        | (refine And.intro ?_ ?_))
    refine Fin_of ⟨rfl, rfl⟩ ?_; (refine VS_of [] (by decide) ?_ ?_ (by decide); all_goals (repeat' (first | exact trivial | refine And.intro ?_ ?_ | exact ⟨rfl, rfl⟩ | exact Sg.any | ((first | refine ⟨_, rfl, ?_⟩ | refine ⟨_, .inl ⟨rfl, rfl⟩, ?_⟩ | refine ⟨_, .inr rfl, ?_⟩ | refine Sg.of ?_); (repeat' (first | ((first | refine Sv.cl (Cl.of ?_) | refine Svs.cl (Cls.of ?_)); simp only [go_sem, Bool.and_self, Bool.and_true]; done) | exact Sv.pt rfl | exact Sv.mp rfl | exact Sv.nil rfl | exact Sv.em rfl | (refine Sv.slE rfl ?_ ?_ <;> (first | rfl | omega | (simp only [go_sem]; done) | (simp [go_sem]; done) | (simp [go_sem]; omega))) | ((first | refine Sv.eq ?_ ?_ | refine Svs.eq ?_ ?_) <;> (first | rfl | omega | (simp only [go_sem]; done) | (simp [go_sem]; done) | (simp [go_sem]; omega))) | exact Sv.nil0 | exact Sv.em0 | exact Sv.sl0 | ((first | refine Sv.slFE (.inl ⟨rfl, rfl⟩) ?_ (Svs.eq ?_ ?_) | refine Sv.slFE (.inr rfl) ?_ (Svs.eq ?_ ?_)) <;> (first | rfl | omega | (simp only [go_sem]; done) | (simp [go_sem]; done) | (simp [go_sem]; omega))) | exact Svs.nilI | refine Svs.consI ?_ ?_ | refine Sv.tu ?_ | refine Sv.ag ?_)); done) | rfl)))
end Go.Proofs.YteoeioodocjbiaaGreatDoor
namespace Go.Proofs.YteoeioodocjbiaaGreatDoor
open Go Go.Abs
def stL (l : List ByteArray) (z : Int) : List (List ByteArray) := if stE l z = 0 then chsOf z.toNat (l.length / z.toNat) l else []
theorem stV_eq (l : List ByteArray) (z : Int) : stV l z = .im (stL l z).length (chs (stL l z)) := by
  unfold stV stL
  by_cases h : stE l z = 0
  · rw [if_pos h, if_pos h, chsOf_len]
  · rw [if_neg h, if_neg h]; rfl
theorem flat_take (n q : Nat) (l : List ByteArray) : flat (chsOf n q l) = l.take (q * n) := by
  induction q with
  | zero => simp [chsOf, flat]
  | succ q ih =>
    rw [← chsOf_snoc]
    unfold flat at ih ⊢
    rw [List.flatten_append, ih, Nat.succ_mul, List.take_add]
    simp [piece]
theorem st_ok {l : List ByteArray} {z : Int} (h : stE l z = 0) : ∃ n q : Nat, 1 ≤ n ∧ 1 ≤ q ∧ l.length = q * n ∧ l.length ≤ 400 ∧ stL l z = chsOf n q l := by
  have hL : stL l z = chsOf z.toNat (l.length / z.toNat) l := by unfold stL; rw [if_pos h]
  unfold stE at h
  split at h
  · cases h
  · rename_i e1
    split at h
    · cases h
    · rename_i e2
      split at h
      · cases h
      · rename_i e3
        split at h
        · rename_i e4
          obtain ⟨n, q, rfl, hn, hl, hq, hz⟩ := st_parts (show ¬ z < 1 by omega) e4
          rw [hq, hz] at hL
          refine ⟨n, q, hn, ?_, hl, by omega, hL⟩
          rcases Nat.eq_zero_or_pos q with h0 | h0
          · subst h0; simp at hl; simp [hl] at e1
          · exact h0
        · cases h
theorem stL_small {l : List ByteArray} {z : Int} : (stL l z).length ≤ 1000000 ∧ ∀ x ∈ stL l z, x.length ≤ 1000000 := by
  by_cases h : stE l z = 0
  · obtain ⟨n, q, hn, hq, hl, hb, e⟩ := st_ok h
    rw [e, chsOf_len]
    have : q ≤ q * n := Nat.le_mul_of_pos_right q hn
    refine ⟨by omega, fun x hx => ?_⟩
    obtain ⟨k, _, rfl⟩ := List.mem_map.1 hx
    unfold piece
    simp only [List.length_take, List.length_drop]
    omega
  · have : stL l z = [] := by unfold stL; rw [if_neg h]
    rw [this]
    exact ⟨by simp, fun x hx => by cases hx⟩
set_option maxRecDepth 100000 in
set_option maxHeartbeats 2000000 in
theorem law3 (c4 : APure Tryz.prog 4 [] (.v (.bool true))) (l : List ByteArray) (z : Int) : APure Tryz.prog 3 [.im l.length (strs l), .v (.int .i64 z)] (.v (.bool true)) := by
  by_cases h1 : (410 : Int) < l.length
  · refine callp3 ?_
    simp only [go_sem, seval, L3, h1]
    repeat' (first
        | ((first | ((first | refine LCall_pure (c4) (Cls.of ?_) ?_); simp only [go_sem, Bool.and_self, Bool.and_true]) | ((first | refine LNext_if ?_ ?_ | refine ZNext_if ?_ ?_ | refine ZY_if ?_ ?_); (first | omega | exact True.intro | (simp only [go_sem, List.length_map, List.length_cons, List.length_nil, List.length_append, List.length_replicate, List.length_drop, List.length_take, List.length_set, Nat.reduceAdd, Nat.reduceMul, true_and, and_true]; omega) | (refine And.intro ?_ ?_ <;> first | omega | exact True.intro | (simp only [List.length_map, List.length_cons, List.length_nil, List.length_append, List.length_replicate, List.length_drop, List.length_take, List.length_set]; omega)))) | (refine And.intro ?_ ?_; (show okA _ _ _ _ = true); kernel_rfl) | refine MX_ok (l := .seq _ _) ?_ | refine MX_ok (l := .reg _) ?_ | refine MX_ok (l := .cond _ _ _) ?_ | refine MX_ok (l := .block _ _) ?_ | refine MX_ok (l := .ret) ?_ | refine MX_ok (l := .skip) ?_); (try simp only [go_sem, seval, h1]))
        | ((first | refine MCond_split ?_ ?_ | refine NCond_split ?_ ?_ | refine LGuard_split ?_ ?_ | refine ZG_split ?_ ?_) <;> (intro hc; (try simp only [go_sem, seval, hc, h1]); (try simp only [decide_eq_true_eq, decide_eq_false_iff_not, Bool.not_eq_true', Bool.not_eq_false', Bool.not_eq_true, Bool.not_eq_false, beq_iff_eq, bne_iff_ne, ne_eq, beq_eq_false_iff_ne, bne_eq_false_iff_eq, Int.not_lt, Int.not_le, gt_iff_lt, ge_iff_le, Decidable.not_not] at hc)))
        | (refine And.intro ?_ ?_))
    all_goals refine Fin_of ⟨rfl, rfl⟩ ?_; (refine VS_of [] (by decide) ?_ ?_ (by decide); all_goals (repeat' (first | exact trivial | refine And.intro ?_ ?_ | exact ⟨rfl, rfl⟩ | exact Sg.any | ((first | refine ⟨_, rfl, ?_⟩ | refine ⟨_, .inl ⟨rfl, rfl⟩, ?_⟩ | refine ⟨_, .inr rfl, ?_⟩ | refine Sg.of ?_); (repeat' (first | ((first | refine Sv.cl (Cl.of ?_) | refine Svs.cl (Cls.of ?_)); simp only [go_sem, Bool.and_self, Bool.and_true]; done) | exact Sv.pt rfl | exact Sv.mp rfl | exact Sv.nil rfl | exact Sv.em rfl | (refine Sv.slE rfl ?_ ?_ <;> (first | rfl | omega | (simp only [go_sem]; done) | (simp [go_sem]; done) | (simp [go_sem]; omega))) | ((first | refine Sv.eq ?_ ?_ | refine Svs.eq ?_ ?_) <;> (first | rfl | omega | (simp only [go_sem]; done) | (simp [go_sem]; done) | (simp [go_sem]; omega))) | exact Sv.nil0 | exact Sv.em0 | exact Sv.sl0 | ((first | refine Sv.slFE (.inl ⟨rfl, rfl⟩) ?_ (Svs.eq ?_ ?_) | refine Sv.slFE (.inr rfl) ?_ (Svs.eq ?_ ?_)) <;> (first | rfl | omega | (simp only [go_sem]; done) | (simp [go_sem]; done) | (simp [go_sem]; omega))) | exact Svs.nilI | refine Svs.consI ?_ ?_ | refine Sv.tu ?_ | refine Sv.ag ?_)); done) | rfl)))
  have c6 := clone6 l (by omega)
  have c5 := stanzas5 l z
  have c7 := ref7 l z
  rw [stV_eq] at c5 c7
  have c8 := eqf8 (stL l z) stL_small.1 stL_small.2
  have n1 : (stE l z == stE l z) = true := by simp
  have n2 : (stE l z != stE l z) = false := by simp
  by_cases h2 : stE l z = 0
  · obtain ⟨n, q, hn, hq, hl, hb, e⟩ := st_ok h2
    have hf : flat (stL l z) = l := by rw [e, flat_take, ← hl, List.take_length]
    have hlen : 0 < l.length := by rw [hl]; exact Nat.mul_pos hq hn
    have c10 := concat10 (stL l z) stL_small.1 (by rw [hf]; omega) (by rw [hf]; exact hlen) (by
      rw [e]
      intro x hx
      obtain ⟨k, hk, rfl⟩ := List.mem_map.1 hx
      have := below_mul (n := n) (List.mem_range.1 hk)
      rw [piece_len (by omega)]
      omega)
    rw [hf] at c10
    have c9 := equal9 l (by omega)
    rw [h2] at c5 c7
    refine callp3 ?_
    simp only [go_sem, seval, L3, h1]
    repeat' (first
        | ((first | ((first | refine LCall_pure (c4) (Cls.of ?_) ?_ | refine LCall_pure (c5) (Cls.of ?_) ?_ | refine LCall_pure (c6) (Cls.of ?_) ?_ | refine LCall_pure (c7) (Cls.of ?_) ?_ | refine LCall_pure (c8) (Cls.of ?_) ?_ | refine LCall_pure (c9) (Cls.of ?_) ?_ | refine LCall_pure (c10) (Cls.of ?_) ?_); simp only [go_sem, Bool.and_self, Bool.and_true]) | ((first | refine LNext_if ?_ ?_ | refine ZNext_if ?_ ?_ | refine ZY_if ?_ ?_); (first | omega | exact True.intro | (simp only [go_sem, List.length_map, List.length_cons, List.length_nil, List.length_append, List.length_replicate, List.length_drop, List.length_take, List.length_set, Nat.reduceAdd, Nat.reduceMul, true_and, and_true]; omega) | (refine And.intro ?_ ?_ <;> first | omega | exact True.intro | (simp only [List.length_map, List.length_cons, List.length_nil, List.length_append, List.length_replicate, List.length_drop, List.length_take, List.length_set]; omega)))) | (refine And.intro ?_ ?_; (show okA _ _ _ _ = true); kernel_rfl) | refine MX_ok (l := .seq _ _) ?_ | refine MX_ok (l := .reg _) ?_ | refine MX_ok (l := .cond _ _ _) ?_ | refine MX_ok (l := .block _ _) ?_ | refine MX_ok (l := .ret) ?_ | refine MX_ok (l := .skip) ?_); (try simp only [go_sem, seval, h1]))
        | ((first | refine MCond_split ?_ ?_ | refine NCond_split ?_ ?_ | refine LGuard_split ?_ ?_ | refine ZG_split ?_ ?_) <;> (intro hc; (try simp only [go_sem, seval, hc, h1]); (try simp only [decide_eq_true_eq, decide_eq_false_iff_not, Bool.not_eq_true', Bool.not_eq_false', Bool.not_eq_true, Bool.not_eq_false, beq_iff_eq, bne_iff_ne, ne_eq, beq_eq_false_iff_ne, bne_eq_false_iff_eq, Int.not_lt, Int.not_le, gt_iff_lt, ge_iff_le, Decidable.not_not] at hc)))
        | (refine And.intro ?_ ?_))
    all_goals refine Fin_of ⟨rfl, rfl⟩ ?_; (refine VS_of [] (by decide) ?_ ?_ (by decide); all_goals (repeat' (first | exact trivial | refine And.intro ?_ ?_ | exact ⟨rfl, rfl⟩ | exact Sg.any | ((first | refine ⟨_, rfl, ?_⟩ | refine ⟨_, .inl ⟨rfl, rfl⟩, ?_⟩ | refine ⟨_, .inr rfl, ?_⟩ | refine Sg.of ?_); (repeat' (first | ((first | refine Sv.cl (Cl.of ?_) | refine Svs.cl (Cls.of ?_)); simp only [go_sem, Bool.and_self, Bool.and_true]; done) | exact Sv.pt rfl | exact Sv.mp rfl | exact Sv.nil rfl | exact Sv.em rfl | (refine Sv.slE rfl ?_ ?_ <;> (first | rfl | omega | (simp only [go_sem]; done) | (simp [go_sem]; done) | (simp [go_sem]; omega))) | ((first | refine Sv.eq ?_ ?_ | refine Svs.eq ?_ ?_) <;> (first | rfl | omega | (simp only [go_sem]; done) | (simp [go_sem]; done) | (simp [go_sem]; omega))) | exact Sv.nil0 | exact Sv.em0 | exact Sv.sl0 | ((first | refine Sv.slFE (.inl ⟨rfl, rfl⟩) ?_ (Svs.eq ?_ ?_) | refine Sv.slFE (.inr rfl) ?_ (Svs.eq ?_ ?_)) <;> (first | rfl | omega | (simp only [go_sem]; done) | (simp [go_sem]; done) | (simp [go_sem]; omega))) | exact Svs.nilI | refine Svs.consI ?_ ?_ | refine Sv.tu ?_ | refine Sv.ag ?_)); done) | rfl)))
  · have n3 : (stE l z != 0) = true := by simp [h2]
    generalize stE l z = E at *
    refine callp3 ?_
    simp only [go_sem, seval, L3, h1, n1, n2, n3]
    repeat' (first
        | ((first | ((first | refine LCall_pure (c4) (Cls.of ?_) ?_ | refine LCall_pure (c5) (Cls.of ?_) ?_ | refine LCall_pure (c6) (Cls.of ?_) ?_ | refine LCall_pure (c7) (Cls.of ?_) ?_ | refine LCall_pure (c8) (Cls.of ?_) ?_); simp only [go_sem, Bool.and_self, Bool.and_true]) | ((first | refine LNext_if ?_ ?_ | refine ZNext_if ?_ ?_ | refine ZY_if ?_ ?_); (first | omega | exact True.intro | (simp only [go_sem, List.length_map, List.length_cons, List.length_nil, List.length_append, List.length_replicate, List.length_drop, List.length_take, List.length_set, Nat.reduceAdd, Nat.reduceMul, true_and, and_true]; omega) | (refine And.intro ?_ ?_ <;> first | omega | exact True.intro | (simp only [List.length_map, List.length_cons, List.length_nil, List.length_append, List.length_replicate, List.length_drop, List.length_take, List.length_set]; omega)))) | (refine And.intro ?_ ?_; (show okA _ _ _ _ = true); kernel_rfl) | refine MX_ok (l := .seq _ _) ?_ | refine MX_ok (l := .reg _) ?_ | refine MX_ok (l := .cond _ _ _) ?_ | refine MX_ok (l := .block _ _) ?_ | refine MX_ok (l := .ret) ?_ | refine MX_ok (l := .skip) ?_); (try simp only [go_sem, seval, h1, n1, n2, n3]))
        | ((first | refine MCond_split ?_ ?_ | refine NCond_split ?_ ?_ | refine LGuard_split ?_ ?_ | refine ZG_split ?_ ?_) <;> (intro hc; (try simp only [go_sem, seval, hc, h1, n1, n2, n3]); (try simp only [decide_eq_true_eq, decide_eq_false_iff_not, Bool.not_eq_true', Bool.not_eq_false', Bool.not_eq_true, Bool.not_eq_false, beq_iff_eq, bne_iff_ne, ne_eq, beq_eq_false_iff_ne, bne_eq_false_iff_eq, Int.not_lt, Int.not_le, gt_iff_lt, ge_iff_le, Decidable.not_not] at hc)))
        | (refine And.intro ?_ ?_))
    all_goals refine Fin_of ⟨rfl, rfl⟩ ?_; (refine VS_of [] (by decide) ?_ ?_ (by decide); all_goals (repeat' (first | exact trivial | refine And.intro ?_ ?_ | exact ⟨rfl, rfl⟩ | exact Sg.any | ((first | refine ⟨_, rfl, ?_⟩ | refine ⟨_, .inl ⟨rfl, rfl⟩, ?_⟩ | refine ⟨_, .inr rfl, ?_⟩ | refine Sg.of ?_); (repeat' (first | ((first | refine Sv.cl (Cl.of ?_) | refine Svs.cl (Cls.of ?_)); simp only [go_sem, Bool.and_self, Bool.and_true]; done) | exact Sv.pt rfl | exact Sv.mp rfl | exact Sv.nil rfl | exact Sv.em rfl | (refine Sv.slE rfl ?_ ?_ <;> (first | rfl | omega | (simp only [go_sem]; done) | (simp [go_sem]; done) | (simp [go_sem]; omega))) | ((first | refine Sv.eq ?_ ?_ | refine Svs.eq ?_ ?_) <;> (first | rfl | omega | (simp only [go_sem]; done) | (simp [go_sem]; done) | (simp [go_sem]; omega))) | exact Sv.nil0 | exact Sv.em0 | exact Sv.sl0 | ((first | refine Sv.slFE (.inl ⟨rfl, rfl⟩) ?_ (Svs.eq ?_ ?_) | refine Sv.slFE (.inr rfl) ?_ (Svs.eq ?_ ?_)) <;> (first | rfl | omega | (simp only [go_sem]; done) | (simp [go_sem]; done) | (simp [go_sem]; omega))) | exact Svs.nilI | refine Svs.consI ?_ ?_ | refine Sv.tu ?_ | refine Sv.ag ?_)); done) | rfl)))
end Go.Proofs.YteoeioodocjbiaaGreatDoor
