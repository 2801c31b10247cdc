/- Part 17 of the texts that lead to bestWeakenCard_holds. No condition. -/
import Derived.Test.YthoonenhakbkgaaGreatDoorH13
import Derived.Test.YthoonenhakbkgaaGreatDoorH14
import Derived.Test.YthoonenhakbkgaaGreatDoorH16
set_option linter.unusedSimpArgs false
set_option linter.unusedVariables false
set_option linter.unnecessarySimpa false
namespace Go.Proofs.YthoonenhakbkgaaGreatDoor
open Go Go.Abs Go.Wk
theorem wrapI {n : Int} (h1 : -9223372036854775808 ≤ n) (h2 : n ≤ 9223372036854775807) : IntKind.wrap .i64 n = n := by
  rw [IntKind.wrap_i64]; omega
theorem wrapS {k : Nat} (h : k < 9223372036854775807) : IntKind.wrap .i64 ((k : Int) + 1) = ((k + 1 : Nat) : Int) := by
  rw [wrapI (by omega) (by omega)]; rfl
theorem dropG {α : Type} {l : List α} {k : Nat} (h : k < l.length) : ∃ d, l[k]? = some d ∧ l.drop k = d :: l.drop (k + 1) :=
  ⟨l[k], List.getElem?_eq_getElem h, List.drop_eq_getElem_cons h⟩
theorem mixedP : Tryz.prog.follows .mixedOrders = true := by kernel_rfl
def bdsC (x : Bd) : List AV := [.v (.int .i64 x.p), .v (.int .i64 x.s), .v (.int .i64 x.v)]
def bds (l : List Bd) : List AV := l.flatMap bdsC
theorem bds_nil : bds [] = [] := rfl
theorem bds_clb (l : List Bd) : clbs (bds l) = true := by
  induction l with
  | nil => rfl
  | cons a l ih =>
    rw [clbs_eq] at ih ⊢
    simp only [bds, List.flatMap_cons, List.all_append] at ih ⊢
    rw [ih, Bool.and_true, ← clbs_eq]
    simp only [bdsC, go_sem, Bool.and_self, Bool.and_true]
theorem bds_one (l : List Bd) : (bds l).all (·.one) = true := by
  induction l with
  | nil => rfl
  | cons a l ih => simp only [bds, List.flatMap_cons, List.all_append] at ih ⊢; rw [ih]; rfl
theorem bds_len (l : List Bd) : (bds l).length = l.length * 3 := by
  induction l with
  | nil => rfl
  | cons a l ih => simp only [bds, List.flatMap_cons, List.length_append, List.length_cons] at ih ⊢; rw [ih, show (bdsC a).length = 3 from rfl]; omega
theorem bds_take (l : List Bd) : (bds l).take (l.length * 3) = bds l := List.take_of_length_le (by rw [bds_len]; exact Nat.le_refl _)
theorem bds_snoc (l : List Bd) (x : Bd) : bds l ++ [.v (.int .i64 x.p), .v (.int .i64 x.s), .v (.int .i64 x.v)] = bds (l ++ [x]) := by simp [bds, bdsC]
theorem bds_drop {l : List Bd} {i : Nat} {x : Bd} (h : l[i]? = some x) : (bds l).drop (i * 3) = [.v (.int .i64 x.p), .v (.int .i64 x.s), .v (.int .i64 x.v)] ++ bds (l.drop (i + 1)) := by
  induction l generalizing i with
  | nil => simp at h
  | cons a l ih =>
    cases i with
    | zero => simp at h; subst h; simp [bds, bdsC]
    | succ i =>
      simp at h
      have e : bds (a :: l) = bdsC a ++ bds l := rfl
      rw [e, Nat.succ_mul, Nat.add_comm, ← List.drop_drop, show (bdsC a ++ bds l).drop 3 = bds l from by simp [bdsC], ih h]
      simp
attribute [go_sem] bds_nil bds_clb bds_one bds_len bds_take
def prV (c : Int) (l : List Bd) : AV := .ag [.v (.int .i64 c), .im l.length (bds l)]
theorem prV_clb (c : Int) (l : List Bd) : (prV c l).clb = true := by
  simp only [prV, go_sem, Bool.and_self, Bool.and_true]
attribute [go_sem] prV_clb
set_option maxRecDepth 100000 in
theorem few5 (c : Int) (l : List Bd) : APure Tryz.prog 5 [prV c l] (.v (.bool (decide ((l.length : Int) ≤ 4000)))) := by
  refine callp5 ?_
  simp only [go_sem, seval, L5, prV]
  repeat' (first
      | ((first | ((first | refine LNext_if ?_ ?_ | refine ZNext_if ?_ ?_ | refine ZY_if ?_ ?_); (first | omega | exact True.intro | (simp only [go_sem, List.length_map, List.length_cons, List.length_nil, List.length_append, List.length_replicate, List.length_drop, List.length_take, List.length_set, Nat.reduceAdd, Nat.reduceMul, true_and, and_true]; omega) | (refine And.intro ?_ ?_ <;> first | omega | exact True.intro | (simp only [List.length_map, List.length_cons, List.length_nil, List.length_append, List.length_replicate, List.length_drop, List.length_take, List.length_set]; omega)))) | (refine And.intro ?_ ?_; (show okA _ _ _ _ = true); kernel_rfl) | refine MX_ok (l := .seq _ _) ?_ | refine MX_ok (l := .reg _) ?_ | refine MX_ok (l := .cond _ _ _) ?_ | refine MX_ok (l := .block _ _) ?_ | refine MX_ok (l := .ret) ?_ | refine MX_ok (l := .skip) ?_); (try simp only [go_sem, seval]))
      | ((first | refine MCond_split ?_ ?_ | refine NCond_split ?_ ?_ | refine LGuard_split ?_ ?_ | refine ZG_split ?_ ?_) <;> (intro hc; (try simp only [go_sem, seval, hc]); (try simp only [decide_eq_true_eq, decide_eq_false_iff_not, Bool.not_eq_true', Bool.not_eq_false', Bool.not_eq_true, Bool.not_eq_false, beq_iff_eq, bne_iff_ne, ne_eq, beq_eq_false_iff_ne, bne_eq_false_iff_eq, Int.not_lt, Int.not_le, gt_iff_lt, ge_iff_le, Decidable.not_not] at hc)))
      | (refine And.intro ?_ ?_))
  refine Fin_of ⟨rfl, rfl⟩ ?_; (refine VS_of [] (by decide) ?_ ?_ (by decide); all_goals (repeat' (first | exact trivial | refine And.intro ?_ ?_ | exact ⟨rfl, rfl⟩ | exact Sg.any | ((first | refine ⟨_, rfl, ?_⟩ | refine ⟨_, .inl ⟨rfl, rfl⟩, ?_⟩ | refine ⟨_, .inr rfl, ?_⟩ | refine Sg.of ?_); (repeat' (first | ((first | refine Sv.cl (Cl.of ?_) | refine Svs.cl (Cls.of ?_)); simp only [go_sem, Bool.and_self, Bool.and_true]; done) | exact Sv.pt rfl | exact Sv.mp rfl | exact Sv.nil rfl | exact Sv.em rfl | (refine Sv.slE rfl ?_ ?_ <;> (first | rfl | omega | (simp only [go_sem]; done) | (simp [go_sem]; done) | (simp [go_sem]; omega))) | ((first | refine Sv.eq ?_ ?_ | refine Svs.eq ?_ ?_) <;> (first | rfl | omega | (simp only [go_sem]; done) | (simp [go_sem]; done) | (simp [go_sem]; omega))) | exact Sv.nil0 | exact Sv.em0 | exact Sv.sl0 | ((first | refine Sv.slFE (.inl ⟨rfl, rfl⟩) ?_ (Svs.eq ?_ ?_) | refine Sv.slFE (.inr rfl) ?_ (Svs.eq ?_ ?_)) <;> (first | rfl | omega | (simp only [go_sem]; done) | (simp [go_sem]; done) | (simp [go_sem]; omega))) | exact Svs.nilI | refine Svs.consI ?_ ?_ | refine Sv.tu ?_ | refine Sv.ag ?_)); done) | rfl)))
set_option maxRecDepth 100000 in
theorem clone7 (l : List Bd) (hl : l.length ≤ 1000000) : APure Tryz.prog 7 [.im l.length (bds l)] (.im l.length (bds l)) := by
  refine callp7 ?_
  simp only [go_sem, seval, L7]
  repeat' (first
      | ((first | ((first | refine LNext_if ?_ ?_ | refine ZNext_if ?_ ?_ | refine ZY_if ?_ ?_); (first | omega | exact True.intro | (simp only [go_sem, List.length_map, List.length_cons, List.length_nil, List.length_append, List.length_replicate, List.length_drop, List.length_take, List.length_set, Nat.reduceAdd, Nat.reduceMul, true_and, and_true]; omega) | (refine And.intro ?_ ?_ <;> first | omega | exact True.intro | (simp only [List.length_map, List.length_cons, List.length_nil, List.length_append, List.length_replicate, List.length_drop, List.length_take, List.length_set]; omega)))) | (refine And.intro ?_ ?_; (show okA _ _ _ _ = true); kernel_rfl) | refine MX_ok (l := .seq _ _) ?_ | refine MX_ok (l := .reg _) ?_ | refine MX_ok (l := .cond _ _ _) ?_ | refine MX_ok (l := .block _ _) ?_ | refine MX_ok (l := .ret) ?_ | refine MX_ok (l := .skip) ?_); (try simp only [go_sem, seval]))
      | ((first | refine MCond_split ?_ ?_ | refine NCond_split ?_ ?_ | refine LGuard_split ?_ ?_ | refine ZG_split ?_ ?_) <;> (intro hc; (try simp only [go_sem, seval, hc]); (try simp only [decide_eq_true_eq, decide_eq_false_iff_not, Bool.not_eq_true', Bool.not_eq_false', Bool.not_eq_true, Bool.not_eq_false, beq_iff_eq, bne_iff_ne, ne_eq, beq_eq_false_iff_ne, bne_eq_false_iff_eq, Int.not_lt, Int.not_le, gt_iff_lt, ge_iff_le, Decidable.not_not] at hc)))
      | (refine And.intro ?_ ?_))
  · intro h
    obtain rfl : l = [] := List.eq_nil_of_length_eq_zero (by omega)
    refine Fin_of ⟨rfl, rfl⟩ ?_; (refine VS_of [] (by decide) ?_ ?_ (by decide); all_goals (repeat' (first | exact trivial | refine And.intro ?_ ?_ | exact ⟨rfl, rfl⟩ | exact Sg.any | ((first | refine ⟨_, rfl, ?_⟩ | refine ⟨_, .inl ⟨rfl, rfl⟩, ?_⟩ | refine ⟨_, .inr rfl, ?_⟩ | refine Sg.of ?_); (repeat' (first | ((first | refine Sv.cl (Cl.of ?_) | refine Svs.cl (Cls.of ?_)); simp only [go_sem, Bool.and_self, Bool.and_true]; done) | exact Sv.pt rfl | exact Sv.mp rfl | exact Sv.nil rfl | exact Sv.em rfl | (refine Sv.slE rfl ?_ ?_ <;> (first | rfl | omega | (simp only [go_sem]; done) | (simp [go_sem]; done) | (simp [go_sem]; omega))) | ((first | refine Sv.eq ?_ ?_ | refine Svs.eq ?_ ?_) <;> (first | rfl | omega | (simp only [go_sem]; done) | (simp [go_sem]; done) | (simp [go_sem]; omega))) | exact Sv.nil0 | exact Sv.em0 | exact Sv.sl0 | ((first | refine Sv.slFE (.inl ⟨rfl, rfl⟩) ?_ (Svs.eq ?_ ?_) | refine Sv.slFE (.inr rfl) ?_ (Svs.eq ?_ ?_)) <;> (first | rfl | omega | (simp only [go_sem]; done) | (simp [go_sem]; done) | (simp [go_sem]; omega))) | exact Svs.nilI | refine Svs.consI ?_ ?_ | refine Sv.tu ?_ | refine Sv.ag ?_)); done) | rfl)))
  · refine Fin_of ⟨rfl, rfl⟩ ?_; (refine VS_of [] (by decide) ?_ ?_ (by decide); all_goals (repeat' (first | exact trivial | refine And.intro ?_ ?_ | exact ⟨rfl, rfl⟩ | exact Sg.any | ((first | refine ⟨_, rfl, ?_⟩ | refine ⟨_, .inl ⟨rfl, rfl⟩, ?_⟩ | refine ⟨_, .inr rfl, ?_⟩ | refine Sg.of ?_); (repeat' (first | ((first | refine Sv.cl (Cl.of ?_) | refine Svs.cl (Cls.of ?_)); simp only [go_sem, Bool.and_self, Bool.and_true]; done) | exact Sv.pt rfl | exact Sv.mp rfl | exact Sv.nil rfl | exact Sv.em rfl | (refine Sv.slE rfl ?_ ?_ <;> (first | rfl | omega | (simp only [go_sem]; done) | (simp [go_sem]; done) | (simp [go_sem]; omega))) | ((first | refine Sv.eq ?_ ?_ | refine Svs.eq ?_ ?_) <;> (first | rfl | omega | (simp only [go_sem]; done) | (simp [go_sem]; done) | (simp [go_sem]; omega))) | exact Sv.nil0 | exact Sv.em0 | exact Sv.sl0 | ((first | refine Sv.slFE (.inl ⟨rfl, rfl⟩) ?_ (Svs.eq ?_ ?_) | refine Sv.slFE (.inr rfl) ?_ (Svs.eq ?_ ?_)) <;> (first | rfl | omega | (simp only [go_sem]; done) | (simp [go_sem]; done) | (simp [go_sem]; omega))) | exact Svs.nilI | refine Svs.consI ?_ ?_ | refine Sv.tu ?_ | refine Sv.ag ?_)); done) | rfl)))
def m16 : List LOp := [⟨some 17, Op.move (Operand.tmp 0), none⟩, ⟨some 18, Op.move (Operand.tmp 5), none⟩, ⟨some 19, Op.indexAddr 22 (Operand.tmp 17) (Operand.tmp 18), none⟩, ⟨some 20, Op.load 32 (Operand.tmp 19), none⟩,
  ⟨some 21, Op.move (Operand.tmp 1), none⟩, ⟨some 22, Op.move (Operand.tmp 5), none⟩, ⟨some 23, Op.indexAddr 22 (Operand.tmp 21) (Operand.tmp 22), none⟩, ⟨some 24, Op.load 32 (Operand.tmp 23), none⟩]
theorem dm16 : lowOps d16_6 d16_6.toList = some (m16 ++ [⟨some 25, Op.binOp BinOp.neq 32 (Operand.tmp 20) (Operand.tmp 24) 32, none⟩]) := dl16_6
theorem neqB {H : List AO} {g : List AV} {x y : Operand} {a b c : Int} (hx : ev g x = .ag [.v (.int .i64 a), .v (.int .i64 b), .v (.int .i64 c)]) (hy : ev g y = .ag [.v (.int .i64 a), .v (.int .i64 b), .v (.int .i64 c)]) : OpSem Tryz.prog g H (.binOp .neq 32 x y 32) (.v (.bool false)) H :=
  neq3_sem (f0 := ⟨ "Place", 3, 0, false, "", "", 0⟩) (f1 := ⟨ "State", 3, 1, false, "", "", 8⟩) (f2 := ⟨ "Value", 3, 2, false, "", "", 16⟩) (ti1 := 3) (by kernel_rfl) (by kernel_rfl) (by kernel_rfl) ⟨rfl, rfl⟩ ⟨rfl, rfl⟩ ⟨rfl, rfl⟩ (by kernel_rfl) (by kernel_rfl) hx hy
def S16 (l : List Bd) (k : Nat) : List AV := [.im l.length (bds l), .im l.length (bds l), .any, .any, .any, .v (.int .i64 k), .any, .any, .any, .any, .any, .any, .any, .any, .any, .any, .any, .any, .any, .any, .any, .any, .any, .any, .any, .any]
set_option maxRecDepth 100000 in
theorem same16 (l : List Bd) (hl : l.length < 1000000) : APure Tryz.prog 16 [.im l.length (bds l), .im l.length (bds l)] (.v (.bool true)) := by
  refine callp16 ?_
  have h0' : ((l.length : Int) != (l.length : Int)) = false := by simp
  simp only [go_sem, seval, L16, h0']
  repeat' (first
      | ((first | ((first | refine LNext_if ?_ ?_ | refine ZNext_if ?_ ?_ | refine ZY_if ?_ ?_); (first | omega | exact True.intro | (simp only [go_sem, List.length_map, List.length_cons, List.length_nil, List.length_append, List.length_replicate, List.length_drop, List.length_take, List.length_set, Nat.reduceAdd, Nat.reduceMul, true_and, and_true]; omega) | (refine And.intro ?_ ?_ <;> first | omega | exact True.intro | (simp only [List.length_map, List.length_cons, List.length_nil, List.length_append, List.length_replicate, List.length_drop, List.length_take, List.length_set]; omega)))) | (refine And.intro ?_ ?_; (show okA _ _ _ _ = true); kernel_rfl) | refine MX_ok (l := .seq _ _) ?_ | refine MX_ok (l := .reg _) ?_ | refine MX_ok (l := .cond _ _ _) ?_ | refine MX_ok (l := .block _ _) ?_ | refine MX_ok (l := .ret) ?_ | refine MX_ok (l := .skip) ?_); (try simp only [go_sem, seval, h0']))
      | ((first | refine MCond_split ?_ ?_ | refine NCond_split ?_ ?_ | refine LGuard_split ?_ ?_ | refine ZG_split ?_ ?_) <;> (intro hc; (try simp only [go_sem, seval, hc, h0']); (try simp only [decide_eq_true_eq, decide_eq_false_iff_not, Bool.not_eq_true', Bool.not_eq_false', Bool.not_eq_true, Bool.not_eq_false, beq_iff_eq, bne_iff_ne, ne_eq, beq_eq_false_iff_ne, bne_eq_false_iff_eq, Int.not_lt, Int.not_le, gt_iff_lt, ge_iff_le, Decidable.not_not] at hc)))
      | (refine And.intro ?_ ?_))
  refine MW_loop_st (S16 l) (fun _ => []) (fun k => k ≤ l.length) (fun k => l.length - k) 0 ?_ (Nat.zero_le _) ?_
  · (refine VS_of [] (by decide) ?_ ?_ (by decide); all_goals (repeat' (first | exact trivial | refine And.intro ?_ ?_ | exact ⟨rfl, rfl⟩ | exact Sg.any | ((first | refine ⟨_, rfl, ?_⟩ | refine ⟨_, .inl ⟨rfl, rfl⟩, ?_⟩ | refine ⟨_, .inr rfl, ?_⟩ | refine Sg.of ?_); (repeat' (first | ((first | refine Sv.cl (Cl.of ?_) | refine Svs.cl (Cls.of ?_)); simp only [go_sem, Bool.and_self, Bool.and_true]; done) | exact Sv.pt rfl | exact Sv.mp rfl | exact Sv.nil rfl | exact Sv.em rfl | (refine Sv.slE rfl ?_ ?_ <;> (first | rfl | omega | (simp only [go_sem]; done) | (simp [go_sem]; done) | (simp [go_sem]; omega))) | ((first | refine Sv.eq ?_ ?_ | refine Svs.eq ?_ ?_) <;> (first | rfl | omega | (simp only [go_sem]; done) | (simp [go_sem]; done) | (simp [go_sem]; omega))) | exact Sv.nil0 | exact Sv.em0 | exact Sv.sl0 | ((first | refine Sv.slFE (.inl ⟨rfl, rfl⟩) ?_ (Svs.eq ?_ ?_) | refine Sv.slFE (.inr rfl) ?_ (Svs.eq ?_ ?_)) <;> (first | rfl | omega | (simp only [go_sem]; done) | (simp [go_sem]; done) | (simp [go_sem]; omega))) | exact Svs.nilI | refine Svs.consI ?_ ?_ | refine Sv.tu ?_ | refine Sv.ag ?_)); done) | rfl)))
  · rintro k i1
    rcases Nat.lt_or_ge k l.length with hi | hi
    · obtain ⟨⟨x, y, z⟩, hx, hx'⟩ := dropG hi
      have hi' : (k : Int) < l.length := by omega
      have hd : (bds l).drop (k * 3) = [.v (.int .i64 x), .v (.int .i64 y), .v (.int .i64 z)] ++ bds (l.drop (k + 1)) := bds_drop hx
      simp only [go_sem, seval, L16_b0, S16, hi', hd, Int.toNat_natCast]
      repeat' (first
          | ((first | ((first | refine LNext_if ?_ ?_ | refine ZNext_if ?_ ?_ | refine ZY_if ?_ ?_); (first | omega | exact True.intro | (simp only [go_sem, List.length_map, List.length_cons, List.length_nil, List.length_append, List.length_replicate, List.length_drop, List.length_take, List.length_set, Nat.reduceAdd, Nat.reduceMul, true_and, and_true]; omega) | (refine And.intro ?_ ?_ <;> first | omega | exact True.intro | (simp only [List.length_map, List.length_cons, List.length_nil, List.length_append, List.length_replicate, List.length_drop, List.length_take, List.length_set]; omega)))) | (refine And.intro ?_ ?_; (show okA _ _ _ _ = true); kernel_rfl) | refine MX_ok (l := .seq _ _) ?_ | refine MX_ok (l := .reg _) ?_ | refine MX_ok (l := .cond _ _ _) ?_ | refine MX_ok (l := .block _ _) ?_ | refine MX_ok (l := .ret) ?_ | refine MX_ok (l := .skip) ?_); (try simp only [go_sem, seval, hi', hd, Int.toNat_natCast]))
          | ((first | refine MCond_split ?_ ?_ | refine NCond_split ?_ ?_ | refine LGuard_split ?_ ?_ | refine ZG_split ?_ ?_) <;> (intro hc; (try simp only [go_sem, seval, hc, hi', hd, Int.toNat_natCast]); (try simp only [decide_eq_true_eq, decide_eq_false_iff_not, Bool.not_eq_true', Bool.not_eq_false', Bool.not_eq_true, Bool.not_eq_false, beq_iff_eq, bne_iff_ne, ne_eq, beq_eq_false_iff_ne, bne_eq_false_iff_eq, Int.not_lt, Int.not_le, gt_iff_lt, ge_iff_le, Decidable.not_not] at hc)))
          | (refine And.intro ?_ ?_))
      refine MW_stillS dm16 mixedP dx16_6 ?_
      simp only [go_sem, seval, m16, hi', hd, Int.toNat_natCast]
      repeat' (first
          | ((first | ((first | refine LNext_if ?_ ?_ | refine ZNext_if ?_ ?_ | refine ZY_if ?_ ?_); (first | omega | exact True.intro | (simp only [go_sem, List.length_map, List.length_cons, List.length_nil, List.length_append, List.length_replicate, List.length_drop, List.length_take, List.length_set, Nat.reduceAdd, Nat.reduceMul, true_and, and_true]; omega) | (refine And.intro ?_ ?_ <;> first | omega | exact True.intro | (simp only [List.length_map, List.length_cons, List.length_nil, List.length_append, List.length_replicate, List.length_drop, List.length_take, List.length_set]; omega)))) | (refine And.intro ?_ ?_; (show okA _ _ _ _ = true); kernel_rfl) | refine MX_ok (l := .seq _ _) ?_ | refine MX_ok (l := .reg _) ?_ | refine MX_ok (l := .cond _ _ _) ?_ | refine MX_ok (l := .block _ _) ?_ | refine MX_ok (l := .ret) ?_ | refine MX_ok (l := .skip) ?_); (try simp only [go_sem, seval, hi', hd, Int.toNat_natCast]))
          | ((first | refine MCond_split ?_ ?_ | refine NCond_split ?_ ?_ | refine LGuard_split ?_ ?_ | refine ZG_split ?_ ?_) <;> (intro hc; (try simp only [go_sem, seval, hc, hi', hd, Int.toNat_natCast]); (try simp only [decide_eq_true_eq, decide_eq_false_iff_not, Bool.not_eq_true', Bool.not_eq_false', Bool.not_eq_true, Bool.not_eq_false, beq_iff_eq, bne_iff_ne, ne_eq, beq_eq_false_iff_ne, bne_eq_false_iff_eq, Int.not_lt, Int.not_le, gt_iff_lt, ge_iff_le, Decidable.not_not] at hc)))
          | (refine And.intro ?_ ?_))
      refine ⟨_, neqB rfl rfl, ?_⟩
      simp only [go_sem, seval]
      repeat' (first
          | ((first | ((first | refine LNext_if ?_ ?_ | refine ZNext_if ?_ ?_ | refine ZY_if ?_ ?_); (first | omega | exact True.intro | (simp only [go_sem, List.length_map, List.length_cons, List.length_nil, List.length_append, List.length_replicate, List.length_drop, List.length_take, List.length_set, Nat.reduceAdd, Nat.reduceMul, true_and, and_true]; omega) | (refine And.intro ?_ ?_ <;> first | omega | exact True.intro | (simp only [List.length_map, List.length_cons, List.length_nil, List.length_append, List.length_replicate, List.length_drop, List.length_take, List.length_set]; omega)))) | (refine And.intro ?_ ?_; (show okA _ _ _ _ = true); kernel_rfl) | refine MX_ok (l := .seq _ _) ?_ | refine MX_ok (l := .reg _) ?_ | refine MX_ok (l := .cond _ _ _) ?_ | refine MX_ok (l := .block _ _) ?_ | refine MX_ok (l := .ret) ?_ | refine MX_ok (l := .skip) ?_); (try simp only [go_sem, seval]))
          | ((first | refine MCond_split ?_ ?_ | refine NCond_split ?_ ?_ | refine LGuard_split ?_ ?_ | refine ZG_split ?_ ?_) <;> (intro hc; (try simp only [go_sem, seval, hc]); (try simp only [decide_eq_true_eq, decide_eq_false_iff_not, Bool.not_eq_true', Bool.not_eq_false', Bool.not_eq_true, Bool.not_eq_false, beq_iff_eq, bne_iff_ne, ne_eq, beq_eq_false_iff_ne, bne_eq_false_iff_eq, Int.not_lt, Int.not_le, gt_iff_lt, ge_iff_le, Decidable.not_not] at hc)))
          | (refine And.intro ?_ ?_))
      refine ⟨k + 1, by omega, by omega, ?_⟩
      (refine VS_of [] (by decide) ?_ ?_ (by decide); all_goals (repeat' (first | exact trivial | refine And.intro ?_ ?_ | exact ⟨rfl, rfl⟩ | exact Sg.any | ((first | refine ⟨_, rfl, ?_⟩ | refine ⟨_, .inl ⟨rfl, rfl⟩, ?_⟩ | refine ⟨_, .inr rfl, ?_⟩ | refine Sg.of ?_); (repeat' (first | ((first | refine Sv.cl (Cl.of ?_) | refine Svs.cl (Cls.of ?_)); simp only [go_sem, Bool.and_self, Bool.and_true]; done) | exact Sv.pt rfl | exact Sv.mp rfl | exact Sv.nil rfl | exact Sv.em rfl | (refine Sv.slE rfl ?_ ?_ <;> (first | rfl | omega | (simp only [wrapS (show k < 9223372036854775807 by omega)]; done) | (simp only [go_sem, wrapS (show k < 9223372036854775807 by omega)]; done) | (simp [wrapS (show k < 9223372036854775807 by omega)]; done) | (simp [wrapS (show k < 9223372036854775807 by omega)]; omega))) | ((first | refine Sv.eq ?_ ?_ | refine Svs.eq ?_ ?_) <;> (first | rfl | omega | (simp only [wrapS (show k < 9223372036854775807 by omega)]; done) | (simp only [go_sem, wrapS (show k < 9223372036854775807 by omega)]; done) | (simp [wrapS (show k < 9223372036854775807 by omega)]; done) | (simp [wrapS (show k < 9223372036854775807 by omega)]; omega))) | exact Sv.nil0 | exact Sv.em0 | exact Sv.sl0 | ((first | refine Sv.slFE (.inl ⟨rfl, rfl⟩) ?_ (Svs.eq ?_ ?_) | refine Sv.slFE (.inr rfl) ?_ (Svs.eq ?_ ?_)) <;> (first | rfl | omega | (simp only [wrapS (show k < 9223372036854775807 by omega)]; done) | (simp only [go_sem, wrapS (show k < 9223372036854775807 by omega)]; done) | (simp [wrapS (show k < 9223372036854775807 by omega)]; done) | (simp [wrapS (show k < 9223372036854775807 by omega)]; omega))) | exact Svs.nilI | refine Svs.consI ?_ ?_ | refine Sv.tu ?_ | refine Sv.ag ?_)); done) | rfl)))
    · have hi' : ¬ (k : Int) < l.length := by omega
      simp only [go_sem, seval, L16_b0, S16, hi']
      repeat' (first
          | ((first | ((first | refine LNext_if ?_ ?_ | refine ZNext_if ?_ ?_ | refine ZY_if ?_ ?_); (first | omega | exact True.intro | (simp only [go_sem, List.length_map, List.length_cons, List.length_nil, List.length_append, List.length_replicate, List.length_drop, List.length_take, List.length_set, Nat.reduceAdd, Nat.reduceMul, true_and, and_true]; omega) | (refine And.intro ?_ ?_ <;> first | omega | exact True.intro | (simp only [List.length_map, List.length_cons, List.length_nil, List.length_append, List.length_replicate, List.length_drop, List.length_take, List.length_set]; omega)))) | (refine And.intro ?_ ?_; (show okA _ _ _ _ = true); kernel_rfl) | refine MX_ok (l := .seq _ _) ?_ | refine MX_ok (l := .reg _) ?_ | refine MX_ok (l := .cond _ _ _) ?_ | refine MX_ok (l := .block _ _) ?_ | refine MX_ok (l := .ret) ?_ | refine MX_ok (l := .skip) ?_); (try simp only [go_sem, seval]))
          | ((first | refine MCond_split ?_ ?_ | refine NCond_split ?_ ?_ | refine LGuard_split ?_ ?_ | refine ZG_split ?_ ?_) <;> (intro hc; (try simp only [go_sem, seval, hc]); (try simp only [decide_eq_true_eq, decide_eq_false_iff_not, Bool.not_eq_true', Bool.not_eq_false', Bool.not_eq_true, Bool.not_eq_false, beq_iff_eq, bne_iff_ne, ne_eq, beq_eq_false_iff_ne, bne_eq_false_iff_eq, Int.not_lt, Int.not_le, gt_iff_lt, ge_iff_le, Decidable.not_not] at hc)))
          | (refine And.intro ?_ ?_))
      refine Fin_of ⟨rfl, rfl⟩ ?_; (refine VS_of [] (by decide) ?_ ?_ (by decide); all_goals (repeat' (first | exact trivial | refine And.intro ?_ ?_ | exact ⟨rfl, rfl⟩ | exact Sg.any | ((first | refine ⟨_, rfl, ?_⟩ | refine ⟨_, .inl ⟨rfl, rfl⟩, ?_⟩ | refine ⟨_, .inr rfl, ?_⟩ | refine Sg.of ?_); (repeat' (first | ((first | refine Sv.cl (Cl.of ?_) | refine Svs.cl (Cls.of ?_)); simp only [go_sem, Bool.and_self, Bool.and_true]; done) | exact Sv.pt rfl | exact Sv.mp rfl | exact Sv.nil rfl | exact Sv.em rfl | (refine Sv.slE rfl ?_ ?_ <;> (first | rfl | omega | (simp only [go_sem]; done) | (simp [go_sem]; done) | (simp [go_sem]; omega))) | ((first | refine Sv.eq ?_ ?_ | refine Svs.eq ?_ ?_) <;> (first | rfl | omega | (simp only [go_sem]; done) | (simp [go_sem]; done) | (simp [go_sem]; omega))) | exact Sv.nil0 | exact Sv.em0 | exact Sv.sl0 | ((first | refine Sv.slFE (.inl ⟨rfl, rfl⟩) ?_ (Svs.eq ?_ ?_) | refine Sv.slFE (.inr rfl) ?_ (Svs.eq ?_ ?_)) <;> (first | rfl | omega | (simp only [go_sem]; done) | (simp [go_sem]; done) | (simp [go_sem]; omega))) | exact Svs.nilI | refine Svs.consI ?_ ?_ | refine Sv.tu ?_ | refine Sv.ag ?_)); done) | rfl)))
set_option maxRecDepth 100000 in
theorem same9 (c : Int) (l : List Bd) (hl : l.length < 1000000) : APure Tryz.prog 9 [prV c l, prV c l] (.v (.bool true)) := by
  have c1 := same16 l hl
  refine callp9 ?_
  have h0' : (c == c) = true := by simp
  simp only [go_sem, seval, L9, prV, h0']
  repeat' (first
      | ((first | ((first | refine LCall_pure (c1) (Cls.of ?_) ?_); simp only [go_sem, Bool.and_self, Bool.and_true]) | ((first | refine LNext_if ?_ ?_ | refine ZNext_if ?_ ?_ | refine ZY_if ?_ ?_); (first | omega | exact True.intro | (simp only [go_sem, List.length_map, List.length_cons, List.length_nil, List.length_append, List.length_replicate, List.length_drop, List.length_take, List.length_set, Nat.reduceAdd, Nat.reduceMul, true_and, and_true]; omega) | (refine And.intro ?_ ?_ <;> first | omega | exact True.intro | (simp only [List.length_map, List.length_cons, List.length_nil, List.length_append, List.length_replicate, List.length_drop, List.length_take, List.length_set]; omega)))) | (refine And.intro ?_ ?_; (show okA _ _ _ _ = true); kernel_rfl) | refine MX_ok (l := .seq _ _) ?_ | refine MX_ok (l := .reg _) ?_ | refine MX_ok (l := .cond _ _ _) ?_ | refine MX_ok (l := .block _ _) ?_ | refine MX_ok (l := .ret) ?_ | refine MX_ok (l := .skip) ?_); (try simp only [go_sem, seval, h0']))
      | ((first | refine MCond_split ?_ ?_ | refine NCond_split ?_ ?_ | refine LGuard_split ?_ ?_ | refine ZG_split ?_ ?_) <;> (intro hc; (try simp only [go_sem, seval, hc, h0']); (try simp only [decide_eq_true_eq, decide_eq_false_iff_not, Bool.not_eq_true', Bool.not_eq_false', Bool.not_eq_true, Bool.not_eq_false, beq_iff_eq, bne_iff_ne, ne_eq, beq_eq_false_iff_ne, bne_eq_false_iff_eq, Int.not_lt, Int.not_le, gt_iff_lt, ge_iff_le, Decidable.not_not] at hc)))
      | (refine And.intro ?_ ?_))
  refine Fin_of ⟨rfl, rfl⟩ ?_; (refine VS_of [] (by decide) ?_ ?_ (by decide); all_goals (repeat' (first | exact trivial | refine And.intro ?_ ?_ | exact ⟨rfl, rfl⟩ | exact Sg.any | ((first | refine ⟨_, rfl, ?_⟩ | refine ⟨_, .inl ⟨rfl, rfl⟩, ?_⟩ | refine ⟨_, .inr rfl, ?_⟩ | refine Sg.of ?_); (repeat' (first | ((first | refine Sv.cl (Cl.of ?_) | refine Svs.cl (Cls.of ?_)); simp only [go_sem, Bool.and_self, Bool.and_true]; done) | exact Sv.pt rfl | exact Sv.mp rfl | exact Sv.nil rfl | exact Sv.em rfl | (refine Sv.slE rfl ?_ ?_ <;> (first | rfl | omega | (simp only [go_sem]; done) | (simp [go_sem]; done) | (simp [go_sem]; omega))) | ((first | refine Sv.eq ?_ ?_ | refine Svs.eq ?_ ?_) <;> (first | rfl | omega | (simp only [go_sem]; done) | (simp [go_sem]; done) | (simp [go_sem]; omega))) | exact Sv.nil0 | exact Sv.em0 | exact Sv.sl0 | ((first | refine Sv.slFE (.inl ⟨rfl, rfl⟩) ?_ (Svs.eq ?_ ?_) | refine Sv.slFE (.inr rfl) ?_ (Svs.eq ?_ ?_)) <;> (first | rfl | omega | (simp only [go_sem]; done) | (simp [go_sem]; done) | (simp [go_sem]; omega))) | exact Svs.nilI | refine Svs.consI ?_ ?_ | refine Sv.tu ?_ | refine Sv.ag ?_)); done) | rfl)))
end Go.Proofs.YthoonenhakbkgaaGreatDoor
