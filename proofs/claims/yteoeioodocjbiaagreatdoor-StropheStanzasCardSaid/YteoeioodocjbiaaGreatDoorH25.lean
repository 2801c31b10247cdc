/- Part 25 of the texts that lead to stropheStanzasCard_holds. No condition. -/
import Derived.Test.YteoeioodocjbiaaGreatDoorH18
import Derived.Test.YteoeioodocjbiaaGreatDoorH24
set_option linter.unusedSimpArgs false
set_option linter.unusedVariables false
set_option linter.unnecessarySimpa false
namespace Go.Proofs.YteoeioodocjbiaaGreatDoor
open Go Go.Abs
def blanks (n : Nat) : List AV := List.replicate n (.v (.string ⟨#[]⟩))
theorem blanks_eq (n : Nat) : (List.replicate n (List.map AV.v [Value.string ⟨#[]⟩])).flatten = blanks n := by
  induction n with
  | zero => rfl
  | succ n ih => rw [List.replicate_succ, List.flatten_cons, ih]; rfl
theorem blanks_len (n : Nat) : (blanks n).length = n := by simp [blanks]
theorem blanks_clb (n : Nat) : clbs (blanks n) = true := by rw [clbs_eq]; simp [blanks, AV.clb]
theorem blanks_one (n : Nat) : (blanks n).all (·.one) = true := by rw [List.all_eq_true]; intro x hx; rw [(List.mem_replicate.1 hx).2]; rfl
attribute [go_sem] blanks_len blanks_clb blanks_one
set_option maxRecDepth 100000 in
theorem callw17 {k : Nat} {args : List AV} {H : List AO} {R : AV → List AO → Prop} (h : MW Tryz.prog k L17 (endM Tryz.prog k [ResultVar.tmp 4] R) (args ++ List.replicate (27 - args.length) (.v undef)) H) : AFn Tryz.prog 17 k args H R :=
  AFn_of_MW Tryz.func17 low17 (by decide) rfl rfl h
set_option maxRecDepth 100000 in
theorem grow17 (n : Nat) (h0 : 0 < n) (hn : n ≤ 1000000) : AFn Tryz.prog 17 0 [.v (.slice none 0 0), .v (.int .i64 n)] [] (fun v Ho => v = .sl 0 0 0 ∧ Ho = [.cells 1 (blanks n)]) := by
  refine callw17 ?_
  have h1 : ¬ ((n : Int) < 0) := by omega
  have h2 : (0 : Int) < n := by omega
  have w1 : IntKind.wrap .i64 (0 : Int) = 0 := by decide
  have w2 : IntKind.wrap .i64 (n : Int) = (n : Int) := wrapI (by omega) (by omega)
  unfold L17
  refine NX_go ?_
  simp only [go_sem, seval]
  refine NX_go ?_
  simp only [go_sem, seval, h1]
  refine NX_go ?_
  simp only [go_sem, seval, h1]
  refine MW_seq (MW_seq (MW_regS (RegS_at 2 rfl (by simp) ?_)))
  simp only [go_sem, seval, List.take_succ_cons, List.take_zero]
  refine ⟨_, _, OpSem.capNil ti22 rfl, RegS_ops ?_⟩
  simp only [go_sem, seval, List.drop_succ_cons, List.drop_zero, w1, w2, Int.sub_zero]
  refine NX_go ?_
  simp only [go_sem, seval, h2, gt_iff_lt]
  refine MW_cond (t := true) rfl ?_
  refine MW_regS (RegS_at 2 rfl (by simp) ?_)
  simp only [go_sem, seval, List.take_succ_cons, List.take_zero]
  refine ⟨_, _, OpSem.capNil ti22 rfl, RegS_at 2 rfl (by simp) ?_⟩
  simp only [go_sem, seval, List.drop_succ_cons, List.drop_zero, List.take_succ_cons, List.take_zero]
  refine ⟨_, _, OpSem.appendZ ti22 ti3 rfl ti9 rfl rfl h2 (show (n : Int) * ((16 : Nat) : Int) ≤ 140737488355328 by omega) (by omega) (by decide), RegS_ops ?_⟩
  rw [Int.toNat_natCast, blanks_eq]
  simp only [go_sem, seval, List.nil_append, List.length_nil]
  repeat' (first
      | ((first | ((first | refine LNext_if ?_ ?_ | refine ZNext_if ?_ ?_ | refine ZY_if ?_ ?_); (first | omega | exact True.intro | (simp only [go_sem, List.length_map, List.length_cons, List.length_nil, List.length_append, List.length_replicate, List.length_drop, List.length_take, List.length_set, Nat.reduceAdd, Nat.reduceMul, true_and, and_true]; omega) | (refine And.intro ?_ ?_ <;> first | omega | exact True.intro | (simp only [List.length_map, List.length_cons, List.length_nil, List.length_append, List.length_replicate, List.length_drop, List.length_take, List.length_set]; omega)))) | (refine And.intro ?_ ?_; (show okA _ _ _ _ = true); kernel_rfl) | refine MX_ok (l := .seq _ _) ?_ | refine MX_ok (l := .reg _) ?_ | refine MX_ok (l := .cond _ _ _) ?_ | refine MX_ok (l := .block _ _) ?_ | refine MX_ok (l := .ret) ?_ | refine MX_ok (l := .skip) ?_); (try simp only [go_sem, seval]))
      | ((first | refine MCond_split ?_ ?_ | refine NCond_split ?_ ?_ | refine LGuard_split ?_ ?_ | refine ZG_split ?_ ?_) <;> (intro hc; (try simp only [go_sem, seval, hc]); (try simp only [decide_eq_true_eq, decide_eq_false_iff_not, Bool.not_eq_true', Bool.not_eq_false', Bool.not_eq_true, Bool.not_eq_false, beq_iff_eq, bne_iff_ne, ne_eq, beq_eq_false_iff_ne, bne_eq_false_iff_eq, Int.not_lt, Int.not_le, gt_iff_lt, ge_iff_le, Decidable.not_not] at hc)))
      | (refine And.intro ?_ ?_))
  refine Fin_of ⟨rfl, rfl⟩ ?_; (refine VS_of [.old 0] (by decide) ?_ ?_ (by decide); all_goals (repeat' (first | exact trivial | refine And.intro ?_ ?_ | exact ⟨rfl, rfl⟩ | exact Sg.any | ((first | refine ⟨_, rfl, ?_⟩ | refine ⟨_, .inl ⟨rfl, rfl⟩, ?_⟩ | refine ⟨_, .inr rfl, ?_⟩ | refine Sg.of ?_); (repeat' (first | ((first | refine Sv.cl (Cl.of ?_) | refine Svs.cl (Cls.of ?_)); simp only [go_sem, Bool.and_self, Bool.and_true]; done) | exact Sv.pt rfl | exact Sv.mp rfl | exact Sv.nil rfl | exact Sv.em rfl | (refine Sv.slE rfl ?_ ?_ <;> (first | rfl | omega | (simp only [go_sem]; done) | (simp [go_sem]; done) | (simp [go_sem]; omega))) | ((first | refine Sv.eq ?_ ?_ | refine Svs.eq ?_ ?_) <;> (first | rfl | omega | (simp only [go_sem]; done) | (simp [go_sem]; done) | (simp [go_sem]; omega))) | exact Sv.nil0 | exact Sv.em0 | exact Sv.sl0 | ((first | refine Sv.slFE (.inl ⟨rfl, rfl⟩) ?_ (Svs.eq ?_ ?_) | refine Sv.slFE (.inr rfl) ?_ (Svs.eq ?_ ?_)) <;> (first | rfl | omega | (simp only [go_sem]; done) | (simp [go_sem]; done) | (simp [go_sem]; omega))) | exact Svs.nilI | refine Svs.consI ?_ ?_ | refine Sv.tu ?_ | refine Sv.ag ?_)); done) | rfl)))
def flat (a : List (List ByteArray)) : List ByteArray := a.flatten
def upto (a : List (List ByteArray)) (k : Nat) : Nat := (flat (a.take k)).length
theorem upto_succ {a : List (List ByteArray)} {k : Nat} {x : List ByteArray} (h : a[k]? = some x) : upto a (k + 1) = upto a k + x.length := by
  unfold upto flat
  rw [List.take_add_one, h]
  simp
theorem flat_succ {a : List (List ByteArray)} {k : Nat} {x : List ByteArray} (h : a[k]? = some x) : flat (a.take (k + 1)) = flat (a.take k) ++ x := by
  unfold flat
  rw [List.take_add_one, h]
  simp
theorem upto_le (a : List (List ByteArray)) (k : Nat) : upto a k ≤ (flat a).length := by
  unfold upto flat
  conv => rhs; rw [← List.take_append_drop k a, List.flatten_append, List.length_append]
  omega
theorem upto_all {a : List (List ByteArray)} {k : Nat} (h : a.length ≤ k) : upto a k = (flat a).length := by
  unfold upto; rw [List.take_of_length_le h]
def filled (a : List (List ByteArray)) (k : Nat) : List AV := strs (flat (a.take k)) ++ blanks ((flat a).length - upto a k)
theorem filled_len (a : List (List ByteArray)) (k : Nat) : (filled a k).length = (flat a).length := by
  have := upto_le a k
  unfold filled
  rw [List.length_append, strs_len, blanks_len]
  show upto a k + _ = _
  omega
theorem filled_clb (a : List (List ByteArray)) (k : Nat) : clbs (filled a k) = true := by
  have h1 := strs_clb (flat (a.take k))
  have h2 := blanks_clb ((flat a).length - upto a k)
  rw [clbs_eq] at h1 h2 ⊢
  unfold filled
  rw [List.all_append, h1, h2]; rfl
attribute [go_sem] filled_clb
theorem filled_next {a : List (List ByteArray)} {k : Nat} {x : List ByteArray} (h : a[k]? = some x) : (filled a k).take (upto a k) ++ strs x ++ (filled a k).drop (upto a k + x.length) = filled a (k + 1) := by
  have e1 : (filled a k).take (upto a k) = strs (flat (a.take k)) := by
    unfold filled
    rw [List.take_append_of_le_length (by rw [strs_len]; exact Nat.le_refl _), List.take_of_length_le (by rw [strs_len]; exact Nat.le_refl _)]
  have e2 : (filled a k).drop (upto a k + x.length) = blanks ((flat a).length - upto a (k + 1)) := by
    unfold filled
    have e : (strs (flat (a.take k)) ++ blanks ((flat a).length - upto a k)).drop (upto a k) = blanks ((flat a).length - upto a k) := by
      rw [List.drop_append_of_le_length (by rw [strs_len]; exact Nat.le_refl _), List.drop_of_length_le (by rw [strs_len]; exact Nat.le_refl _), List.nil_append]
    rw [upto_succ h, ← List.drop_drop, e]
    unfold blanks
    rw [List.drop_replicate]
    congr 1; omega
  rw [e1, e2, filled, flat_succ h, ← strs_app]
theorem filled_end {a : List (List ByteArray)} {k : Nat} (h : a.length ≤ k) : filled a k = strs (flat a) := by
  unfold filled
  rw [upto_all h, List.take_of_length_le h, Nat.sub_self]
  simp [blanks]
theorem filled_zero (a : List (List ByteArray)) : filled a 0 = blanks (flat a).length := by
  simp [filled, flat, upto, strs_nil]
def S10a (a : List (List ByteArray)) (k : Nat) : List AV := [.im a.length (chs a), .any, .any, .v (.int .i64 (upto a k)), .any, .any, .any, .any, .any, .im a.length (chs a), .v (.int .i64 a.length), .v (.int .i64 k), .any, .any, .any, .any, .any, .any, .any, .any, .any, .any, .any, .any, .any, .any, .any, .any, .any, .any, .any, .any, .any, .any, .any, .any]
def S10b (a : List (List ByteArray)) (k : Nat) : List AV := [.im a.length (chs a), .any, .any, .any, .any, .any, .sl 0 0 (upto a k), .any, .any, .any, .any, .any, .any, .any, .any, .any, .any, .any, .any, .any, .any, .any, .any, .any, .any, .im a.length (chs a), .v (.int .i64 a.length), .v (.int .i64 k), .any, .any, .any, .any, .any, .any, .any, .any]
set_option maxRecDepth 100000 in
set_option maxHeartbeats 1000000 in
theorem concat10 (a : List (List ByteArray)) (ha : a.length ≤ 1000000) (hn : (flat a).length ≤ 1000000) (h0 : 0 < (flat a).length) (hx0 : ∀ x ∈ a, 0 < x.length) : APure Tryz.prog 10 [.im a.length (chs a)] (.im (flat a).length (strs (flat a))) := by
  refine callp10 ?_
  simp only [go_sem, seval, L10]
  repeat' (first
      | ((first | ((first | refine LNext_if ?_ ?_ | refine ZNext_if ?_ ?_ | refine ZY_if ?_ ?_); (first | omega | exact True.intro | (simp only [go_sem, List.length_map, List.length_cons, List.length_nil, List.length_append, List.length_replicate, List.length_drop, List.length_take, List.length_set, Nat.reduceAdd, Nat.reduceMul, true_and, and_true]; omega) | (refine And.intro ?_ ?_ <;> first | omega | exact True.intro | (simp only [List.length_map, List.length_cons, List.length_nil, List.length_append, List.length_replicate, List.length_drop, List.length_take, List.length_set]; omega)))) | (refine And.intro ?_ ?_; (show okA _ _ _ _ = true); kernel_rfl) | refine MX_ok (l := .seq _ _) ?_ | refine MX_ok (l := .reg _) ?_ | refine MX_ok (l := .cond _ _ _) ?_ | refine MX_ok (l := .block _ _) ?_ | refine MX_ok (l := .ret) ?_ | refine MX_ok (l := .skip) ?_); (try simp only [go_sem, seval]))
      | ((first | refine MCond_split ?_ ?_ | refine NCond_split ?_ ?_ | refine LGuard_split ?_ ?_ | refine ZG_split ?_ ?_) <;> (intro hc; (try simp only [go_sem, seval, hc]); (try simp only [decide_eq_true_eq, decide_eq_false_iff_not, Bool.not_eq_true', Bool.not_eq_false', Bool.not_eq_true, Bool.not_eq_false, beq_iff_eq, bne_iff_ne, ne_eq, beq_eq_false_iff_ne, bne_eq_false_iff_eq, Int.not_lt, Int.not_le, gt_iff_lt, ge_iff_le, Decidable.not_not] at hc)))
      | (refine And.intro ?_ ?_))
  refine MW_loop_st (S10a a) (fun _ => []) (fun k => k ≤ a.length) (fun k => a.length - k) 0 ?_ (Nat.zero_le _) ?_
  · (refine VS_of [] (by decide) ?_ ?_ (by decide); all_goals (repeat' (first | exact trivial | refine And.intro ?_ ?_ | exact ⟨rfl, rfl⟩ | exact Sg.any | ((first | refine ⟨_, rfl, ?_⟩ | refine ⟨_, .inl ⟨rfl, rfl⟩, ?_⟩ | refine ⟨_, .inr rfl, ?_⟩ | refine Sg.of ?_); (repeat' (first | ((first | refine Sv.cl (Cl.of ?_) | refine Svs.cl (Cls.of ?_)); simp only [go_sem, Bool.and_self, Bool.and_true]; done) | exact Sv.pt rfl | exact Sv.mp rfl | exact Sv.nil rfl | exact Sv.em rfl | (refine Sv.slE rfl ?_ ?_ <;> (first | rfl | omega | (simp only [upto, flat]; done) | (simp only [go_sem, upto, flat]; done) | (simp [upto, flat]; done) | (simp [upto, flat]; omega))) | ((first | refine Sv.eq ?_ ?_ | refine Svs.eq ?_ ?_) <;> (first | rfl | omega | (simp only [upto, flat]; done) | (simp only [go_sem, upto, flat]; done) | (simp [upto, flat]; done) | (simp [upto, flat]; omega))) | exact Sv.nil0 | exact Sv.em0 | exact Sv.sl0 | ((first | refine Sv.slFE (.inl ⟨rfl, rfl⟩) ?_ (Svs.eq ?_ ?_) | refine Sv.slFE (.inr rfl) ?_ (Svs.eq ?_ ?_)) <;> (first | rfl | omega | (simp only [upto, flat]; done) | (simp only [go_sem, upto, flat]; done) | (simp [upto, flat]; done) | (simp [upto, flat]; omega))) | exact Svs.nilI | refine Svs.consI ?_ ?_ | refine Sv.tu ?_ | refine Sv.ag ?_)); done) | rfl)))
  · rintro k i1
    rcases Nat.lt_or_ge k a.length with hi | hi
    · obtain ⟨x, hx, hx'⟩ := dropG hi
      have hi' : (k : Int) < a.length := by omega
      have hu := upto_succ hx
      have hle := upto_le a (k + 1)
      have hw : IntKind.wrap .i64 ((upto a k : Int) + (x.length : Int)) = (upto a (k + 1) : Int) := by rw [wrapI (by omega) (by omega), hu]; rfl
      have hneg : ¬ ((upto a (k + 1) : Int) < 0) := by omega
      simp only [go_sem, seval, L10_b0, S10a, hi', chs_drop hx, Int.toNat_natCast, hw, hneg]
      repeat' (first
          | ((first | ((first | refine LNext_if ?_ ?_ | refine ZNext_if ?_ ?_ | refine ZY_if ?_ ?_); (first | omega | exact True.intro | (simp only [go_sem, List.length_map, List.length_cons, List.length_nil, List.length_append, List.length_replicate, List.length_drop, List.length_take, List.length_set, Nat.reduceAdd, Nat.reduceMul, true_and, and_true]; omega) | (refine And.intro ?_ ?_ <;> first | omega | exact True.intro | (simp only [List.length_map, List.length_cons, List.length_nil, List.length_append, List.length_replicate, List.length_drop, List.length_take, List.length_set]; omega)))) | (refine And.intro ?_ ?_; (show okA _ _ _ _ = true); kernel_rfl) | refine MX_ok (l := .seq _ _) ?_ | refine MX_ok (l := .reg _) ?_ | refine MX_ok (l := .cond _ _ _) ?_ | refine MX_ok (l := .block _ _) ?_ | refine MX_ok (l := .ret) ?_ | refine MX_ok (l := .skip) ?_); (try simp only [go_sem, seval, hi', chs_drop hx, Int.toNat_natCast, hw, hneg]))
          | ((first | refine MCond_split ?_ ?_ | refine NCond_split ?_ ?_ | refine LGuard_split ?_ ?_ | refine ZG_split ?_ ?_) <;> (intro hc; (try simp only [go_sem, seval, hc, hi', chs_drop hx, Int.toNat_natCast, hw, hneg]); (try simp only [decide_eq_true_eq, decide_eq_false_iff_not, Bool.not_eq_true', Bool.not_eq_false', Bool.not_eq_true, Bool.not_eq_false, beq_iff_eq, bne_iff_ne, ne_eq, beq_eq_false_iff_ne, bne_eq_false_iff_eq, Int.not_lt, Int.not_le, gt_iff_lt, ge_iff_le, Decidable.not_not] at hc)))
          | (refine And.intro ?_ ?_))
      refine ⟨k + 1, by omega, by omega, ?_⟩
      (refine VS_of [] (by decide) ?_ ?_ (by decide); all_goals (repeat' (first | exact trivial | refine And.intro ?_ ?_ | exact ⟨rfl, rfl⟩ | exact Sg.any | ((first | refine ⟨_, rfl, ?_⟩ | refine ⟨_, .inl ⟨rfl, rfl⟩, ?_⟩ | refine ⟨_, .inr rfl, ?_⟩ | refine Sg.of ?_); (repeat' (first | ((first | refine Sv.cl (Cl.of ?_) | refine Svs.cl (Cls.of ?_)); simp only [go_sem, Bool.and_self, Bool.and_true]; done) | exact Sv.pt rfl | exact Sv.mp rfl | exact Sv.nil rfl | exact Sv.em rfl | (refine Sv.slE rfl ?_ ?_ <;> (first | rfl | omega | (simp only [wrapS (show k < 9223372036854775807 by omega)]; done) | (simp only [go_sem, wrapS (show k < 9223372036854775807 by omega)]; done) | (simp [wrapS (show k < 9223372036854775807 by omega)]; done) | (simp [wrapS (show k < 9223372036854775807 by omega)]; omega))) | ((first | refine Sv.eq ?_ ?_ | refine Svs.eq ?_ ?_) <;> (first | rfl | omega | (simp only [wrapS (show k < 9223372036854775807 by omega)]; done) | (simp only [go_sem, wrapS (show k < 9223372036854775807 by omega)]; done) | (simp [wrapS (show k < 9223372036854775807 by omega)]; done) | (simp [wrapS (show k < 9223372036854775807 by omega)]; omega))) | exact Sv.nil0 | exact Sv.em0 | exact Sv.sl0 | ((first | refine Sv.slFE (.inl ⟨rfl, rfl⟩) ?_ (Svs.eq ?_ ?_) | refine Sv.slFE (.inr rfl) ?_ (Svs.eq ?_ ?_)) <;> (first | rfl | omega | (simp only [wrapS (show k < 9223372036854775807 by omega)]; done) | (simp only [go_sem, wrapS (show k < 9223372036854775807 by omega)]; done) | (simp [wrapS (show k < 9223372036854775807 by omega)]; done) | (simp [wrapS (show k < 9223372036854775807 by omega)]; omega))) | exact Svs.nilI | refine Svs.consI ?_ ?_ | refine Sv.tu ?_ | refine Sv.ag ?_)); done) | rfl)))
    · have hi' : ¬ (k : Int) < a.length := by omega
      have hu := upto_all hi
      simp only [go_sem, seval, L10_b0, S10a, hi', hu]
      repeat' (first
          | ((first | ((first | refine LNext_if ?_ ?_ | refine ZNext_if ?_ ?_ | refine ZY_if ?_ ?_); (first | omega | exact True.intro | (simp only [go_sem, List.length_map, List.length_cons, List.length_nil, List.length_append, List.length_replicate, List.length_drop, List.length_take, List.length_set, Nat.reduceAdd, Nat.reduceMul, true_and, and_true]; omega) | (refine And.intro ?_ ?_ <;> first | omega | exact True.intro | (simp only [List.length_map, List.length_cons, List.length_nil, List.length_append, List.length_replicate, List.length_drop, List.length_take, List.length_set]; omega)))) | (refine And.intro ?_ ?_; (show okA _ _ _ _ = true); kernel_rfl) | refine NX_go (l := .seq _ _) ?_ | refine NX_go (l := .reg _) ?_ | refine NX_go (l := .cond _ _ _) ?_ | refine NX_go (l := .block _ _) ?_ | refine NX_go (l := .ret) ?_ | refine NX_go (l := .skip) ?_); (try simp only [go_sem, seval, hi', hu]))
          | ((first | refine LGuard_split ?_ ?_ | refine ZG_split ?_ ?_) <;> (intro hc; (try simp only [go_sem, seval, hc, hi', hu]); (try simp only [decide_eq_true_eq, decide_eq_false_iff_not, Bool.not_eq_true', Bool.not_eq_false', Bool.not_eq_true, Bool.not_eq_false, beq_iff_eq, bne_iff_ne, ne_eq, beq_eq_false_iff_ne, bne_eq_false_iff_eq, Int.not_lt, Int.not_le, gt_iff_lt, ge_iff_le, Decidable.not_not] at hc)))
          | (refine And.intro ?_ ?_))
      (refine LCall_fn (grow17 _ h0 hn) [] (by decide) (by simp) (by decide) ?_ ?_ ?_; (focus ((repeat' (first | exact trivial | refine And.intro ?_ ?_ | exact ⟨rfl, rfl⟩ | ((first | refine ⟨_, rfl, ?_⟩ | refine ⟨_, .inl ⟨rfl, rfl⟩, ?_⟩ | refine ⟨_, .inr rfl, ?_⟩); (repeat' (first | ((first | refine Sv.cl (Cl.of ?_) | refine Svs.cl (Cls.of ?_)); simp only [go_sem, Bool.and_self, Bool.and_true]; done) | exact Sv.pt rfl | exact Sv.mp rfl | exact Sv.nil rfl | exact Sv.em rfl | (refine Sv.slE rfl ?_ ?_ <;> (first | rfl | omega | (simp only [go_sem]; done) | (simp [go_sem]; done) | (simp [go_sem]; omega))) | ((first | refine Sv.eq ?_ ?_ | refine Svs.eq ?_ ?_) <;> (first | rfl | omega | (simp only [go_sem]; done) | (simp [go_sem]; done) | (simp [go_sem]; omega))) | exact Sv.nil0 | exact Sv.em0 | exact Sv.sl0 | ((first | refine Sv.slFE (.inl ⟨rfl, rfl⟩) ?_ (Svs.eq ?_ ?_) | refine Sv.slFE (.inr rfl) ?_ (Svs.eq ?_ ?_)) <;> (first | rfl | omega | (simp only [go_sem]; done) | (simp [go_sem]; done) | (simp [go_sem]; omega))) | exact Svs.nilI | refine Svs.consI ?_ ?_ | refine Sv.tu ?_ | refine Sv.ag ?_)); done) | rfl)); done)); (focus ((repeat' (first | ((first | refine Sv.cl (Cl.of ?_) | refine Svs.cl (Cls.of ?_)); simp only [go_sem, Bool.and_self, Bool.and_true]; done) | exact Sv.pt rfl | exact Sv.mp rfl | exact Sv.nil rfl | exact Sv.em rfl | (refine Sv.slE rfl ?_ ?_ <;> (first | rfl | omega | (simp only [go_sem]; done) | (simp [go_sem]; done) | (simp [go_sem]; omega))) | ((first | refine Sv.eq ?_ ?_ | refine Svs.eq ?_ ?_) <;> (first | rfl | omega | (simp only [go_sem]; done) | (simp [go_sem]; done) | (simp [go_sem]; omega))) | exact Sv.nil0 | exact Sv.em0 | exact Sv.sl0 | ((first | refine Sv.slFE (.inl ⟨rfl, rfl⟩) ?_ (Svs.eq ?_ ?_) | refine Sv.slFE (.inr rfl) ?_ (Svs.eq ?_ ?_)) <;> (first | rfl | omega | (simp only [go_sem]; done) | (simp [go_sem]; done) | (simp [go_sem]; omega))) | exact Svs.nilI | refine Svs.consI ?_ ?_ | refine Sv.tu ?_ | refine Sv.ag ?_)); done)); (rintro _ _ ⟨rfl, rfl⟩); (try simp only [go_sem, seval, tau, upd, List.set_cons_zero, List.set_cons_succ, List.map_cons, List.map_nil, List.drop_zero, List.drop_succ_cons, List.drop_nil, Nat.not_lt_zero, Nat.sub_zero, List.cons_append, List.nil_append]))
      repeat' (first
          | ((first | ((first | refine LNext_if ?_ ?_ | refine ZNext_if ?_ ?_ | refine ZY_if ?_ ?_); (first | omega | exact True.intro | (simp only [go_sem, List.length_map, List.length_cons, List.length_nil, List.length_append, List.length_replicate, List.length_drop, List.length_take, List.length_set, Nat.reduceAdd, Nat.reduceMul, true_and, and_true]; omega) | (refine And.intro ?_ ?_ <;> first | omega | exact True.intro | (simp only [List.length_map, List.length_cons, List.length_nil, List.length_append, List.length_replicate, List.length_drop, List.length_take, List.length_set]; omega)))) | (refine And.intro ?_ ?_; (show okA _ _ _ _ = true); kernel_rfl) | refine MX_ok (l := .seq _ _) ?_ | refine MX_ok (l := .reg _) ?_ | refine MX_ok (l := .cond _ _ _) ?_ | refine MX_ok (l := .block _ _) ?_ | refine MX_ok (l := .ret) ?_ | refine MX_ok (l := .skip) ?_); (try simp only [go_sem, seval]))
          | ((first | refine MCond_split ?_ ?_ | refine NCond_split ?_ ?_ | refine LGuard_split ?_ ?_ | refine ZG_split ?_ ?_) <;> (intro hc; (try simp only [go_sem, seval, hc]); (try simp only [decide_eq_true_eq, decide_eq_false_iff_not, Bool.not_eq_true', Bool.not_eq_false', Bool.not_eq_true, Bool.not_eq_false, beq_iff_eq, bne_iff_ne, ne_eq, beq_eq_false_iff_ne, bne_eq_false_iff_eq, Int.not_lt, Int.not_le, gt_iff_lt, ge_iff_le, Decidable.not_not] at hc)))
          | (refine And.intro ?_ ?_))
      refine MW_loop_sw (S10b a) (fun k => [.cells 1 (filled a k)]) (fun k => k ≤ a.length) (fun k => a.length - k) 0 ?_ (Nat.zero_le _) ?_
      · (refine VS_of [.old 0] (by decide) ?_ ?_ (by decide); all_goals (repeat' (first | exact trivial | refine And.intro ?_ ?_ | exact ⟨rfl, rfl⟩ | exact Sg.any | ((first | refine ⟨_, rfl, ?_⟩ | refine ⟨_, .inl ⟨rfl, rfl⟩, ?_⟩ | refine ⟨_, .inr rfl, ?_⟩ | refine Sg.of ?_); (repeat' (first | ((first | refine Sv.cl (Cl.of ?_) | refine Svs.cl (Cls.of ?_)); simp only [go_sem, Bool.and_self, Bool.and_true]; done) | exact Sv.pt rfl | exact Sv.mp rfl | exact Sv.nil rfl | exact Sv.em rfl | (refine Sv.slE rfl ?_ ?_ <;> (first | rfl | omega | (simp only [upto, flat, filled_zero]; done) | (simp only [go_sem, upto, flat, filled_zero]; done) | (simp [upto, flat, filled_zero]; done) | (simp [upto, flat, filled_zero]; omega))) | ((first | refine Sv.eq ?_ ?_ | refine Svs.eq ?_ ?_) <;> (first | rfl | omega | (simp only [upto, flat, filled_zero]; done) | (simp only [go_sem, upto, flat, filled_zero]; done) | (simp [upto, flat, filled_zero]; done) | (simp [upto, flat, filled_zero]; omega))) | exact Sv.nil0 | exact Sv.em0 | exact Sv.sl0 | ((first | refine Sv.slFE (.inl ⟨rfl, rfl⟩) ?_ (Svs.eq ?_ ?_) | refine Sv.slFE (.inr rfl) ?_ (Svs.eq ?_ ?_)) <;> (first | rfl | omega | (simp only [upto, flat, filled_zero]; done) | (simp only [go_sem, upto, flat, filled_zero]; done) | (simp [upto, flat, filled_zero]; done) | (simp [upto, flat, filled_zero]; omega))) | exact Svs.nilI | refine Svs.consI ?_ ?_ | refine Sv.tu ?_ | refine Sv.ag ?_)); done) | rfl)))
      clear hi hi' hu i1 k
      rintro k i1
      rcases Nat.lt_or_ge k a.length with hi | hi
      · obtain ⟨x, hx, hx'⟩ := dropG hi
        have hi' : (k : Int) < a.length := by omega
        have hu := upto_succ hx
        have hle := upto_le a (k + 1)
        have hxl := hx0 x (List.mem_of_getElem? hx)
        unfold L10_b1
        refine NX_go ?_
        simp only [go_sem, seval, S10b, hi']
        refine NX_go ?_
        simp only [go_sem, seval]
        refine MW_seq (MW_block ?_)
        refine NX_go ?_
        simp only [go_sem, seval, hi', chs_drop hx, Int.toNat_natCast]
        refine LNext_if ⟨by omega, hi⟩ ?_
        simp only [go_sem, seval]
        have hap : ApI Tryz.prog [.cells 1 (filled a k)] 22 22 9 ⟨.string, 1, 16, [.string ⟨#[]⟩]⟩ (.im x.length (strs x)) x.length (strs x) := ⟨⟨_, _, _, ti22⟩, ti9, ⟨_, _, _, _, ti22, rfl⟩, rfl, rfl, by simp [firstA, strs_len, strs_take], strs_one x, strs_len x⟩
        have hl := filled_len a k
        refine MW_regS (RegS_at 2 rfl (by simp) ?_)
        simp only [go_sem, seval, List.take_succ_cons, List.take_zero]
        refine ⟨_, _, OpSem.appendIn hap rfl (.inr ⟨rfl, by omega⟩) (by omega), RegS_ops ?_⟩
        rw [filled_next hx, ← hu]
        simp only [go_sem, seval, List.drop_succ_cons, List.drop_zero]
        repeat' (first
            | ((first | ((first | refine LNext_if ?_ ?_ | refine ZNext_if ?_ ?_ | refine ZY_if ?_ ?_); (first | omega | exact True.intro | (simp only [go_sem, List.length_map, List.length_cons, List.length_nil, List.length_append, List.length_replicate, List.length_drop, List.length_take, List.length_set, Nat.reduceAdd, Nat.reduceMul, true_and, and_true]; omega) | (refine And.intro ?_ ?_ <;> first | omega | exact True.intro | (simp only [List.length_map, List.length_cons, List.length_nil, List.length_append, List.length_replicate, List.length_drop, List.length_take, List.length_set]; omega)))) | (refine And.intro ?_ ?_; (show okA _ _ _ _ = true); kernel_rfl) | refine MX_ok (l := .seq _ _) ?_ | refine MX_ok (l := .reg _) ?_ | refine MX_ok (l := .cond _ _ _) ?_ | refine MX_ok (l := .block _ _) ?_ | refine MX_ok (l := .ret) ?_ | refine MX_ok (l := .skip) ?_); (try simp only [go_sem, seval]))
            | ((first | refine MCond_split ?_ ?_ | refine NCond_split ?_ ?_ | refine LGuard_split ?_ ?_ | refine ZG_split ?_ ?_) <;> (intro hc; (try simp only [go_sem, seval, hc]); (try simp only [decide_eq_true_eq, decide_eq_false_iff_not, Bool.not_eq_true', Bool.not_eq_false', Bool.not_eq_true, Bool.not_eq_false, beq_iff_eq, bne_iff_ne, ne_eq, beq_eq_false_iff_ne, bne_eq_false_iff_eq, Int.not_lt, Int.not_le, gt_iff_lt, ge_iff_le, Decidable.not_not] at hc)))
            | (refine And.intro ?_ ?_))
        refine ⟨k + 1, by omega, by omega, ?_⟩
        (refine VS_of [.old 0] (by decide) ?_ ?_ (by decide); all_goals (repeat' (first | exact trivial | refine And.intro ?_ ?_ | exact ⟨rfl, rfl⟩ | exact Sg.any | ((first | refine ⟨_, rfl, ?_⟩ | refine ⟨_, .inl ⟨rfl, rfl⟩, ?_⟩ | refine ⟨_, .inr rfl, ?_⟩ | refine Sg.of ?_); (repeat' (first | ((first | refine Sv.cl (Cl.of ?_) | refine Svs.cl (Cls.of ?_)); simp only [go_sem, Bool.and_self, Bool.and_true]; done) | exact Sv.pt rfl | exact Sv.mp rfl | exact Sv.nil rfl | exact Sv.em rfl | (refine Sv.slE rfl ?_ ?_ <;> (first | rfl | omega | (simp only [wrapS (show k < 9223372036854775807 by omega)]; done) | (simp only [go_sem, wrapS (show k < 9223372036854775807 by omega)]; done) | (simp [wrapS (show k < 9223372036854775807 by omega)]; done) | (simp [wrapS (show k < 9223372036854775807 by omega)]; omega))) | ((first | refine Sv.eq ?_ ?_ | refine Svs.eq ?_ ?_) <;> (first | rfl | omega | (simp only [wrapS (show k < 9223372036854775807 by omega)]; done) | (simp only [go_sem, wrapS (show k < 9223372036854775807 by omega)]; done) | (simp [wrapS (show k < 9223372036854775807 by omega)]; done) | (simp [wrapS (show k < 9223372036854775807 by omega)]; omega))) | exact Sv.nil0 | exact Sv.em0 | exact Sv.sl0 | ((first | refine Sv.slFE (.inl ⟨rfl, rfl⟩) ?_ (Svs.eq ?_ ?_) | refine Sv.slFE (.inr rfl) ?_ (Svs.eq ?_ ?_)) <;> (first | rfl | omega | (simp only [wrapS (show k < 9223372036854775807 by omega)]; done) | (simp only [go_sem, wrapS (show k < 9223372036854775807 by omega)]; done) | (simp [wrapS (show k < 9223372036854775807 by omega)]; done) | (simp [wrapS (show k < 9223372036854775807 by omega)]; omega))) | exact Svs.nilI | refine Svs.consI ?_ ?_ | refine Sv.tu ?_ | refine Sv.ag ?_)); done) | rfl)))
      · have hi' : ¬ (k : Int) < a.length := by omega
        have hu := upto_all hi
        refine MX_ok ?_
        simp only [go_sem, seval, L10_b1, S10b, hi', filled_end hi, hu]
        repeat' (first
            | ((first | ((first | refine LNext_if ?_ ?_ | refine ZNext_if ?_ ?_ | refine ZY_if ?_ ?_); (first | omega | exact True.intro | (simp only [go_sem, List.length_map, List.length_cons, List.length_nil, List.length_append, List.length_replicate, List.length_drop, List.length_take, List.length_set, Nat.reduceAdd, Nat.reduceMul, true_and, and_true]; omega) | (refine And.intro ?_ ?_ <;> first | omega | exact True.intro | (simp only [List.length_map, List.length_cons, List.length_nil, List.length_append, List.length_replicate, List.length_drop, List.length_take, List.length_set]; omega)))) | (refine And.intro ?_ ?_; (show okA _ _ _ _ = true); kernel_rfl) | refine MX_ok (l := .seq _ _) ?_ | refine MX_ok (l := .reg _) ?_ | refine MX_ok (l := .cond _ _ _) ?_ | refine MX_ok (l := .block _ _) ?_ | refine MX_ok (l := .ret) ?_ | refine MX_ok (l := .skip) ?_); (try simp only [go_sem, seval, hi', filled_end hi, hu]))
            | ((first | refine MCond_split ?_ ?_ | refine NCond_split ?_ ?_ | refine LGuard_split ?_ ?_ | refine ZG_split ?_ ?_) <;> (intro hc; (try simp only [go_sem, seval, hc, hi', filled_end hi, hu]); (try simp only [decide_eq_true_eq, decide_eq_false_iff_not, Bool.not_eq_true', Bool.not_eq_false', Bool.not_eq_true, Bool.not_eq_false, beq_iff_eq, bne_iff_ne, ne_eq, beq_eq_false_iff_ne, bne_eq_false_iff_eq, Int.not_lt, Int.not_le, gt_iff_lt, ge_iff_le, Decidable.not_not] at hc)))
            | (refine And.intro ?_ ?_))
        refine Fin_of ⟨rfl, rfl⟩ ?_; (refine VS_of [] (by decide) ?_ ?_ (by decide); all_goals (repeat' (first | exact trivial | refine And.intro ?_ ?_ | exact ⟨rfl, rfl⟩ | exact Sg.any | ((first | refine ⟨_, rfl, ?_⟩ | refine ⟨_, .inl ⟨rfl, rfl⟩, ?_⟩ | refine ⟨_, .inr rfl, ?_⟩ | refine Sg.of ?_); (repeat' (first | ((first | refine Sv.cl (Cl.of ?_) | refine Svs.cl (Cls.of ?_)); simp only [go_sem, Bool.and_self, Bool.and_true]; done) | exact Sv.pt rfl | exact Sv.mp rfl | exact Sv.nil rfl | exact Sv.em rfl | (refine Sv.slE rfl ?_ ?_ <;> (first | rfl | omega | (simp only [go_sem]; done) | (simp [go_sem]; done) | (simp [go_sem]; omega))) | ((first | refine Sv.eq ?_ ?_ | refine Svs.eq ?_ ?_) <;> (first | rfl | omega | (simp only [go_sem]; done) | (simp [go_sem]; done) | (simp [go_sem]; omega))) | exact Sv.nil0 | exact Sv.em0 | exact Sv.sl0 | ((first | refine Sv.slFE (.inl ⟨rfl, rfl⟩) ?_ (Svs.eq ?_ ?_) | refine Sv.slFE (.inr rfl) ?_ (Svs.eq ?_ ?_)) <;> (first | rfl | omega | (simp only [go_sem]; done) | (simp [go_sem]; done) | (simp [go_sem]; omega))) | exact Svs.nilI | refine Svs.consI ?_ ?_ | refine Sv.tu ?_ | refine Sv.ag ?_)); done) | rfl)))
end Go.Proofs.YteoeioodocjbiaaGreatDoor
