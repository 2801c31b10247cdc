/- Part 16 of the texts that lead to repairApplyCard_holds. No condition. -/
import Derived.Test.YtkggkkjiidbclaaGreatDoorH15
set_option linter.unusedSimpArgs false
set_option linter.unusedVariables false
set_option linter.unnecessarySimpa false
namespace Go.Proofs.YtkggkkjiidbclaaGreatDoor
open Go Go.Abs Go.Rep
def xr (v : Int) : Int := IntKind.i64.wrap ((BitVec.ofInt 64 v ^^^ 1#64).toNat : Int)
theorem finB {b B : Bool} {H : List AO} (h : b = B) : Abs.Fin 0 (.v (.bool b)) H (fun v Ho => v = .v (.bool B) ∧ Ho = []) := by
  subst h
  refine Fin_of ⟨rfl, rfl⟩ ?_; (refine VS_of [] (by decide) ?_ ?_ (by decide); all_goals (repeat' (first | exact trivial | refine And.intro ?_ ?_ | exact ⟨rfl, rfl⟩ | exact Sg.any | ((first | refine ⟨_, rfl, ?_⟩ | refine ⟨_, .inl ⟨rfl, rfl⟩, ?_⟩ | refine ⟨_, .inr rfl, ?_⟩ | refine Sg.of ?_); (repeat' (first | ((first | refine Sv.cl (Cl.of ?_) | refine Svs.cl (Cls.of ?_)); simp only [go_sem, Bool.and_self, Bool.and_true]; done) | exact Sv.pt rfl | exact Sv.mp rfl | exact Sv.nil rfl | exact Sv.em rfl | (refine Sv.slE rfl ?_ ?_ <;> (first | rfl | omega | (simp only [go_sem]; done) | (simp [go_sem]; done) | (simp [go_sem]; omega))) | ((first | refine Sv.eq ?_ ?_ | refine Svs.eq ?_ ?_) <;> (first | rfl | omega | (simp only [go_sem]; done) | (simp [go_sem]; done) | (simp [go_sem]; omega))) | exact Sv.nil0 | exact Sv.em0 | exact Sv.sl0 | ((first | refine Sv.slFE (.inl ⟨rfl, rfl⟩) ?_ (Svs.eq ?_ ?_) | refine Sv.slFE (.inr rfl) ?_ (Svs.eq ?_ ?_)) <;> (first | rfl | omega | (simp only [go_sem]; done) | (simp [go_sem]; done) | (simp [go_sem]; omega))) | exact Svs.nilI | refine Svs.consI ?_ ?_ | refine Sv.tu ?_ | refine Sv.ag ?_)); done) | rfl)))
theorem getD_of {L : List Int} {n : Nat} {x : Int} (h : L[n]? = some x) : L.getD (Int.toNat (n : Int)) 0 = x := by simp [h]
set_option maxRecDepth 100000 in
set_option maxHeartbeats 4000000 in
theorem fits28n (L : List Int) (k a cc : Int) (hL : L.length < 1000000) : APure Tryz.prog 28 [.im L.length (ints L), .im 0 [], .ag [.v (.int .i64 k), .v (.int .i64 a), .v (.int .i64 cc)]] (.v (.bool (fitR xr L none ⟨k, a, cc⟩))) := by
  refine callp28 ?_
  simp only [fitR, badP, Bool.false_eq_true, if_false]
  by_cases hin : 0 ≤ a ∧ a < L.length
  · obtain ⟨n, rfl⟩ : ∃ n : Nat, a = n := ⟨a.toNat, by omega⟩
    obtain ⟨x, hx, hx'⟩ := dropG (l := L) (k := n) (by omega)
    rw [getD_of hx]
    simp only [go_sem, seval, L28]
    repeat' (first
        | ((first | ((first | refine LNext_if ?_ ?_ | refine ZNext_if ?_ ?_ | refine ZY_if ?_ ?_); (first | omega | exact True.intro | (simp only [go_sem, List.length_map, List.length_cons, List.length_nil, List.length_append, List.length_replicate, List.length_drop, List.length_take, List.length_set, Nat.reduceAdd, Nat.reduceMul, true_and, and_true]; omega) | (refine And.intro ?_ ?_ <;> first | omega | exact True.intro | (simp only [List.length_map, List.length_cons, List.length_nil, List.length_append, List.length_replicate, List.length_drop, List.length_take, List.length_set]; omega)))) | (refine And.intro ?_ ?_; (show okA _ _ _ _ = true); kernel_rfl) | refine MW_still dl28_4 mixedP dx28_4 ?_ | refine MW_still dl28_8 mixedP dx28_8 ?_ | refine MX_ok (l := .seq _ _) ?_ | refine MX_ok (l := .reg _) ?_ | refine MX_ok (l := .cond _ _ _) ?_ | refine MX_ok (l := .block _ _) ?_ | refine MX_ok (l := .ret) ?_ | refine MX_ok (l := .skip) ?_); (try simp only [go_sem, seval, l28_4, l28_8, ints_drop hx, Int.toNat_natCast]))
        | ((first | refine MCond_split ?_ ?_ | refine NCond_split ?_ ?_ | refine LGuard_split ?_ ?_ | refine ZG_split ?_ ?_) <;> (intro hc; (try simp only [go_sem, seval, hc, l28_4, l28_8, ints_drop hx, Int.toNat_natCast]); (try simp only [decide_eq_true_eq, decide_eq_false_iff_not, Bool.not_eq_true', Bool.not_eq_false', Bool.not_eq_true, Bool.not_eq_false, beq_iff_eq, bne_iff_ne, ne_eq, beq_eq_false_iff_ne, bne_eq_false_iff_eq, Int.not_lt, Int.not_le, gt_iff_lt, ge_iff_le, Decidable.not_not] at hc)))
        | (refine And.intro ?_ ?_))
    all_goals first | (exfalso; omega) | (refine finB ?_; (repeat' split) <;> first | rfl | (exfalso; omega) | (simp; omega))
  · simp only [go_sem, seval, L28]
    repeat' (first
        | ((first | ((first | refine LNext_if ?_ ?_ | refine ZNext_if ?_ ?_ | refine ZY_if ?_ ?_); (first | omega | exact True.intro | (simp only [go_sem, List.length_map, List.length_cons, List.length_nil, List.length_append, List.length_replicate, List.length_drop, List.length_take, List.length_set, Nat.reduceAdd, Nat.reduceMul, true_and, and_true]; omega) | (refine And.intro ?_ ?_ <;> first | omega | exact True.intro | (simp only [List.length_map, List.length_cons, List.length_nil, List.length_append, List.length_replicate, List.length_drop, List.length_take, List.length_set]; omega)))) | (refine And.intro ?_ ?_; (show okA _ _ _ _ = true); kernel_rfl) | refine MW_still dl28_4 mixedP dx28_4 ?_ | refine MW_still dl28_8 mixedP dx28_8 ?_ | refine MX_ok (l := .seq _ _) ?_ | refine MX_ok (l := .reg _) ?_ | refine MX_ok (l := .cond _ _ _) ?_ | refine MX_ok (l := .block _ _) ?_ | refine MX_ok (l := .ret) ?_ | refine MX_ok (l := .skip) ?_); (try simp only [go_sem, seval, l28_4, l28_8]))
        | ((first | refine MCond_split ?_ ?_ | refine NCond_split ?_ ?_ | refine LGuard_split ?_ ?_ | refine ZG_split ?_ ?_) <;> (intro hc; (try simp only [go_sem, seval, hc, l28_4, l28_8]); (try simp only [decide_eq_true_eq, decide_eq_false_iff_not, Bool.not_eq_true', Bool.not_eq_false', Bool.not_eq_true, Bool.not_eq_false, beq_iff_eq, bne_iff_ne, ne_eq, beq_eq_false_iff_ne, bne_eq_false_iff_eq, Int.not_lt, Int.not_le, gt_iff_lt, ge_iff_le, Decidable.not_not] at hc)))
        | (refine And.intro ?_ ?_))
    all_goals first | (exfalso; omega) | (refine finB ?_; (repeat' split) <;> first | rfl | (exfalso; omega) | (simp; omega))
set_option maxRecDepth 100000 in
set_option maxHeartbeats 1000000 in
theorem fits28x (L : List Int) (l : List Ch) (k a cc pk pa pc : Int) (n : Nat) (hL : L.length < 1000000) (hn2 : n < 1000000) (hp : l[n]? = some ⟨pk, pa, pc⟩) (hb : a < pa ∨ (pa = a ∧ pk ≠ 2)) : APure Tryz.prog 28 [.im L.length (ints L), .im (n + 1) (chs l), .ag [.v (.int .i64 k), .v (.int .i64 a), .v (.int .i64 cc)]] (.v (.bool false)) := by
  refine callp28 ?_
  have wn : IntKind.wrap .i64 (((n + 1 : Nat) : Int) - 1) = (n : Int) := by rw [wrapI (by omega) (by omega)]; omega
  have g1 : (0 : Int) < ((n + 1 : Nat) : Int) := by omega
  have g0 : (0 : Int) ≤ (n : Int) := by omega
  have g3 : n * 3 < l.length * 3 := by
    have := (List.getElem?_eq_some_iff.1 hp).1
    omega
  have g2 : (n : Int) < ((n + 1 : Nat) : Int) := by omega
  have hd : (chs l).drop (n * 3) = [.v (.int .i64 pk), .v (.int .i64 pa), .v (.int .i64 pc)] ++ chs (l.drop (n + 1)) := chs_drop hp
  rcases hb with h1 | ⟨rfl, h1⟩
  · simp only [go_sem, seval, L28, wn, g1, g2]
    repeat' (first
        | ((first | ((first | refine LNext_if ?_ ?_ | refine ZNext_if ?_ ?_ | refine ZY_if ?_ ?_); (first | omega | exact True.intro | (simp only [go_sem, List.length_map, List.length_cons, List.length_nil, List.length_append, List.length_replicate, List.length_drop, List.length_take, List.length_set, Nat.reduceAdd, Nat.reduceMul, true_and, and_true]; omega) | (refine And.intro ?_ ?_ <;> first | omega | exact True.intro | (simp only [List.length_map, List.length_cons, List.length_nil, List.length_append, List.length_replicate, List.length_drop, List.length_take, List.length_set]; omega)))) | (refine And.intro ?_ ?_; (show okA _ _ _ _ = true); kernel_rfl) | refine MW_still dl28_4 mixedP dx28_4 ?_ | refine MX_ok (l := .seq _ _) ?_ | refine MX_ok (l := .reg _) ?_ | refine MX_ok (l := .cond _ _ _) ?_ | refine MX_ok (l := .block _ _) ?_ | refine MX_ok (l := .ret) ?_ | refine MX_ok (l := .skip) ?_); (try simp only [go_sem, seval, l28_4, Int.toNat_natCast, wn, g1, g2, hd, g0, g3, gt_iff_lt, h1]))
        | ((first | refine MCond_split ?_ ?_ | refine NCond_split ?_ ?_ | refine LGuard_split ?_ ?_ | refine ZG_split ?_ ?_) <;> (intro hc; (try simp only [go_sem, seval, hc, l28_4, Int.toNat_natCast, wn, g1, g2, hd, g0, g3, gt_iff_lt, h1]); (try simp only [decide_eq_true_eq, decide_eq_false_iff_not, Bool.not_eq_true', Bool.not_eq_false', Bool.not_eq_true, Bool.not_eq_false, beq_iff_eq, bne_iff_ne, ne_eq, beq_eq_false_iff_ne, bne_eq_false_iff_eq, Int.not_lt, Int.not_le, gt_iff_lt, ge_iff_le, Decidable.not_not] at hc)))
        | (refine And.intro ?_ ?_))
    all_goals first | (exfalso; omega) | refine Fin_of ⟨rfl, rfl⟩ ?_; (refine VS_of [] (by decide) ?_ ?_ (by decide); all_goals (repeat' (first | exact trivial | refine And.intro ?_ ?_ | exact ⟨rfl, rfl⟩ | exact Sg.any | ((first | refine ⟨_, rfl, ?_⟩ | refine ⟨_, .inl ⟨rfl, rfl⟩, ?_⟩ | refine ⟨_, .inr rfl, ?_⟩ | refine Sg.of ?_); (repeat' (first | ((first | refine Sv.cl (Cl.of ?_) | refine Svs.cl (Cls.of ?_)); simp only [go_sem, Bool.and_self, Bool.and_true]; done) | exact Sv.pt rfl | exact Sv.mp rfl | exact Sv.nil rfl | exact Sv.em rfl | (refine Sv.slE rfl ?_ ?_ <;> (first | rfl | omega | (simp only [go_sem]; done) | (simp [go_sem]; done) | (simp [go_sem]; omega))) | ((first | refine Sv.eq ?_ ?_ | refine Svs.eq ?_ ?_) <;> (first | rfl | omega | (simp only [go_sem]; done) | (simp [go_sem]; done) | (simp [go_sem]; omega))) | exact Sv.nil0 | exact Sv.em0 | exact Sv.sl0 | ((first | refine Sv.slFE (.inl ⟨rfl, rfl⟩) ?_ (Svs.eq ?_ ?_) | refine Sv.slFE (.inr rfl) ?_ (Svs.eq ?_ ?_)) <;> (first | rfl | omega | (simp only [go_sem]; done) | (simp [go_sem]; done) | (simp [go_sem]; omega))) | exact Svs.nilI | refine Svs.consI ?_ ?_ | refine Sv.tu ?_ | refine Sv.ag ?_)); done) | rfl)))
  · have hk : (pk != 2) = true := by simp [h1]
    have hbb : (pa == pa) = true := by simp
    simp only [go_sem, seval, L28, wn, g1, g2]
    repeat' (first
        | ((first | ((first | refine LNext_if ?_ ?_ | refine ZNext_if ?_ ?_ | refine ZY_if ?_ ?_); (first | omega | exact True.intro | (simp only [go_sem, List.length_map, List.length_cons, List.length_nil, List.length_append, List.length_replicate, List.length_drop, List.length_take, List.length_set, Nat.reduceAdd, Nat.reduceMul, true_and, and_true]; omega) | (refine And.intro ?_ ?_ <;> first | omega | exact True.intro | (simp only [List.length_map, List.length_cons, List.length_nil, List.length_append, List.length_replicate, List.length_drop, List.length_take, List.length_set]; omega)))) | (refine And.intro ?_ ?_; (show okA _ _ _ _ = true); kernel_rfl) | refine MW_still dl28_4 mixedP dx28_4 ?_ | refine MX_ok (l := .seq _ _) ?_ | refine MX_ok (l := .reg _) ?_ | refine MX_ok (l := .cond _ _ _) ?_ | refine MX_ok (l := .block _ _) ?_ | refine MX_ok (l := .ret) ?_ | refine MX_ok (l := .skip) ?_); (try simp only [go_sem, seval, l28_4, Int.toNat_natCast, wn, g1, g2, hd, g0, g3, gt_iff_lt, hk, hbb, Int.lt_irrefl]))
        | ((first | refine MCond_split ?_ ?_ | refine NCond_split ?_ ?_ | refine LGuard_split ?_ ?_ | refine ZG_split ?_ ?_) <;> (intro hc; (try simp only [go_sem, seval, hc, l28_4, Int.toNat_natCast, wn, g1, g2, hd, g0, g3, gt_iff_lt, hk, hbb, Int.lt_irrefl]); (try simp only [decide_eq_true_eq, decide_eq_false_iff_not, Bool.not_eq_true', Bool.not_eq_false', Bool.not_eq_true, Bool.not_eq_false, beq_iff_eq, bne_iff_ne, ne_eq, beq_eq_false_iff_ne, bne_eq_false_iff_eq, Int.not_lt, Int.not_le, gt_iff_lt, ge_iff_le, Decidable.not_not] at hc)))
        | (refine And.intro ?_ ?_))
    all_goals first | (exfalso; omega) | refine Fin_of ⟨rfl, rfl⟩ ?_; (refine VS_of [] (by decide) ?_ ?_ (by decide); all_goals (repeat' (first | exact trivial | refine And.intro ?_ ?_ | exact ⟨rfl, rfl⟩ | exact Sg.any | ((first | refine ⟨_, rfl, ?_⟩ | refine ⟨_, .inl ⟨rfl, rfl⟩, ?_⟩ | refine ⟨_, .inr rfl, ?_⟩ | refine Sg.of ?_); (repeat' (first | ((first | refine Sv.cl (Cl.of ?_) | refine Svs.cl (Cls.of ?_)); simp only [go_sem, Bool.and_self, Bool.and_true]; done) | exact Sv.pt rfl | exact Sv.mp rfl | exact Sv.nil rfl | exact Sv.em rfl | (refine Sv.slE rfl ?_ ?_ <;> (first | rfl | omega | (simp only [go_sem]; done) | (simp [go_sem]; done) | (simp [go_sem]; omega))) | ((first | refine Sv.eq ?_ ?_ | refine Svs.eq ?_ ?_) <;> (first | rfl | omega | (simp only [go_sem]; done) | (simp [go_sem]; done) | (simp [go_sem]; omega))) | exact Sv.nil0 | exact Sv.em0 | exact Sv.sl0 | ((first | refine Sv.slFE (.inl ⟨rfl, rfl⟩) ?_ (Svs.eq ?_ ?_) | refine Sv.slFE (.inr rfl) ?_ (Svs.eq ?_ ?_)) <;> (first | rfl | omega | (simp only [go_sem]; done) | (simp [go_sem]; done) | (simp [go_sem]; omega))) | exact Svs.nilI | refine Svs.consI ?_ ?_ | refine Sv.tu ?_ | refine Sv.ag ?_)); done) | rfl)))
set_option maxRecDepth 100000 in
set_option maxHeartbeats 1000000 in
theorem fits28y (L : List Int) (l : List Ch) (k a cc pk pa pc : Int) (n : Nat) (hL : L.length < 1000000) (hn2 : n < 1000000) (hp : l[n]? = some ⟨pk, pa, pc⟩) (hb : pa < a) : APure Tryz.prog 28 [.im L.length (ints L), .im (n + 1) (chs l), .ag [.v (.int .i64 k), .v (.int .i64 a), .v (.int .i64 cc)]] (.v (.bool (fitR xr L none ⟨k, a, cc⟩))) := by
  refine callp28 ?_
  simp only [fitR, badP, Bool.false_eq_true, if_false]
  have wn : IntKind.wrap .i64 (((n + 1 : Nat) : Int) - 1) = (n : Int) := by rw [wrapI (by omega) (by omega)]; omega
  have g1 : (0 : Int) < ((n + 1 : Nat) : Int) := by omega
  have g0 : (0 : Int) ≤ (n : Int) := by omega
  have g3 : n * 3 < l.length * 3 := by
    have := (List.getElem?_eq_some_iff.1 hp).1
    omega
  have g2 : (n : Int) < ((n + 1 : Nat) : Int) := by omega
  have hd : (chs l).drop (n * 3) = [.v (.int .i64 pk), .v (.int .i64 pa), .v (.int .i64 pc)] ++ chs (l.drop (n + 1)) := chs_drop hp
  have h1 : ¬ a < pa := by omega
  have h2 : (pa == a) = false := by simp; omega
  by_cases hin : 0 ≤ a ∧ a < L.length
  · obtain ⟨m, rfl⟩ : ∃ m : Nat, a = m := ⟨a.toNat, by omega⟩
    obtain ⟨x, hx, hx'⟩ := dropG (l := L) (k := m) (by omega)
    rw [getD_of hx]
    simp only [go_sem, seval, L28, wn, g1, g2]
    repeat' (first
        | ((first | ((first | refine LNext_if ?_ ?_ | refine ZNext_if ?_ ?_ | refine ZY_if ?_ ?_); (first | omega | exact True.intro | (simp only [go_sem, List.length_map, List.length_cons, List.length_nil, List.length_append, List.length_replicate, List.length_drop, List.length_take, List.length_set, Nat.reduceAdd, Nat.reduceMul, true_and, and_true]; omega) | (refine And.intro ?_ ?_ <;> first | omega | exact True.intro | (simp only [List.length_map, List.length_cons, List.length_nil, List.length_append, List.length_replicate, List.length_drop, List.length_take, List.length_set]; omega)))) | (refine And.intro ?_ ?_; (show okA _ _ _ _ = true); kernel_rfl) | refine MW_still dl28_4 mixedP dx28_4 ?_ | refine MW_still dl28_8 mixedP dx28_8 ?_ | refine MX_ok (l := .seq _ _) ?_ | refine MX_ok (l := .reg _) ?_ | refine MX_ok (l := .cond _ _ _) ?_ | refine MX_ok (l := .block _ _) ?_ | refine MX_ok (l := .ret) ?_ | refine MX_ok (l := .skip) ?_); (try simp only [go_sem, seval, l28_4, l28_8, ints_drop hx, Int.toNat_natCast, wn, g1, g2, hd, g0, g3, gt_iff_lt, h1, h2]))
        | ((first | refine MCond_split ?_ ?_ | refine NCond_split ?_ ?_ | refine LGuard_split ?_ ?_ | refine ZG_split ?_ ?_) <;> (intro hc; (try simp only [go_sem, seval, hc, l28_4, l28_8, ints_drop hx, Int.toNat_natCast, wn, g1, g2, hd, g0, g3, gt_iff_lt, h1, h2]); (try simp only [decide_eq_true_eq, decide_eq_false_iff_not, Bool.not_eq_true', Bool.not_eq_false', Bool.not_eq_true, Bool.not_eq_false, beq_iff_eq, bne_iff_ne, ne_eq, beq_eq_false_iff_ne, bne_eq_false_iff_eq, Int.not_lt, Int.not_le, gt_iff_lt, ge_iff_le, Decidable.not_not] at hc)))
        | (refine And.intro ?_ ?_))
    all_goals first | (exfalso; omega) | (refine finB ?_; (repeat' split) <;> first | rfl | (exfalso; omega) | (simp; omega))
  · simp only [go_sem, seval, L28, wn, g1, g2]
    repeat' (first
        | ((first | ((first | refine LNext_if ?_ ?_ | refine ZNext_if ?_ ?_ | refine ZY_if ?_ ?_); (first | omega | exact True.intro | (simp only [go_sem, List.length_map, List.length_cons, List.length_nil, List.length_append, List.length_replicate, List.length_drop, List.length_take, List.length_set, Nat.reduceAdd, Nat.reduceMul, true_and, and_true]; omega) | (refine And.intro ?_ ?_ <;> first | omega | exact True.intro | (simp only [List.length_map, List.length_cons, List.length_nil, List.length_append, List.length_replicate, List.length_drop, List.length_take, List.length_set]; omega)))) | (refine And.intro ?_ ?_; (show okA _ _ _ _ = true); kernel_rfl) | refine MW_still dl28_4 mixedP dx28_4 ?_ | refine MW_still dl28_8 mixedP dx28_8 ?_ | refine MX_ok (l := .seq _ _) ?_ | refine MX_ok (l := .reg _) ?_ | refine MX_ok (l := .cond _ _ _) ?_ | refine MX_ok (l := .block _ _) ?_ | refine MX_ok (l := .ret) ?_ | refine MX_ok (l := .skip) ?_); (try simp only [go_sem, seval, l28_4, l28_8, Int.toNat_natCast, wn, g1, g2, hd, g0, g3, gt_iff_lt, h1, h2]))
        | ((first | refine MCond_split ?_ ?_ | refine NCond_split ?_ ?_ | refine LGuard_split ?_ ?_ | refine ZG_split ?_ ?_) <;> (intro hc; (try simp only [go_sem, seval, hc, l28_4, l28_8, Int.toNat_natCast, wn, g1, g2, hd, g0, g3, gt_iff_lt, h1, h2]); (try simp only [decide_eq_true_eq, decide_eq_false_iff_not, Bool.not_eq_true', Bool.not_eq_false', Bool.not_eq_true, Bool.not_eq_false, beq_iff_eq, bne_iff_ne, ne_eq, beq_eq_false_iff_ne, bne_eq_false_iff_eq, Int.not_lt, Int.not_le, gt_iff_lt, ge_iff_le, Decidable.not_not] at hc)))
        | (refine And.intro ?_ ?_))
    all_goals first | (exfalso; omega) | (refine finB ?_; (repeat' split) <;> first | rfl | (exfalso; omega) | (simp; omega))
set_option maxRecDepth 100000 in
set_option maxHeartbeats 1000000 in
theorem fits28z (L : List Int) (l : List Ch) (k a cc pc : Int) (n : Nat) (hL : L.length < 1000000) (hn2 : n < 1000000) (hp : l[n]? = some ⟨2, a, pc⟩) : APure Tryz.prog 28 [.im L.length (ints L), .im (n + 1) (chs l), .ag [.v (.int .i64 k), .v (.int .i64 a), .v (.int .i64 cc)]] (.v (.bool (fitR xr L none ⟨k, a, cc⟩))) := by
  refine callp28 ?_
  simp only [fitR, badP, Bool.false_eq_true, if_false]
  have wn : IntKind.wrap .i64 (((n + 1 : Nat) : Int) - 1) = (n : Int) := by rw [wrapI (by omega) (by omega)]; omega
  have g1 : (0 : Int) < ((n + 1 : Nat) : Int) := by omega
  have g0 : (0 : Int) ≤ (n : Int) := by omega
  have g3 : n * 3 < l.length * 3 := by
    have := (List.getElem?_eq_some_iff.1 hp).1
    omega
  have g2 : (n : Int) < ((n + 1 : Nat) : Int) := by omega
  have hd : (chs l).drop (n * 3) = [.v (.int .i64 2), .v (.int .i64 a), .v (.int .i64 pc)] ++ chs (l.drop (n + 1)) := chs_drop hp
  have h2 : (a == a) = true := by simp
  by_cases hin : 0 ≤ a ∧ a < L.length
  · obtain ⟨m, rfl⟩ : ∃ m : Nat, a = m := ⟨a.toNat, by omega⟩
    obtain ⟨x, hx, hx'⟩ := dropG (l := L) (k := m) (by omega)
    rw [getD_of hx]
    simp only [go_sem, seval, L28, wn, g1, g2]
    repeat' (first
        | ((first | ((first | refine LNext_if ?_ ?_ | refine ZNext_if ?_ ?_ | refine ZY_if ?_ ?_); (first | omega | exact True.intro | (simp only [go_sem, List.length_map, List.length_cons, List.length_nil, List.length_append, List.length_replicate, List.length_drop, List.length_take, List.length_set, Nat.reduceAdd, Nat.reduceMul, true_and, and_true]; omega) | (refine And.intro ?_ ?_ <;> first | omega | exact True.intro | (simp only [List.length_map, List.length_cons, List.length_nil, List.length_append, List.length_replicate, List.length_drop, List.length_take, List.length_set]; omega)))) | (refine And.intro ?_ ?_; (show okA _ _ _ _ = true); kernel_rfl) | refine MW_still dl28_4 mixedP dx28_4 ?_ | refine MW_still dl28_8 mixedP dx28_8 ?_ | refine MX_ok (l := .seq _ _) ?_ | refine MX_ok (l := .reg _) ?_ | refine MX_ok (l := .cond _ _ _) ?_ | refine MX_ok (l := .block _ _) ?_ | refine MX_ok (l := .ret) ?_ | refine MX_ok (l := .skip) ?_); (try simp only [go_sem, seval, l28_4, l28_8, ints_drop hx, Int.toNat_natCast, wn, g1, g2, hd, g0, g3, gt_iff_lt, h2, Int.lt_irrefl]))
        | ((first | refine MCond_split ?_ ?_ | refine NCond_split ?_ ?_ | refine LGuard_split ?_ ?_ | refine ZG_split ?_ ?_) <;> (intro hc; (try simp only [go_sem, seval, hc, l28_4, l28_8, ints_drop hx, Int.toNat_natCast, wn, g1, g2, hd, g0, g3, gt_iff_lt, h2, Int.lt_irrefl]); (try simp only [decide_eq_true_eq, decide_eq_false_iff_not, Bool.not_eq_true', Bool.not_eq_false', Bool.not_eq_true, Bool.not_eq_false, beq_iff_eq, bne_iff_ne, ne_eq, beq_eq_false_iff_ne, bne_eq_false_iff_eq, Int.not_lt, Int.not_le, gt_iff_lt, ge_iff_le, Decidable.not_not] at hc)))
        | (refine And.intro ?_ ?_))
    all_goals first | (exfalso; omega) | (refine finB ?_; (repeat' split) <;> first | rfl | (exfalso; omega) | (simp; omega))
  · simp only [go_sem, seval, L28, wn, g1, g2]
    repeat' (first
        | ((first | ((first | refine LNext_if ?_ ?_ | refine ZNext_if ?_ ?_ | refine ZY_if ?_ ?_); (first | omega | exact True.intro | (simp only [go_sem, List.length_map, List.length_cons, List.length_nil, List.length_append, List.length_replicate, List.length_drop, List.length_take, List.length_set, Nat.reduceAdd, Nat.reduceMul, true_and, and_true]; omega) | (refine And.intro ?_ ?_ <;> first | omega | exact True.intro | (simp only [List.length_map, List.length_cons, List.length_nil, List.length_append, List.length_replicate, List.length_drop, List.length_take, List.length_set]; omega)))) | (refine And.intro ?_ ?_; (show okA _ _ _ _ = true); kernel_rfl) | refine MW_still dl28_4 mixedP dx28_4 ?_ | refine MW_still dl28_8 mixedP dx28_8 ?_ | refine MX_ok (l := .seq _ _) ?_ | refine MX_ok (l := .reg _) ?_ | refine MX_ok (l := .cond _ _ _) ?_ | refine MX_ok (l := .block _ _) ?_ | refine MX_ok (l := .ret) ?_ | refine MX_ok (l := .skip) ?_); (try simp only [go_sem, seval, l28_4, l28_8, Int.toNat_natCast, wn, g1, g2, hd, g0, g3, gt_iff_lt, h2, Int.lt_irrefl]))
        | ((first | refine MCond_split ?_ ?_ | refine NCond_split ?_ ?_ | refine LGuard_split ?_ ?_ | refine ZG_split ?_ ?_) <;> (intro hc; (try simp only [go_sem, seval, hc, l28_4, l28_8, Int.toNat_natCast, wn, g1, g2, hd, g0, g3, gt_iff_lt, h2, Int.lt_irrefl]); (try simp only [decide_eq_true_eq, decide_eq_false_iff_not, Bool.not_eq_true', Bool.not_eq_false', Bool.not_eq_true, Bool.not_eq_false, beq_iff_eq, bne_iff_ne, ne_eq, beq_eq_false_iff_ne, bne_eq_false_iff_eq, Int.not_lt, Int.not_le, gt_iff_lt, ge_iff_le, Decidable.not_not] at hc)))
        | (refine And.intro ?_ ?_))
    all_goals first | (exfalso; omega) | (refine finB ?_; (repeat' split) <;> first | rfl | (exfalso; omega) | (simp; omega))
def chV (c : Ch) : AV := .ag [.v (.int .i64 c.k), .v (.int .i64 c.a), .v (.int .i64 c.c)]
end Go.Proofs.YtkggkkjiidbclaaGreatDoor
namespace Go.Proofs.YtkggkkjiidbclaaGreatDoor
open Go Go.Abs Go.Rep
def rowI (i : Nat) (l : List Ch) : List AV := if i = 0 then [] else chs l
theorem rowI_clb (i : Nat) (l : List Ch) : clbs (rowI i l) = true := by
  unfold rowI; split
  · rfl
  · exact chs_clb l
attribute [go_sem] rowI_clb
theorem rowI_eq (i : Nat) (l : List Ch) : (if 0 = i then some (AV.im 0 []) else some (AV.im (i - 0) (chs l))) = some (AV.im i (rowI i l)) := by
  unfold rowI
  by_cases h : i = 0
  · subst h; simp
  · rw [if_neg (by omega), if_neg h]; simp
set_option maxRecDepth 100000 in
theorem fits28 (L : List Int) (l : List Ch) (i : Nat) (c : Ch) (hL : L.length < 1000000) (hi : i ≤ l.length) (hl : l.length < 1000000) : APure Tryz.prog 28 [.im L.length (ints L), .im i (rowI i l), chV c] (.v (.bool (fitR xr L (l.take i).getLast? c))) := by
  obtain ⟨k, a, cc⟩ := c
  cases i with
  | zero => exact fits28n L k a cc hL
  | succ n =>
    have e0 : rowI (n + 1) l = chs l := by simp [rowI]
    obtain ⟨⟨pk, pa, pc⟩, hp, _⟩ := dropG (l := l) (k := n) (by omega)
    have hl2 : (l.take (n + 1)).getLast? = some ⟨pk, pa, pc⟩ := by
      rw [List.getLast?_eq_getElem?, List.length_take, Nat.min_eq_left hi]
      simpa using hp
    rw [hl2, e0]
    by_cases hb : a < pa ∨ (pa = a ∧ pk ≠ 2)
    · have e : fitR xr L (some ⟨pk, pa, pc⟩) ⟨k, a, cc⟩ = false := by
        simp only [fitR]
        split
        · rfl
        · rw [if_pos]
          exact decide_eq_true hb
      rw [e]
      exact fits28x L _ k a cc pk pa pc n hL (by omega) hp hb
    · have e : fitR xr L (some ⟨pk, pa, pc⟩) ⟨k, a, cc⟩ = fitR xr L none ⟨k, a, cc⟩ := by
        have : badP (some ⟨pk, pa, pc⟩) ⟨k, a, cc⟩ = badP none ⟨k, a, cc⟩ := decide_eq_false hb
        simp only [fitR, this]
      rw [e]
      by_cases h2 : pa < a
      · exact fits28y L _ k a cc pk pa pc n hL (by omega) hp h2
      · have h3 : pa = a := by
          rcases Int.lt_trichotomy a pa with q | q | q
          · exact absurd (.inl q) hb
          · exact q.symm
          · exact absurd q h2
        subst h3
        have h4 : pk = 2 := by
          by_cases q : pk = 2
          · exact q
          · exact absurd (.inr ⟨rfl, q⟩) hb
        subst h4
        exact fits28z L _ k pa cc pc n hL (by omega) hp
theorem ints_dropI (l : List Int) (i : Nat) : (ints l).drop i = ints (l.drop i) := by simp [ints]
theorem ints_takeI (l : List Int) (i : Nat) : (ints l).take i = ints (l.take i) := by simp [ints]
theorem cutT (L : List Int) (t : Nat) (h : t ≤ L.length) : (if 0 ≤ (t : Int) ∧ (t : Int) ≤ (L.length : Int) then
        if (t : Int).toNat = (L.length : Int).toNat then some (AV.im 0 [])
        else some (AV.im ((L.length : Int).toNat - (t : Int).toNat) (List.drop (t : Int).toNat (ints L)))
      else none) = some (.im (L.drop t).length (ints (L.drop t))) := by
  rw [if_pos (by omega)]
  simp only [Int.toNat_natCast, ints_dropI, List.length_drop]
  by_cases h2 : t = L.length
  · rw [if_pos h2, List.drop_of_length_le (by omega)]
    subst h2; simp [ints]
  · rw [if_neg h2]
theorem last_take {l : List Ch} {i : Nat} {x : Ch} (h : l[i]? = some x) : (l.take (i + 1)).getLast? = some x := by
  have := (List.getElem?_eq_some_iff.1 h).1
  rw [List.getLast?_eq_getElem?, List.length_take, Nat.min_eq_left (by omega)]
  simpa using h
def rowT (L : List Int) (t m : Nat) : List AV := if t = m then [] else (ints L).drop t
theorem rowT_clb (L : List Int) (t m : Nat) : clbs (rowT L t m) = true := by
  unfold rowT; split
  · rfl
  · rw [ints_dropI]; exact ints_clb _
theorem rowT_one (L : List Int) (t m : Nat) : (rowT L t m).all (·.one) = true := by
  unfold rowT; split
  · rfl
  · rw [ints_dropI]; exact ints_one _
attribute [go_sem] rowT_clb rowT_one
theorem rowT_take (L : List Int) (t m : Nat) : (rowT L t m).take (m - t) = ints ((L.take m).drop t) := by
  unfold rowT; split
  · rename_i h; subst h; simp [ints]
  · rw [ints_dropI, ints_takeI, List.drop_take]
theorem rowT_len (L : List Int) (t m : Nat) (h : m ≤ L.length) : m - t ≤ (rowT L t m).length := by
  unfold rowT; split
  · omega
  · rw [ints_dropI]; simp [ints]; omega
theorem cutM (L : List Int) (t m : Nat) (h : t ≤ m) (h2 : m ≤ L.length) : (if 0 ≤ (t : Int) ∧ (t : Int) ≤ (m : Int) ∧ (m : Int) ≤ (L.length : Int) then
        if t = m then some (AV.im 0 []) else some (AV.im (m - t) (List.drop t (ints L)))
      else none) = some (.im (m - t) (rowT L t m)) := by
  rw [if_pos (by omega)]
  unfold rowT
  by_cases h3 : t = m
  · subst h3; simp
  · rw [if_neg h3, if_neg h3]
def atR (p : Option Ch) (t : Nat) : Prop := match p with
  | none => t = 0
  | some p => (t : Int) = if p.k = 2 then p.a else p.a + 1
theorem atR_le {L : List Int} {p : Option Ch} {c : Ch} {t : Nat} (h : atR p t) (hf : fitR xr L p c = true) : (t : Int) ≤ c.a ∧ 0 ≤ c.a ∧ c.a ≤ L.length ∧ (c.k ≠ 2 → c.a < L.length) := by
  simp only [fitR] at hf
  split at hf
  · cases hf
  · rename_i h0
    split at hf
    · cases hf
    · rename_i hb
      have q : (t : Int) ≤ c.a := by
        cases p with
        | none => simp only [atR] at h; omega
        | some p =>
          simp only [atR] at h
          have hb : ¬ (c.a < p.a ∨ (p.a = c.a ∧ p.k ≠ 2)) := fun q => hb (decide_eq_true q)
          split at h <;> omega
      exact ⟨q, by omega, by omega, fun q => by omega⟩
def S18 (L : List Int) (l : List Ch) (s : Nat × List Int × Nat) : List AV := [.im L.length (ints L), .im l.length (chs l), .any, .any, .any, .any, .sl 0 0 s.2.1.length, .v (.int .i64 s.2.2), .v (.int .i64 s.1), .any, .any, .any, .any, .any, .any, .any, .any, .any, .any, .any, .any, .any, .any, .any, .any, .any, .any, .any, .any, .any, .any, .any, .any, .any, .any, .any, .any, .any, .any, .any, .any, .any, .any, .any, .any, .any, .any, .any, .any, .any, .any, .any, .any, .any]
def J18 (L : List Int) (l : List Ch) (s : Nat × List Int × Nat) : Prop :=
  s.1 ≤ l.length ∧ s.2.2 ≤ L.length ∧ s.2.1.length ≤ s.2.2 + s.1 ∧ atR (l.take s.1).getLast? s.2.2 ∧ runR xr L l none ([], 0) = runR xr L (l.drop s.1) (l.take s.1).getLast? (s.2.1, s.2.2)
set_option maxRecDepth 100000 in
set_option maxHeartbeats 1000000 in
theorem changed18 (L : List Int) (l : List Ch) (hL : L.length ≤ 60) (hl : l.length ≤ 30) : APure Tryz.prog 18 [.im L.length (ints L), .im l.length (chs l)]
    (.tu [.im ((runR xr L l none ([], 0)).getD []).length (ints ((runR xr L l none ([], 0)).getD [])), .v (.bool (runR xr L l none ([], 0)).isSome)]) := by
  refine callp18 ?_
  simp only [go_sem, seval, L18]
  repeat' (first
      | ((first | ((first | refine LNext_if ?_ ?_ | refine ZNext_if ?_ ?_ | refine ZY_if ?_ ?_); (first | omega | exact True.intro | (simp only [go_sem, List.length_map, List.length_cons, List.length_nil, List.length_append, List.length_replicate, List.length_drop, List.length_take, List.length_set, Nat.reduceAdd, Nat.reduceMul, true_and, and_true]; omega) | (refine And.intro ?_ ?_ <;> first | omega | exact True.intro | (simp only [List.length_map, List.length_cons, List.length_nil, List.length_append, List.length_replicate, List.length_drop, List.length_take, List.length_set]; omega)))) | (refine And.intro ?_ ?_; (show okA _ _ _ _ = true); kernel_rfl) | refine MX_ok (l := .seq _ _) ?_ | refine MX_ok (l := .reg _) ?_ | refine MX_ok (l := .cond _ _ _) ?_ | refine MX_ok (l := .block _ _) ?_ | refine MX_ok (l := .ret) ?_ | refine MX_ok (l := .skip) ?_); (try simp only [go_sem, seval]))
      | ((first | refine MCond_split ?_ ?_ | refine NCond_split ?_ ?_ | refine LGuard_split ?_ ?_ | refine ZG_split ?_ ?_) <;> (intro hc; (try simp only [go_sem, seval, hc]); (try simp only [decide_eq_true_eq, decide_eq_false_iff_not, Bool.not_eq_true', Bool.not_eq_false', Bool.not_eq_true, Bool.not_eq_false, beq_iff_eq, bne_iff_ne, ne_eq, beq_eq_false_iff_ne, bne_eq_false_iff_eq, Int.not_lt, Int.not_le, gt_iff_lt, ge_iff_le, Decidable.not_not] at hc)))
      | (refine And.intro ?_ ?_))
  refine MW_loop_st (S18 L l) (fun s => [.cells 1 (ints s.2.1)]) (J18 L l) (fun s => l.length - s.1) (0, [], 0) ?_ ⟨Nat.zero_le _, Nat.zero_le _, Nat.zero_le _, rfl, by simp⟩ ?_
  · (refine VS_of [.new 1] (by decide) ?_ ?_ (by decide); all_goals (repeat' (first | exact trivial | refine And.intro ?_ ?_ | exact ⟨rfl, rfl⟩ | exact Sg.any | ((first | refine ⟨_, rfl, ?_⟩ | refine ⟨_, .inl ⟨rfl, rfl⟩, ?_⟩ | refine ⟨_, .inr rfl, ?_⟩ | refine Sg.of ?_); (repeat' (first | ((first | refine Sv.cl (Cl.of ?_) | refine Svs.cl (Cls.of ?_)); simp only [go_sem, Bool.and_self, Bool.and_true]; done) | exact Sv.pt rfl | exact Sv.mp rfl | exact Sv.nil rfl | exact Sv.em rfl | (refine Sv.slE rfl ?_ ?_ <;> (first | rfl | omega | (simp only [go_sem]; done) | (simp [go_sem]; done) | (simp [go_sem]; omega))) | ((first | refine Sv.eq ?_ ?_ | refine Svs.eq ?_ ?_) <;> (first | rfl | omega | (simp only [go_sem]; done) | (simp [go_sem]; done) | (simp [go_sem]; omega))) | exact Sv.nil0 | exact Sv.em0 | exact Sv.sl0 | ((first | refine Sv.slFE (.inl ⟨rfl, rfl⟩) ?_ (Svs.eq ?_ ?_) | refine Sv.slFE (.inr rfl) ?_ (Svs.eq ?_ ?_)) <;> (first | rfl | omega | (simp only [go_sem]; done) | (simp [go_sem]; done) | (simp [go_sem]; omega))) | exact Svs.nilI | refine Svs.consI ?_ ?_ | refine Sv.tu ?_ | refine Sv.ag ?_)); done) | rfl)))
  · rintro ⟨i, o, t⟩ ⟨i1, i2, i3, i4, i5⟩
    dsimp only at i1 i2 i3 i4 i5
    rcases Nat.lt_or_ge i l.length with hi | hi
    · obtain ⟨⟨k, a, cc⟩, hx, hx'⟩ := dropG hi
      have hi' : (i : Int) < l.length := by omega
      have hi2 : (i : Int) ≤ l.length := by omega
      have hi0 : (0 : Int) ≤ i := by omega
      have c1 := fits28 L l i ⟨k, a, cc⟩ (by omega) i1 (by omega)
      simp only [chV] at c1
      have hd : (chs l).drop (i * 3) = [.v (.int .i64 k), .v (.int .i64 a), .v (.int .i64 cc)] ++ chs (l.drop (i + 1)) := chs_drop hx
      rw [hx', runR] at i5
      cases hf : fitR xr L (l.take i).getLast? ⟨k, a, cc⟩
      · rw [hf] at c1 i5
        simp only [Bool.false_eq_true, if_false] at i5
        rw [i5]
        simp only [go_sem, seval, L18_b0, S18, hi', hd, Int.toNat_natCast]
        repeat' (first
            | ((first | ((first | refine ZCall_pure (c1) (Cls.of ?_) ?_); simp only [go_sem, Bool.and_self, Bool.and_true]) | ((first | refine LNext_if ?_ ?_ | refine ZNext_if ?_ ?_ | refine ZY_if ?_ ?_); (first | omega | exact True.intro | (simp only [go_sem, List.length_map, List.length_cons, List.length_nil, List.length_append, List.length_replicate, List.length_drop, List.length_take, List.length_set, Nat.reduceAdd, Nat.reduceMul, true_and, and_true]; omega) | (refine And.intro ?_ ?_ <;> first | omega | exact True.intro | (simp only [List.length_map, List.length_cons, List.length_nil, List.length_append, List.length_replicate, List.length_drop, List.length_take, List.length_set]; omega)))) | (refine And.intro ?_ ?_; (show okA _ _ _ _ = true); kernel_rfl) | refine MW_still dl18_7 mixedP dx18_7 ?_ | refine MX_ok (l := .seq _ _) ?_ | refine MX_ok (l := .reg _) ?_ | refine MX_ok (l := .cond _ _ _) ?_ | refine MX_ok (l := .block _ _) ?_ | refine MX_ok (l := .ret) ?_ | refine MX_ok (l := .skip) ?_); (try simp only [go_sem, seval, l18_7, hi', hi2, hd, Int.toNat_natCast, hi0, rowI_eq]))
            | ((first | refine MCond_split ?_ ?_ | refine NCond_split ?_ ?_ | refine LGuard_split ?_ ?_ | refine ZG_split ?_ ?_) <;> (intro hc; (try simp only [go_sem, seval, hc, l18_7, hi', hi2, hd, Int.toNat_natCast, hi0, rowI_eq]); (try simp only [decide_eq_true_eq, decide_eq_false_iff_not, Bool.not_eq_true', Bool.not_eq_false', Bool.not_eq_true, Bool.not_eq_false, beq_iff_eq, bne_iff_ne, ne_eq, beq_eq_false_iff_ne, bne_eq_false_iff_eq, Int.not_lt, Int.not_le, gt_iff_lt, ge_iff_le, Decidable.not_not] at hc)))
            | (refine And.intro ?_ ?_))
        simp only [Option.getD_none, Option.isSome_none, List.length_nil, ints_nil]
        refine Fin_of ⟨rfl, rfl⟩ ?_; (refine VS_of [] (by decide) ?_ ?_ (by decide); all_goals (repeat' (first | exact trivial | refine And.intro ?_ ?_ | exact ⟨rfl, rfl⟩ | exact Sg.any | ((first | refine ⟨_, rfl, ?_⟩ | refine ⟨_, .inl ⟨rfl, rfl⟩, ?_⟩ | refine ⟨_, .inr rfl, ?_⟩ | refine Sg.of ?_); (repeat' (first | ((first | refine Sv.cl (Cl.of ?_) | refine Svs.cl (Cls.of ?_)); simp only [go_sem, Bool.and_self, Bool.and_true]; done) | exact Sv.pt rfl | exact Sv.mp rfl | exact Sv.nil rfl | exact Sv.em rfl | (refine Sv.slE rfl ?_ ?_ <;> (first | rfl | omega | (simp only [go_sem]; done) | (simp [go_sem]; done) | (simp [go_sem]; omega))) | ((first | refine Sv.eq ?_ ?_ | refine Svs.eq ?_ ?_) <;> (first | rfl | omega | (simp only [go_sem]; done) | (simp [go_sem]; done) | (simp [go_sem]; omega))) | exact Sv.nil0 | exact Sv.em0 | exact Sv.sl0 | ((first | refine Sv.slFE (.inl ⟨rfl, rfl⟩) ?_ (Svs.eq ?_ ?_) | refine Sv.slFE (.inr rfl) ?_ (Svs.eq ?_ ?_)) <;> (first | rfl | omega | (simp only [go_sem]; done) | (simp [go_sem]; done) | (simp [go_sem]; omega))) | exact Svs.nilI | refine Svs.consI ?_ ?_ | refine Sv.tu ?_ | refine Sv.ag ?_)); done) | rfl)))
      · rw [hf] at c1 i5
        simp only [if_true, stepR] at i5
        obtain ⟨b1, b2, b3, b4⟩ := atR_le i4 hf
        dsimp only at b1 b2 b3 b4
        obtain ⟨m, rfl⟩ : ∃ m : Nat, a = m := ⟨a.toNat, by omega⟩
        have m1 : m ≤ L.length := by omega
        have m2 : t ≤ m := by omega
        have q1 := rowT_len L t m m1
        have q2 : ((L.take m).drop t).length = m - t := by simp; omega
        rw [Int.toNat_natCast] at i5
        have gl := last_take hx
        have wi := wrapS (show i < 9223372036854775807 by omega)
        have wm := wrapS (show m < 9223372036854775807 by omega)
        by_cases k2 : k = 2
        · subst k2
          rw [if_neg (by omega), if_pos rfl, ← gl] at i5
          simp only [go_sem, seval, L18_b0, S18, hi', hd, Int.toNat_natCast]
          repeat' (first
              | ((first | ((first | refine ZCall_pure (c1) (Cls.of ?_) ?_); simp only [go_sem, Bool.and_self, Bool.and_true]) | ((first | refine LNext_if ?_ ?_ | refine ZNext_if ?_ ?_ | refine ZY_if ?_ ?_); (first | omega | exact True.intro | (simp only [go_sem, List.length_map, List.length_cons, List.length_nil, List.length_append, List.length_replicate, List.length_drop, List.length_take, List.length_set, Nat.reduceAdd, Nat.reduceMul, true_and, and_true]; omega) | (refine And.intro ?_ ?_ <;> first | omega | exact True.intro | (simp only [List.length_map, List.length_cons, List.length_nil, List.length_append, List.length_replicate, List.length_drop, List.length_take, List.length_set]; omega)))) | (refine And.intro ?_ ?_; (show okA _ _ _ _ = true); kernel_rfl) | refine MW_still dl18_7 mixedP dx18_7 ?_ | refine MX_ok (l := .seq _ _) ?_ | refine MX_ok (l := .reg _) ?_ | refine MX_ok (l := .cond _ _ _) ?_ | refine MX_ok (l := .block _ _) ?_ | refine MX_ok (l := .ret) ?_ | refine MX_ok (l := .skip) ?_); (try simp only [go_sem, seval, l18_7, hi', hi2, hd, Int.toNat_natCast, hi0, rowI_eq, cutM L t m m2 m1, q1, rowT_take, q2, ints_app]))
              | ((first | refine MCond_split ?_ ?_ | refine NCond_split ?_ ?_ | refine LGuard_split ?_ ?_ | refine ZG_split ?_ ?_) <;> (intro hc; (try simp only [go_sem, seval, hc, l18_7, hi', hi2, hd, Int.toNat_natCast, hi0, rowI_eq, cutM L t m m2 m1, q1, rowT_take, q2, ints_app]); (try simp only [decide_eq_true_eq, decide_eq_false_iff_not, Bool.not_eq_true', Bool.not_eq_false', Bool.not_eq_true, Bool.not_eq_false, beq_iff_eq, bne_iff_ne, ne_eq, beq_eq_false_iff_ne, bne_eq_false_iff_eq, Int.not_lt, Int.not_le, gt_iff_lt, ge_iff_le, Decidable.not_not] at hc)))
              | (refine And.intro ?_ ?_))
          refine ⟨(i + 1, o ++ (L.take m).drop t ++ [cc], m), by dsimp only; omega, ⟨by dsimp only; omega, by dsimp only; omega, by simp only [List.length_append, q2, List.length_cons, List.length_nil]; omega, by dsimp only; rw [gl]; simp [atR], i5⟩, ?_⟩
          (refine VS_of [.old 4] (by decide) ?_ ?_ (by decide); all_goals (repeat' (first | exact trivial | refine And.intro ?_ ?_ | exact ⟨rfl, rfl⟩ | exact Sg.any | ((first | refine ⟨_, rfl, ?_⟩ | refine ⟨_, .inl ⟨rfl, rfl⟩, ?_⟩ | refine ⟨_, .inr rfl, ?_⟩ | refine Sg.of ?_); (repeat' (first | ((first | refine Sv.cl (Cl.of ?_) | refine Svs.cl (Cls.of ?_)); simp only [go_sem, Bool.and_self, Bool.and_true]; done) | exact Sv.pt rfl | exact Sv.mp rfl | exact Sv.nil rfl | exact Sv.em rfl | (refine Sv.slE rfl ?_ ?_ <;> (first | rfl | omega | (simp only [ints_snoc, List.length_append, q2, List.length_cons, List.length_nil, wi]; done) | (simp only [go_sem, ints_snoc, List.length_append, q2, List.length_cons, List.length_nil, wi]; done) | (simp [ints_snoc, List.length_append, q2, List.length_cons, List.length_nil, wi]; done) | (simp [ints_snoc, List.length_append, q2, List.length_cons, List.length_nil, wi]; omega))) | ((first | refine Sv.eq ?_ ?_ | refine Svs.eq ?_ ?_) <;> (first | rfl | omega | (simp only [ints_snoc, List.length_append, q2, List.length_cons, List.length_nil, wi]; done) | (simp only [go_sem, ints_snoc, List.length_append, q2, List.length_cons, List.length_nil, wi]; done) | (simp [ints_snoc, List.length_append, q2, List.length_cons, List.length_nil, wi]; done) | (simp [ints_snoc, List.length_append, q2, List.length_cons, List.length_nil, wi]; omega))) | exact Sv.nil0 | exact Sv.em0 | exact Sv.sl0 | ((first | refine Sv.slFE (.inl ⟨rfl, rfl⟩) ?_ (Svs.eq ?_ ?_) | refine Sv.slFE (.inr rfl) ?_ (Svs.eq ?_ ?_)) <;> (first | rfl | omega | (simp only [ints_snoc, List.length_append, q2, List.length_cons, List.length_nil, wi]; done) | (simp only [go_sem, ints_snoc, List.length_append, q2, List.length_cons, List.length_nil, wi]; done) | (simp [ints_snoc, List.length_append, q2, List.length_cons, List.length_nil, wi]; done) | (simp [ints_snoc, List.length_append, q2, List.length_cons, List.length_nil, wi]; omega))) | exact Svs.nilI | refine Svs.consI ?_ ?_ | refine Sv.tu ?_ | refine Sv.ag ?_)); done) | rfl)))
        · have k2' : (k != 2) = true := by simp [k2]
          have m3 : m + 1 ≤ L.length := by have := b4 k2; omega
          by_cases k3 : k = 3
          · subst k3
            rw [if_pos rfl, if_neg (by omega), ← gl, List.append_nil] at i5
            simp only [go_sem, seval, L18_b0, S18, hi', hd, Int.toNat_natCast]
            repeat' (first
                | ((first | ((first | refine ZCall_pure (c1) (Cls.of ?_) ?_); simp only [go_sem, Bool.and_self, Bool.and_true]) | ((first | refine LNext_if ?_ ?_ | refine ZNext_if ?_ ?_ | refine ZY_if ?_ ?_); (first | omega | exact True.intro | (simp only [go_sem, List.length_map, List.length_cons, List.length_nil, List.length_append, List.length_replicate, List.length_drop, List.length_take, List.length_set, Nat.reduceAdd, Nat.reduceMul, true_and, and_true]; omega) | (refine And.intro ?_ ?_ <;> first | omega | exact True.intro | (simp only [List.length_map, List.length_cons, List.length_nil, List.length_append, List.length_replicate, List.length_drop, List.length_take, List.length_set]; omega)))) | (refine And.intro ?_ ?_; (show okA _ _ _ _ = true); kernel_rfl) | refine MW_still dl18_7 mixedP dx18_7 ?_ | refine MX_ok (l := .seq _ _) ?_ | refine MX_ok (l := .reg _) ?_ | refine MX_ok (l := .cond _ _ _) ?_ | refine MX_ok (l := .block _ _) ?_ | refine MX_ok (l := .ret) ?_ | refine MX_ok (l := .skip) ?_); (try simp only [go_sem, seval, l18_7, hi', hi2, hd, Int.toNat_natCast, hi0, rowI_eq, cutM L t m m2 m1, q1, rowT_take, q2, ints_app]))
                | ((first | refine MCond_split ?_ ?_ | refine NCond_split ?_ ?_ | refine LGuard_split ?_ ?_ | refine ZG_split ?_ ?_) <;> (intro hc; (try simp only [go_sem, seval, hc, l18_7, hi', hi2, hd, Int.toNat_natCast, hi0, rowI_eq, cutM L t m m2 m1, q1, rowT_take, q2, ints_app]); (try simp only [decide_eq_true_eq, decide_eq_false_iff_not, Bool.not_eq_true', Bool.not_eq_false', Bool.not_eq_true, Bool.not_eq_false, beq_iff_eq, bne_iff_ne, ne_eq, beq_eq_false_iff_ne, bne_eq_false_iff_eq, Int.not_lt, Int.not_le, gt_iff_lt, ge_iff_le, Decidable.not_not] at hc)))
                | (refine And.intro ?_ ?_))
            refine ⟨(i + 1, o ++ (L.take m).drop t, m + 1), by dsimp only; omega, ⟨by dsimp only; omega, m3, by simp only [List.length_append, q2]; omega, by dsimp only; rw [gl]; simp [atR], i5⟩, ?_⟩
            (refine VS_of [.old 2] (by decide) ?_ ?_ (by decide); all_goals (repeat' (first | exact trivial | refine And.intro ?_ ?_ | exact ⟨rfl, rfl⟩ | exact Sg.any | ((first | refine ⟨_, rfl, ?_⟩ | refine ⟨_, .inl ⟨rfl, rfl⟩, ?_⟩ | refine ⟨_, .inr rfl, ?_⟩ | refine Sg.of ?_); (repeat' (first | ((first | refine Sv.cl (Cl.of ?_) | refine Svs.cl (Cls.of ?_)); simp only [go_sem, Bool.and_self, Bool.and_true]; done) | exact Sv.pt rfl | exact Sv.mp rfl | exact Sv.nil rfl | exact Sv.em rfl | (refine Sv.slE rfl ?_ ?_ <;> (first | rfl | omega | (simp only [List.length_append, q2, wi, wm]; done) | (simp only [go_sem, List.length_append, q2, wi, wm]; done) | (simp [List.length_append, q2, wi, wm]; done) | (simp [List.length_append, q2, wi, wm]; omega))) | ((first | refine Sv.eq ?_ ?_ | refine Svs.eq ?_ ?_) <;> (first | rfl | omega | (simp only [List.length_append, q2, wi, wm]; done) | (simp only [go_sem, List.length_append, q2, wi, wm]; done) | (simp [List.length_append, q2, wi, wm]; done) | (simp [List.length_append, q2, wi, wm]; omega))) | exact Sv.nil0 | exact Sv.em0 | exact Sv.sl0 | ((first | refine Sv.slFE (.inl ⟨rfl, rfl⟩) ?_ (Svs.eq ?_ ?_) | refine Sv.slFE (.inr rfl) ?_ (Svs.eq ?_ ?_)) <;> (first | rfl | omega | (simp only [List.length_append, q2, wi, wm]; done) | (simp only [go_sem, List.length_append, q2, wi, wm]; done) | (simp [List.length_append, q2, wi, wm]; done) | (simp [List.length_append, q2, wi, wm]; omega))) | exact Svs.nilI | refine Svs.consI ?_ ?_ | refine Sv.tu ?_ | refine Sv.ag ?_)); done) | rfl)))
          · have k3' : (k != 3) = true := by simp [k3]
            rw [if_neg k3, if_neg k2, ← gl] at i5
            simp only [go_sem, seval, L18_b0, S18, hi', hd, Int.toNat_natCast]
            repeat' (first
                | ((first | ((first | refine ZCall_pure (c1) (Cls.of ?_) ?_); simp only [go_sem, Bool.and_self, Bool.and_true]) | ((first | refine LNext_if ?_ ?_ | refine ZNext_if ?_ ?_ | refine ZY_if ?_ ?_); (first | omega | exact True.intro | (simp only [go_sem, List.length_map, List.length_cons, List.length_nil, List.length_append, List.length_replicate, List.length_drop, List.length_take, List.length_set, Nat.reduceAdd, Nat.reduceMul, true_and, and_true]; omega) | (refine And.intro ?_ ?_ <;> first | omega | exact True.intro | (simp only [List.length_map, List.length_cons, List.length_nil, List.length_append, List.length_replicate, List.length_drop, List.length_take, List.length_set]; omega)))) | (refine And.intro ?_ ?_; (show okA _ _ _ _ = true); kernel_rfl) | refine MW_still dl18_7 mixedP dx18_7 ?_ | refine MX_ok (l := .seq _ _) ?_ | refine MX_ok (l := .reg _) ?_ | refine MX_ok (l := .cond _ _ _) ?_ | refine MX_ok (l := .block _ _) ?_ | refine MX_ok (l := .ret) ?_ | refine MX_ok (l := .skip) ?_); (try simp only [go_sem, seval, l18_7, hi', hi2, hd, Int.toNat_natCast, hi0, rowI_eq, cutM L t m m2 m1, q1, rowT_take, q2, ints_app, k2', k3']))
                | ((first | refine MCond_split ?_ ?_ | refine NCond_split ?_ ?_ | refine LGuard_split ?_ ?_ | refine ZG_split ?_ ?_) <;> (intro hc; (try simp only [go_sem, seval, hc, l18_7, hi', hi2, hd, Int.toNat_natCast, hi0, rowI_eq, cutM L t m m2 m1, q1, rowT_take, q2, ints_app, k2', k3']); (try simp only [decide_eq_true_eq, decide_eq_false_iff_not, Bool.not_eq_true', Bool.not_eq_false', Bool.not_eq_true, Bool.not_eq_false, beq_iff_eq, bne_iff_ne, ne_eq, beq_eq_false_iff_ne, bne_eq_false_iff_eq, Int.not_lt, Int.not_le, gt_iff_lt, ge_iff_le, Decidable.not_not] at hc)))
                | (refine And.intro ?_ ?_))
            refine ⟨(i + 1, o ++ (L.take m).drop t ++ [cc], m + 1), by dsimp only; omega, ⟨by dsimp only; omega, m3, by simp only [List.length_append, q2, List.length_cons, List.length_nil]; omega, by dsimp only; rw [gl]; simp [atR, k2], i5⟩, ?_⟩
            (refine VS_of [.old 4] (by decide) ?_ ?_ (by decide); all_goals (repeat' (first | exact trivial | refine And.intro ?_ ?_ | exact ⟨rfl, rfl⟩ | exact Sg.any | ((first | refine ⟨_, rfl, ?_⟩ | refine ⟨_, .inl ⟨rfl, rfl⟩, ?_⟩ | refine ⟨_, .inr rfl, ?_⟩ | refine Sg.of ?_); (repeat' (first | ((first | refine Sv.cl (Cl.of ?_) | refine Svs.cl (Cls.of ?_)); simp only [go_sem, Bool.and_self, Bool.and_true]; done) | exact Sv.pt rfl | exact Sv.mp rfl | exact Sv.nil rfl | exact Sv.em rfl | (refine Sv.slE rfl ?_ ?_ <;> (first | rfl | omega | (simp only [ints_snoc, List.length_append, q2, List.length_cons, List.length_nil, wi, wm]; done) | (simp only [go_sem, ints_snoc, List.length_append, q2, List.length_cons, List.length_nil, wi, wm]; done) | (simp [ints_snoc, List.length_append, q2, List.length_cons, List.length_nil, wi, wm]; done) | (simp [ints_snoc, List.length_append, q2, List.length_cons, List.length_nil, wi, wm]; omega))) | ((first | refine Sv.eq ?_ ?_ | refine Svs.eq ?_ ?_) <;> (first | rfl | omega | (simp only [ints_snoc, List.length_append, q2, List.length_cons, List.length_nil, wi, wm]; done) | (simp only [go_sem, ints_snoc, List.length_append, q2, List.length_cons, List.length_nil, wi, wm]; done) | (simp [ints_snoc, List.length_append, q2, List.length_cons, List.length_nil, wi, wm]; done) | (simp [ints_snoc, List.length_append, q2, List.length_cons, List.length_nil, wi, wm]; omega))) | exact Sv.nil0 | exact Sv.em0 | exact Sv.sl0 | ((first | refine Sv.slFE (.inl ⟨rfl, rfl⟩) ?_ (Svs.eq ?_ ?_) | refine Sv.slFE (.inr rfl) ?_ (Svs.eq ?_ ?_)) <;> (first | rfl | omega | (simp only [ints_snoc, List.length_append, q2, List.length_cons, List.length_nil, wi, wm]; done) | (simp only [go_sem, ints_snoc, List.length_append, q2, List.length_cons, List.length_nil, wi, wm]; done) | (simp [ints_snoc, List.length_append, q2, List.length_cons, List.length_nil, wi, wm]; done) | (simp [ints_snoc, List.length_append, q2, List.length_cons, List.length_nil, wi, wm]; omega))) | exact Svs.nilI | refine Svs.consI ?_ ?_ | refine Sv.tu ?_ | refine Sv.ag ?_)); done) | rfl)))
    · have hi' : ¬ (i : Int) < l.length := by omega
      rw [List.drop_of_length_le hi, runR] at i5
      rw [i5]
      simp only [go_sem, seval, L18_b0, S18, hi', cutT L t i2]
      repeat' (first
          | ((first | ((first | refine LNext_if ?_ ?_ | refine ZNext_if ?_ ?_ | refine ZY_if ?_ ?_); (first | omega | exact True.intro | (simp only [go_sem, List.length_map, List.length_cons, List.length_nil, List.length_append, List.length_replicate, List.length_drop, List.length_take, List.length_set, Nat.reduceAdd, Nat.reduceMul, true_and, and_true]; omega) | (refine And.intro ?_ ?_ <;> first | omega | exact True.intro | (simp only [List.length_map, List.length_cons, List.length_nil, List.length_append, List.length_replicate, List.length_drop, List.length_take, List.length_set]; omega)))) | (refine And.intro ?_ ?_; (show okA _ _ _ _ = true); kernel_rfl) | refine MX_ok (l := .seq _ _) ?_ | refine MX_ok (l := .reg _) ?_ | refine MX_ok (l := .cond _ _ _) ?_ | refine MX_ok (l := .block _ _) ?_ | refine MX_ok (l := .ret) ?_ | refine MX_ok (l := .skip) ?_); (try simp only [go_sem, seval, cutT L t i2]))
          | ((first | refine MCond_split ?_ ?_ | refine NCond_split ?_ ?_ | refine LGuard_split ?_ ?_ | refine ZG_split ?_ ?_) <;> (intro hc; (try simp only [go_sem, seval, hc, cutT L t i2]); (try simp only [decide_eq_true_eq, decide_eq_false_iff_not, Bool.not_eq_true', Bool.not_eq_false', Bool.not_eq_true, Bool.not_eq_false, beq_iff_eq, bne_iff_ne, ne_eq, beq_eq_false_iff_ne, bne_eq_false_iff_eq, Int.not_lt, Int.not_le, gt_iff_lt, ge_iff_le, Decidable.not_not] at hc)))
          | (refine And.intro ?_ ?_))
      simp only [Option.getD_some, Option.isSome_some]
      refine Fin_of ⟨rfl, rfl⟩ ?_; (refine VS_of [] (by decide) ?_ ?_ (by decide); all_goals (repeat' (first | exact trivial | refine And.intro ?_ ?_ | exact ⟨rfl, rfl⟩ | exact Sg.any | ((first | refine ⟨_, rfl, ?_⟩ | refine ⟨_, .inl ⟨rfl, rfl⟩, ?_⟩ | refine ⟨_, .inr rfl, ?_⟩ | refine Sg.of ?_); (repeat' (first | ((first | refine Sv.cl (Cl.of ?_) | refine Svs.cl (Cls.of ?_)); simp only [go_sem, Bool.and_self, Bool.and_true]; done) | exact Sv.pt rfl | exact Sv.mp rfl | exact Sv.nil rfl | exact Sv.em rfl | (refine Sv.slE rfl ?_ ?_ <;> (first | rfl | omega | (simp only [ints_app, List.length_append]; done) | (simp only [go_sem, ints_app, List.length_append]; done) | (simp [ints_app, List.length_append]; done) | (simp [ints_app, List.length_append]; omega))) | ((first | refine Sv.eq ?_ ?_ | refine Svs.eq ?_ ?_) <;> (first | rfl | omega | (simp only [ints_app, List.length_append]; done) | (simp only [go_sem, ints_app, List.length_append]; done) | (simp [ints_app, List.length_append]; done) | (simp [ints_app, List.length_append]; omega))) | exact Sv.nil0 | exact Sv.em0 | exact Sv.sl0 | ((first | refine Sv.slFE (.inl ⟨rfl, rfl⟩) ?_ (Svs.eq ?_ ?_) | refine Sv.slFE (.inr rfl) ?_ (Svs.eq ?_ ?_)) <;> (first | rfl | omega | (simp only [ints_app, List.length_append]; done) | (simp only [go_sem, ints_app, List.length_append]; done) | (simp [ints_app, List.length_append]; done) | (simp [ints_app, List.length_append]; omega))) | exact Svs.nilI | refine Svs.consI ?_ ?_ | refine Sv.tu ?_ | refine Sv.ag ?_)); done) | rfl)))
end Go.Proofs.YtkggkkjiidbclaaGreatDoor
