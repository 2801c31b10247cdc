/- Part 23 of the texts that lead to gapFill_holds, gapSpace_holds, gapWider_holds. No condition. -/
import Derived.Test.YtimblogmflmhkaaH22
set_option linter.unusedSimpArgs false
set_option linter.unusedVariables false
set_option linter.unnecessarySimpa false
namespace Go.Proofs.Ytimblogmflmhkaa
open Go Go.Abs
def nilC : AV := .v (.slice none 0 0)
theorem clbs_tail (K : List Seq) (n : Nat) : clbs (seqs K ++ List.replicate n nilC) = true := by
  have h := seqs_clb K
  rw [clbs_eq] at h ⊢
  rw [List.all_append, h, Bool.true_and, List.all_replicate]
  split <;> rfl
theorem tail_drop {K : List Seq} {n i : Nat} {x : Seq} (h : K[i]? = some x) : (seqs K ++ List.replicate n nilC).drop i = .im x.length (strs x) :: (seqs (K.drop (i + 1)) ++ List.replicate n nilC) := by
  rw [List.drop_append_of_le_length (by rw [seqs_len]; exact Nat.le_of_lt (List.getElem?_eq_some_iff.1 h).1), seqs_drop h, List.cons_append]
theorem tail_get {K : List Seq} {n i : Nat} {x : Seq} (h : K[i]? = some x) : (seqs K ++ List.replicate n nilC)[i]? = some (.im x.length (strs x)) := by
  rw [List.getElem?_append_left (by rw [seqs_len]; exact (List.getElem?_eq_some_iff.1 h).1)]
  exact seqs_get h
def S30 (f : FuncId) (cap : List AV) (l : List Seq) (n k : Nat) : List AV := [.im l.length (seqs l ++ List.replicate n nilC), .fn (.func f) [] cap, .any, .any, .v (.int .i64 0), .any, .any, .v (.int .i64 l.length), .v (.int .i64 k), .any, .any, .any, .any, .any, .any, .any, .any, .any, .any]
set_option maxRecDepth 100000 in
set_option maxHeartbeats 1000000 in
theorem indexFunc30 (f : FuncId) (cap : List AV) (hcap : clbs cap = true) (p : Seq → Bool) (l : List Seq) (hp : ∀ c ∈ l, APure Try.prog f (.im c.length (strs c) :: cap) (.v (.bool (p c)))) (hl : l.length < 1000000) (n : Nat) :
    APure Try.prog 30 [.im l.length (seqs l ++ List.replicate n nilC), .fn (.func f) [] cap] (.v (.int .i64 (idxP p l 0))) := by
  refine callp30 ?_
  simp only [go_sem, seval, L30]
  refine MW_loop_st (S30 f cap l n) (fun _ => []) (fun k => k ≤ l.length ∧ idxP p l 0 = idxP p (l.drop k) k) (fun k => l.length - k) 0 ?_ ⟨Nat.zero_le _, by simp⟩ ?_
  · (refine VS_of [] (by decide) ?_ ?_ (by decide); all_goals (repeat' (first | exact trivial | refine And.intro ?_ ?_ | exact ⟨rfl, rfl⟩ | exact Sg.any | ((first | refine ⟨_, rfl, ?_⟩ | refine ⟨_, .inl ⟨rfl, rfl⟩, ?_⟩ | refine ⟨_, .inr rfl, ?_⟩ | refine Sg.of ?_); (repeat' (first | ((first | refine Sv.cl (Cl.of ?_) | refine Svs.cl (Cls.of ?_)); simp only [go_sem, Bool.and_self, Bool.and_true]; done) | exact Sv.pt rfl | exact Sv.mp rfl | exact Sv.nil rfl | exact Sv.em rfl | (refine Sv.slE rfl ?_ ?_ <;> (first | rfl | omega | (simp only [hcap, clbs_tail]; done) | (simp only [go_sem, hcap, clbs_tail]; done) | (simp [hcap, clbs_tail]; done) | (simp [hcap, clbs_tail]; omega))) | ((first | refine Sv.eq ?_ ?_ | refine Svs.eq ?_ ?_) <;> (first | rfl | omega | (simp only [hcap, clbs_tail]; done) | (simp only [go_sem, hcap, clbs_tail]; done) | (simp [hcap, clbs_tail]; done) | (simp [hcap, clbs_tail]; omega))) | exact Sv.nil0 | exact Sv.em0 | exact Sv.sl0 | ((first | refine Sv.slFE (.inl ⟨rfl, rfl⟩) ?_ (Svs.eq ?_ ?_) | refine Sv.slFE (.inr rfl) ?_ (Svs.eq ?_ ?_)) <;> (first | rfl | omega | (simp only [hcap, clbs_tail]; done) | (simp only [go_sem, hcap, clbs_tail]; done) | (simp [hcap, clbs_tail]; done) | (simp [hcap, clbs_tail]; omega))) | exact Svs.nilI | refine Svs.consI ?_ ?_ | refine Sv.tu ?_ | refine Sv.ag ?_)); done) | rfl)))
  · rintro k ⟨hk, hi⟩
    rcases Nat.lt_or_ge k l.length with h3 | h3
    · have h4 : (k : Int) < l.length := by omega
      obtain ⟨d, hd, hd'⟩ := dropG h3
      have c1 := hp d (List.mem_of_getElem? hd)
      have wi : IntKind.wrap .i64 ((k : Int) + 1) = ((k + 1 : Nat) : Int) := by rw [wrapI (by omega) (by omega)]; omega
      rw [hd', idxP] at hi
      cases hpd : p d
      · rw [hpd] at c1 hi
        simp only [go_sem, seval, L30_b0, S30, h4]
        repeat' (first
            | ((first | ((first | refine LCall_pure (c1) (Cls.of ?_) ?_); simp only [go_sem, Bool.and_self, Bool.and_true]) | ((first | refine LNext_if ?_ ?_ | refine ZNext_if ?_ ?_ | refine ZY_if ?_ ?_); (first | omega | exact True.intro | (simp only [go_sem, List.length_map, List.length_cons, List.length_nil, List.length_append, List.length_replicate, List.length_drop, List.length_take, List.length_set, Nat.reduceAdd, Nat.reduceMul, true_and, and_true]; omega) | (refine And.intro ?_ ?_ <;> first | omega | exact True.intro | (simp only [List.length_map, List.length_cons, List.length_nil, List.length_append, List.length_replicate, List.length_drop, List.length_take, List.length_set]; omega)))) | (refine And.intro ?_ ?_; (show okA _ _ _ _ = true); kernel_rfl) | refine MX_ok (l := .seq _ _) ?_ | refine MX_ok (l := .reg _) ?_ | refine MX_ok (l := .cond _ _ _) ?_ | refine MX_ok (l := .block _ _) ?_ | refine MX_ok (l := .ret) ?_ | refine MX_ok (l := .skip) ?_); (try simp only [go_sem, seval, tail_drop hd, tail_get hd, Int.toNat_natCast, wi, hcap]))
            | ((first | refine MCond_split ?_ ?_ | refine NCond_split ?_ ?_ | refine LGuard_split ?_ ?_ | refine ZG_split ?_ ?_) <;> (intro hc; (try simp only [go_sem, seval, hc, tail_drop hd, tail_get hd, Int.toNat_natCast, wi, hcap]); (try simp only [decide_eq_true_eq, decide_eq_false_iff_not, Bool.not_eq_true', Bool.not_eq_false', Bool.not_eq_true, Bool.not_eq_false, beq_iff_eq, bne_iff_ne, ne_eq, beq_eq_false_iff_ne, bne_eq_false_iff_eq, Int.not_lt, Int.not_le, gt_iff_lt, ge_iff_le, Decidable.not_not] at hc)))
            | (refine And.intro ?_ ?_))
        simp only [go_sem, seval]
        repeat' (first
            | ((first | ((first | refine LNext_if ?_ ?_ | refine ZNext_if ?_ ?_ | refine ZY_if ?_ ?_); (first | omega | exact True.intro | (simp only [go_sem, List.length_map, List.length_cons, List.length_nil, List.length_append, List.length_replicate, List.length_drop, List.length_take, List.length_set, Nat.reduceAdd, Nat.reduceMul, true_and, and_true]; omega) | (refine And.intro ?_ ?_ <;> first | omega | exact True.intro | (simp only [List.length_map, List.length_cons, List.length_nil, List.length_append, List.length_replicate, List.length_drop, List.length_take, List.length_set]; omega)))) | (refine And.intro ?_ ?_; (show okA _ _ _ _ = true); kernel_rfl) | refine MX_ok (l := .seq _ _) ?_ | refine MX_ok (l := .reg _) ?_ | refine MX_ok (l := .cond _ _ _) ?_ | refine MX_ok (l := .block _ _) ?_ | refine MX_ok (l := .ret) ?_ | refine MX_ok (l := .skip) ?_); (try simp only [go_sem, seval, wi]))
            | ((first | refine MCond_split ?_ ?_ | refine NCond_split ?_ ?_ | refine LGuard_split ?_ ?_ | refine ZG_split ?_ ?_) <;> (intro hc; (try simp only [go_sem, seval, hc, wi]); (try simp only [decide_eq_true_eq, decide_eq_false_iff_not, Bool.not_eq_true', Bool.not_eq_false', Bool.not_eq_true, Bool.not_eq_false, beq_iff_eq, bne_iff_ne, ne_eq, beq_eq_false_iff_ne, bne_eq_false_iff_eq, Int.not_lt, Int.not_le, gt_iff_lt, ge_iff_le, Decidable.not_not] at hc)))
            | (refine And.intro ?_ ?_))
        refine ⟨k + 1, by omega, ⟨by omega, ?_⟩, ?_⟩
        · simpa using hi
        · (refine VS_of [] (by decide) ?_ ?_ (by decide); all_goals (repeat' (first | exact trivial | refine And.intro ?_ ?_ | exact ⟨rfl, rfl⟩ | exact Sg.any | ((first | refine ⟨_, rfl, ?_⟩ | refine ⟨_, .inl ⟨rfl, rfl⟩, ?_⟩ | refine ⟨_, .inr rfl, ?_⟩ | refine Sg.of ?_); (repeat' (first | ((first | refine Sv.cl (Cl.of ?_) | refine Svs.cl (Cls.of ?_)); simp only [go_sem, Bool.and_self, Bool.and_true]; done) | exact Sv.pt rfl | exact Sv.mp rfl | exact Sv.nil rfl | exact Sv.em rfl | (refine Sv.slE rfl ?_ ?_ <;> (first | rfl | omega | (simp only [hcap, clbs_tail]; done) | (simp only [go_sem, hcap, clbs_tail]; done) | (simp [hcap, clbs_tail]; done) | (simp [hcap, clbs_tail]; omega))) | ((first | refine Sv.eq ?_ ?_ | refine Svs.eq ?_ ?_) <;> (first | rfl | omega | (simp only [hcap, clbs_tail]; done) | (simp only [go_sem, hcap, clbs_tail]; done) | (simp [hcap, clbs_tail]; done) | (simp [hcap, clbs_tail]; omega))) | exact Sv.nil0 | exact Sv.em0 | exact Sv.sl0 | ((first | refine Sv.slFE (.inl ⟨rfl, rfl⟩) ?_ (Svs.eq ?_ ?_) | refine Sv.slFE (.inr rfl) ?_ (Svs.eq ?_ ?_)) <;> (first | rfl | omega | (simp only [hcap, clbs_tail]; done) | (simp only [go_sem, hcap, clbs_tail]; done) | (simp [hcap, clbs_tail]; done) | (simp [hcap, clbs_tail]; omega))) | exact Svs.nilI | refine Svs.consI ?_ ?_ | refine Sv.tu ?_ | refine Sv.ag ?_)); done) | rfl)))
      · rw [hpd] at c1 hi
        simp only [go_sem, seval, L30_b0, S30, h4]
        repeat' (first
            | ((first | ((first | refine LCall_pure (c1) (Cls.of ?_) ?_); simp only [go_sem, Bool.and_self, Bool.and_true]) | ((first | refine LNext_if ?_ ?_ | refine ZNext_if ?_ ?_ | refine ZY_if ?_ ?_); (first | omega | exact True.intro | (simp only [go_sem, List.length_map, List.length_cons, List.length_nil, List.length_append, List.length_replicate, List.length_drop, List.length_take, List.length_set, Nat.reduceAdd, Nat.reduceMul, true_and, and_true]; omega) | (refine And.intro ?_ ?_ <;> first | omega | exact True.intro | (simp only [List.length_map, List.length_cons, List.length_nil, List.length_append, List.length_replicate, List.length_drop, List.length_take, List.length_set]; omega)))) | (refine And.intro ?_ ?_; (show okA _ _ _ _ = true); kernel_rfl) | refine MX_ok (l := .seq _ _) ?_ | refine MX_ok (l := .reg _) ?_ | refine MX_ok (l := .cond _ _ _) ?_ | refine MX_ok (l := .block _ _) ?_ | refine MX_ok (l := .ret) ?_ | refine MX_ok (l := .skip) ?_); (try simp only [go_sem, seval, tail_drop hd, tail_get hd, Int.toNat_natCast, wi, hcap]))
            | ((first | refine MCond_split ?_ ?_ | refine NCond_split ?_ ?_ | refine LGuard_split ?_ ?_ | refine ZG_split ?_ ?_) <;> (intro hc; (try simp only [go_sem, seval, hc, tail_drop hd, tail_get hd, Int.toNat_natCast, wi, hcap]); (try simp only [decide_eq_true_eq, decide_eq_false_iff_not, Bool.not_eq_true', Bool.not_eq_false', Bool.not_eq_true, Bool.not_eq_false, beq_iff_eq, bne_iff_ne, ne_eq, beq_eq_false_iff_ne, bne_eq_false_iff_eq, Int.not_lt, Int.not_le, gt_iff_lt, ge_iff_le, Decidable.not_not] at hc)))
            | (refine And.intro ?_ ?_))
        simp only [if_true] at hi
        simp only [go_sem, seval, hi]
        repeat' (first
            | ((first | ((first | refine LNext_if ?_ ?_ | refine ZNext_if ?_ ?_ | refine ZY_if ?_ ?_); (first | omega | exact True.intro | (simp only [go_sem, List.length_map, List.length_cons, List.length_nil, List.length_append, List.length_replicate, List.length_drop, List.length_take, List.length_set, Nat.reduceAdd, Nat.reduceMul, true_and, and_true]; omega) | (refine And.intro ?_ ?_ <;> first | omega | exact True.intro | (simp only [List.length_map, List.length_cons, List.length_nil, List.length_append, List.length_replicate, List.length_drop, List.length_take, List.length_set]; omega)))) | (refine And.intro ?_ ?_; (show okA _ _ _ _ = true); kernel_rfl) | refine MX_ok (l := .seq _ _) ?_ | refine MX_ok (l := .reg _) ?_ | refine MX_ok (l := .cond _ _ _) ?_ | refine MX_ok (l := .block _ _) ?_ | refine MX_ok (l := .ret) ?_ | refine MX_ok (l := .skip) ?_); (try simp only [go_sem, seval, hi]))
            | ((first | refine MCond_split ?_ ?_ | refine NCond_split ?_ ?_ | refine LGuard_split ?_ ?_ | refine ZG_split ?_ ?_) <;> (intro hc; (try simp only [go_sem, seval, hc, hi]); (try simp only [decide_eq_true_eq, decide_eq_false_iff_not, Bool.not_eq_true', Bool.not_eq_false', Bool.not_eq_true, Bool.not_eq_false, beq_iff_eq, bne_iff_ne, ne_eq, beq_eq_false_iff_ne, bne_eq_false_iff_eq, Int.not_lt, Int.not_le, gt_iff_lt, ge_iff_le, Decidable.not_not] at hc)))
            | (refine And.intro ?_ ?_))
        refine Fin_of ⟨rfl, rfl⟩ ?_; (refine VS_of [] (by decide) ?_ ?_ (by decide); all_goals (repeat' (first | exact trivial | refine And.intro ?_ ?_ | exact ⟨rfl, rfl⟩ | exact Sg.any | ((first | refine ⟨_, rfl, ?_⟩ | refine ⟨_, .inl ⟨rfl, rfl⟩, ?_⟩ | refine ⟨_, .inr rfl, ?_⟩ | refine Sg.of ?_); (repeat' (first | ((first | refine Sv.cl (Cl.of ?_) | refine Svs.cl (Cls.of ?_)); simp only [go_sem, Bool.and_self, Bool.and_true]; done) | exact Sv.pt rfl | exact Sv.mp rfl | exact Sv.nil rfl | exact Sv.em rfl | (refine Sv.slE rfl ?_ ?_ <;> (first | rfl | omega | (simp only [go_sem]; done) | (simp [go_sem]; done) | (simp [go_sem]; omega))) | ((first | refine Sv.eq ?_ ?_ | refine Svs.eq ?_ ?_) <;> (first | rfl | omega | (simp only [go_sem]; done) | (simp [go_sem]; done) | (simp [go_sem]; omega))) | exact Sv.nil0 | exact Sv.em0 | exact Sv.sl0 | ((first | refine Sv.slFE (.inl ⟨rfl, rfl⟩) ?_ (Svs.eq ?_ ?_) | refine Sv.slFE (.inr rfl) ?_ (Svs.eq ?_ ?_)) <;> (first | rfl | omega | (simp only [go_sem]; done) | (simp [go_sem]; done) | (simp [go_sem]; omega))) | exact Svs.nilI | refine Svs.consI ?_ ?_ | refine Sv.tu ?_ | refine Sv.ag ?_)); done) | rfl)))
    · have h4 : ¬ (k : Int) < l.length := by omega
      rw [List.drop_eq_nil_of_le (by omega), idxP] at hi
      simp only [go_sem, seval, L30_b0, S30, h4, hi]
      refine Fin_of ⟨rfl, rfl⟩ ?_; (refine VS_of [] (by decide) ?_ ?_ (by decide); all_goals (repeat' (first | exact trivial | refine And.intro ?_ ?_ | exact ⟨rfl, rfl⟩ | exact Sg.any | ((first | refine ⟨_, rfl, ?_⟩ | refine ⟨_, .inl ⟨rfl, rfl⟩, ?_⟩ | refine ⟨_, .inr rfl, ?_⟩ | refine Sg.of ?_); (repeat' (first | ((first | refine Sv.cl (Cl.of ?_) | refine Svs.cl (Cls.of ?_)); simp only [go_sem, Bool.and_self, Bool.and_true]; done) | exact Sv.pt rfl | exact Sv.mp rfl | exact Sv.nil rfl | exact Sv.em rfl | (refine Sv.slE rfl ?_ ?_ <;> (first | rfl | omega | (simp only [go_sem]; done) | (simp [go_sem]; done) | (simp [go_sem]; omega))) | ((first | refine Sv.eq ?_ ?_ | refine Svs.eq ?_ ?_) <;> (first | rfl | omega | (simp only [go_sem]; done) | (simp [go_sem]; done) | (simp [go_sem]; omega))) | exact Sv.nil0 | exact Sv.em0 | exact Sv.sl0 | ((first | refine Sv.slFE (.inl ⟨rfl, rfl⟩) ?_ (Svs.eq ?_ ?_) | refine Sv.slFE (.inr rfl) ?_ (Svs.eq ?_ ?_)) <;> (first | rfl | omega | (simp only [go_sem]; done) | (simp [go_sem]; done) | (simp [go_sem]; omega))) | exact Svs.nilI | refine Svs.consI ?_ ?_ | refine Sv.tu ?_ | refine Sv.ag ?_)); done) | rfl)))
theorem idxP_filter {α : Type} (p : α → Bool) : ∀ (l : List α) (n : Int), (idxP p l n = -1 ∧ l.filter (fun x => !p x) = l) ∨ ∃ k : Nat, k < l.length ∧ idxP p l n = n + k ∧ (l.take (k + 1)).filter (fun x => !p x) = l.take k
  | [], n => .inl ⟨rfl, rfl⟩
  | x :: l, n => by
    by_cases hx : p x = true
    · exact .inr ⟨0, by simp, by simp [idxP, hx], by simp [hx]⟩
    · rcases idxP_filter p l (n + 1) with ⟨h1, h2⟩ | ⟨k, h1, h2, h3⟩
      · refine .inl ⟨by rw [idxP, if_neg hx, h1], ?_⟩
        rw [List.filter_cons, if_pos (by simpa using hx), h2]
      · refine .inr ⟨k + 1, by simpa using h1, ?_, ?_⟩
        · rw [idxP, if_neg hx, h2]; omega
        · rw [List.take_succ_cons, List.filter_cons, if_pos (by simpa using hx), h3, List.take_succ_cons]
def S27 (f : FuncId) (cap : List AV) (n i j : Nat) : List AV := [.sl 0 0 n, .fn (.func f) [] cap, .any, .any, .any, .v (.int .i64 i), .v (.int .i64 j), .any, .any, .any, .any, .any, .any, .any, .any, .any, .any, .any, .any, .any, .any, .any, .any, .any, .any, .any, .any, .any, .any, .any, .any, .any, .any, .any, .any, .any, .any, .any, .any, .any, .any, .any]
set_option maxRecDepth 100000 in
set_option maxHeartbeats 1000000 in
theorem deleteFunc27 (f : FuncId) (cap : List AV) (hcap : clbs cap = true) (p : Seq → Bool) (l : List Seq) (hp : ∀ c ∈ l, APure Try.prog f (.im c.length (strs c) :: cap) (.v (.bool (p c)))) (hl : l.length < 1000000) :
    AFn Try.prog 27 0 [.sl 0 0 l.length, .fn (.func f) [] cap] [.cells 1 (seqs l)]
      (fun v Ho => v = .sl 0 0 (l.filter fun x => !p x).length ∧ Ho = [.cells 1 (seqs (l.filter fun x => !p x) ++ List.replicate (l.length - (l.filter fun x => !p x).length) nilC)]) := by
  have c1 := indexFunc30 f cap hcap p l hp hl 0
  rw [List.replicate_zero, List.append_nil] at c1
  refine callm27 ?_
  simp only [go_sem, seval, L27]
  refine LCall_borrow (Rfs_co (Rf.sl (.inl rfl) (Rfs.cls (Cls.of ?_))) (Rfs_co (Rf.cl (Cl.of ?_)) Rfs_nil)) c1 rfl ?_
  · simp only [go_sem, Bool.and_self, Bool.and_true]
  · simp only [go_sem, Bool.and_self, Bool.and_true]
    exact hcap
  rcases idxP_filter p l 0 with ⟨h1, h2⟩ | ⟨k, h1, h2, h3⟩
  · rw [h1]
    simp only [go_sem, seval]
    repeat' (first
        | ((first | ((first | refine LNext_if ?_ ?_ | refine ZNext_if ?_ ?_ | refine ZY_if ?_ ?_); (first | omega | exact True.intro | (simp only [go_sem, List.length_map, List.length_cons, List.length_nil, List.length_append, List.length_replicate, List.length_drop, List.length_take, List.length_set, Nat.reduceAdd, Nat.reduceMul, true_and, and_true]; omega) | (refine And.intro ?_ ?_ <;> first | omega | exact True.intro | (simp only [List.length_map, List.length_cons, List.length_nil, List.length_append, List.length_replicate, List.length_drop, List.length_take, List.length_set]; omega)))) | (refine And.intro ?_ ?_; (show okA _ _ _ _ = true); kernel_rfl) | refine MX_ok (l := .seq _ _) ?_ | refine MX_ok (l := .reg _) ?_ | refine MX_ok (l := .cond _ _ _) ?_ | refine MX_ok (l := .block _ _) ?_ | refine MX_ok (l := .ret) ?_ | refine MX_ok (l := .skip) ?_); (try simp only [go_sem, seval]))
        | ((first | refine MCond_split ?_ ?_ | refine NCond_split ?_ ?_ | refine LGuard_split ?_ ?_ | refine ZG_split ?_ ?_) <;> (intro hc; (try simp only [go_sem, seval, hc]); (try simp only [decide_eq_true_eq, decide_eq_false_iff_not, Bool.not_eq_true', Bool.not_eq_false', Bool.not_eq_true, Bool.not_eq_false, beq_iff_eq, bne_iff_ne, ne_eq, beq_eq_false_iff_ne, bne_eq_false_iff_eq, Int.not_lt, Int.not_le, gt_iff_lt, ge_iff_le, Decidable.not_not] at hc)))
        | (refine And.intro ?_ ?_))
    rw [h2, Nat.sub_self, List.replicate_zero, List.append_nil]
    refine Fin_of ⟨rfl, rfl⟩ ?_; (refine VS_of [.old 0] (by decide) ?_ ?_ (by decide); all_goals (repeat' (first | exact trivial | refine And.intro ?_ ?_ | exact ⟨rfl, rfl⟩ | exact Sg.any | ((first | refine ⟨_, rfl, ?_⟩ | refine ⟨_, .inl ⟨rfl, rfl⟩, ?_⟩ | refine ⟨_, .inr rfl, ?_⟩ | refine Sg.of ?_); (repeat' (first | ((first | refine Sv.cl (Cl.of ?_) | refine Svs.cl (Cls.of ?_)); simp only [go_sem, Bool.and_self, Bool.and_true]; done) | exact Sv.pt rfl | exact Sv.mp rfl | exact Sv.nil rfl | exact Sv.em rfl | (refine Sv.slE rfl ?_ ?_ <;> (first | rfl | omega | (simp only [go_sem]; done) | (simp [go_sem]; done) | (simp [go_sem]; omega))) | ((first | refine Sv.eq ?_ ?_ | refine Svs.eq ?_ ?_) <;> (first | rfl | omega | (simp only [go_sem]; done) | (simp [go_sem]; done) | (simp [go_sem]; omega))) | exact Sv.nil0 | exact Sv.em0 | exact Sv.sl0 | ((first | refine Sv.slFE (.inl ⟨rfl, rfl⟩) ?_ (Svs.eq ?_ ?_) | refine Sv.slFE (.inr rfl) ?_ (Svs.eq ?_ ?_)) <;> (first | rfl | omega | (simp only [go_sem]; done) | (simp [go_sem]; done) | (simp [go_sem]; omega))) | exact Svs.nilI | refine Svs.consI ?_ ?_ | refine Sv.tu ?_ | refine Sv.ag ?_)); done) | rfl)))
  · rw [h2]
    have e1 : ((0 + (k : Int)) == -1) = false := by simp
    have e2 : IntKind.wrap .i64 (0 + (k : Int) + 1) = ((k + 1 : Nat) : Int) := by rw [wrapI (by omega) (by omega)]; omega
    simp only [go_sem, seval, e1, e2]
    repeat' (first
        | ((first | ((first | refine LNext_if ?_ ?_ | refine ZNext_if ?_ ?_ | refine ZY_if ?_ ?_); (first | omega | exact True.intro | (simp only [go_sem, List.length_map, List.length_cons, List.length_nil, List.length_append, List.length_replicate, List.length_drop, List.length_take, List.length_set, Nat.reduceAdd, Nat.reduceMul, true_and, and_true]; omega) | (refine And.intro ?_ ?_ <;> first | omega | exact True.intro | (simp only [List.length_map, List.length_cons, List.length_nil, List.length_append, List.length_replicate, List.length_drop, List.length_take, List.length_set]; omega)))) | (refine And.intro ?_ ?_; (show okA _ _ _ _ = true); kernel_rfl) | refine MX_ok (l := .seq _ _) ?_ | refine MX_ok (l := .reg _) ?_ | refine MX_ok (l := .cond _ _ _) ?_ | refine MX_ok (l := .block _ _) ?_ | refine MX_ok (l := .ret) ?_ | refine MX_ok (l := .skip) ?_); (try simp only [go_sem, seval, e1, e2]))
        | ((first | refine MCond_split ?_ ?_ | refine NCond_split ?_ ?_ | refine LGuard_split ?_ ?_ | refine ZG_split ?_ ?_) <;> (intro hc; (try simp only [go_sem, seval, hc, e1, e2]); (try simp only [decide_eq_true_eq, decide_eq_false_iff_not, Bool.not_eq_true', Bool.not_eq_false', Bool.not_eq_true, Bool.not_eq_false, beq_iff_eq, bne_iff_ne, ne_eq, beq_eq_false_iff_ne, bne_eq_false_iff_eq, Int.not_lt, Int.not_le, gt_iff_lt, ge_iff_le, Decidable.not_not] at hc)))
        | (refine And.intro ?_ ?_))
    generalize hq : (fun x => !p x) = q at h3 ⊢
    refine MW_loop_st (fun s => S27 f cap l.length ((l.take s.1).filter q).length s.1) (fun s => [.cells 1 (seqs s.2)]) (fun s => s.1 ≤ l.length ∧ s.2.length = l.length ∧ s.2.take ((l.take s.1).filter q).length = (l.take s.1).filter q ∧ s.2.drop s.1 = l.drop s.1) (fun s => l.length - s.1) (k + 1, l) ?_ ⟨by dsimp only; omega, rfl, ?_, rfl⟩ ?_
    · dsimp only
      rw [h3, List.length_take]
      have : min k l.length = k := by omega
      rw [this]
      unfold S27
      (refine VS_of [.old 0] (by decide) ?_ ?_ (by decide); all_goals (repeat' (first | exact trivial | refine And.intro ?_ ?_ | exact ⟨rfl, rfl⟩ | exact Sg.any | ((first | refine ⟨_, rfl, ?_⟩ | refine ⟨_, .inl ⟨rfl, rfl⟩, ?_⟩ | refine ⟨_, .inr rfl, ?_⟩ | refine Sg.of ?_); (repeat' (first | ((first | refine Sv.cl (Cl.of ?_) | refine Svs.cl (Cls.of ?_)); simp only [go_sem, Bool.and_self, Bool.and_true]; done) | exact Sv.pt rfl | exact Sv.mp rfl | exact Sv.nil rfl | exact Sv.em rfl | (refine Sv.slE rfl ?_ ?_ <;> (first | rfl | omega | (simp only [Int.zero_add, hcap]; done) | (simp only [go_sem, Int.zero_add, hcap]; done) | (simp [Int.zero_add, hcap]; done) | (simp [Int.zero_add, hcap]; omega))) | ((first | refine Sv.eq ?_ ?_ | refine Svs.eq ?_ ?_) <;> (first | rfl | omega | (simp only [Int.zero_add, hcap]; done) | (simp only [go_sem, Int.zero_add, hcap]; done) | (simp [Int.zero_add, hcap]; done) | (simp [Int.zero_add, hcap]; omega))) | exact Sv.nil0 | exact Sv.em0 | exact Sv.sl0 | ((first | refine Sv.slFE (.inl ⟨rfl, rfl⟩) ?_ (Svs.eq ?_ ?_) | refine Sv.slFE (.inr rfl) ?_ (Svs.eq ?_ ?_)) <;> (first | rfl | omega | (simp only [Int.zero_add, hcap]; done) | (simp only [go_sem, Int.zero_add, hcap]; done) | (simp [Int.zero_add, hcap]; done) | (simp [Int.zero_add, hcap]; omega))) | exact Svs.nilI | refine Svs.consI ?_ ?_ | refine Sv.tu ?_ | refine Sv.ag ?_)); done) | rfl)))
    · dsimp only
      rw [h3, List.length_take]
      congr 1
      omega
    · rintro ⟨j, R⟩ ⟨i1, i2, i3, i4⟩
      dsimp only at i1 i2 i3 i4 ⊢
      have hle : ((l.take j).filter q).length ≤ j := Nat.le_trans (List.length_filter_le _ _) (by rw [List.length_take]; omega)
      rcases Nat.lt_or_ge j l.length with hj | hj
      · obtain ⟨x, hx, hx'⟩ := dropG hj
        have hj' : (j : Int) < l.length := by omega
        have hxR : R[j]? = some x := by
          have := congrArg (·[0]?) i4
          simpa [hx] using this
        have c2 := hp x (List.mem_of_getElem? hx)
        have et := take_filter (p := q) hx
        have wj : IntKind.wrap .i64 ((j : Int) + 1) = ((j + 1 : Nat) : Int) := by rw [wrapI (by omega) (by omega)]; omega
        have i4' : R.drop (j + 1) = l.drop (j + 1) := by
          have := congrArg (List.drop 1) i4
          simpa [List.drop_drop] using this
        cases hpx : p x
        · have hqx : q x = true := by rw [← hq]; simp [hpx]
          rw [hpx] at c2
          rw [hqx] at et
          simp only [if_true] at et
          generalize hK : (l.take j).filter q = K at *
          have wk : IntKind.wrap .i64 ((K.length : Int) + 1) = ((K.length + 1 : Nat) : Int) := by rw [wrapI (by omega) (by omega)]; omega
          simp only [go_sem, seval, L27_b0, S27, hj']
          repeat' (first
              | ((first | ((first | refine LNext_if ?_ ?_ | refine ZNext_if ?_ ?_ | refine ZY_if ?_ ?_); (first | omega | exact True.intro | (simp only [go_sem, List.length_map, List.length_cons, List.length_nil, List.length_append, List.length_replicate, List.length_drop, List.length_take, List.length_set, Nat.reduceAdd, Nat.reduceMul, true_and, and_true]; omega) | (refine And.intro ?_ ?_ <;> first | omega | exact True.intro | (simp only [List.length_map, List.length_cons, List.length_nil, List.length_append, List.length_replicate, List.length_drop, List.length_take, List.length_set]; omega)))) | (refine And.intro ?_ ?_; (show okA _ _ _ _ = true); kernel_rfl) | refine MX_ok (l := .seq _ _) ?_ | refine MX_ok (l := .reg _) ?_ | refine MX_ok (l := .cond _ _ _) ?_ | refine MX_ok (l := .block _ _) ?_ | refine MX_ok (l := .ret) ?_ | refine MX_ok (l := .skip) ?_); (try simp only [go_sem, seval, seqs_get hxR, Int.toNat_natCast]))
              | ((first | refine MCond_split ?_ ?_ | refine NCond_split ?_ ?_ | refine LGuard_split ?_ ?_ | refine ZG_split ?_ ?_) <;> (intro hc; (try simp only [go_sem, seval, hc, seqs_get hxR, Int.toNat_natCast]); (try simp only [decide_eq_true_eq, decide_eq_false_iff_not, Bool.not_eq_true', Bool.not_eq_false', Bool.not_eq_true, Bool.not_eq_false, beq_iff_eq, bne_iff_ne, ne_eq, beq_eq_false_iff_ne, bne_eq_false_iff_eq, Int.not_lt, Int.not_le, gt_iff_lt, ge_iff_le, Decidable.not_not] at hc)))
              | (refine And.intro ?_ ?_))
          simp only [go_sem, seval, seqs_get hxR]
          refine LCall_pure c2 (Cls.of ?_) ?_
          · simp only [go_sem, hcap, Bool.and_self, Bool.and_true]
          simp only [go_sem, seval, wk, wj]
          repeat' (first
              | ((first | ((first | refine LNext_if ?_ ?_ | refine ZNext_if ?_ ?_ | refine ZY_if ?_ ?_); (first | omega | exact True.intro | (simp only [go_sem, List.length_map, List.length_cons, List.length_nil, List.length_append, List.length_replicate, List.length_drop, List.length_take, List.length_set, Nat.reduceAdd, Nat.reduceMul, true_and, and_true]; omega) | (refine And.intro ?_ ?_ <;> first | omega | exact True.intro | (simp only [List.length_map, List.length_cons, List.length_nil, List.length_append, List.length_replicate, List.length_drop, List.length_take, List.length_set]; omega)))) | (refine And.intro ?_ ?_; (show okA _ _ _ _ = true); kernel_rfl) | refine MX_ok (l := .seq _ _) ?_ | refine MX_ok (l := .reg _) ?_ | refine MX_ok (l := .cond _ _ _) ?_ | refine MX_ok (l := .block _ _) ?_ | refine MX_ok (l := .ret) ?_ | refine MX_ok (l := .skip) ?_); (try simp only [go_sem, seval, wk, wj]))
              | ((first | refine MCond_split ?_ ?_ | refine NCond_split ?_ ?_ | refine LGuard_split ?_ ?_ | refine ZG_split ?_ ?_) <;> (intro hc; (try simp only [go_sem, seval, hc, wk, wj]); (try simp only [decide_eq_true_eq, decide_eq_false_iff_not, Bool.not_eq_true', Bool.not_eq_false', Bool.not_eq_true, Bool.not_eq_false, beq_iff_eq, bne_iff_ne, ne_eq, beq_eq_false_iff_ne, bne_eq_false_iff_eq, Int.not_lt, Int.not_le, gt_iff_lt, ge_iff_le, Decidable.not_not] at hc)))
              | (refine And.intro ?_ ?_))
          have kl : K.length < R.length := by omega
          refine ⟨(j + 1, R.set K.length x), by dsimp only; omega, ⟨by dsimp only; omega, by simpa using i2, ?_, ?_⟩, ?_⟩
          · dsimp only
            rw [et, List.length_append, List.length_cons, List.length_nil, List.set_eq_take_append_cons_drop, if_pos kl, i3, List.take_append, List.take_of_length_le (by omega)]
            simp
          · dsimp only
            rw [List.drop_set_of_lt (by omega), i4']
          · dsimp only
            rw [et]
            (refine VS_of [.old 0] (by decide) ?_ ?_ (by decide); all_goals (repeat' (first | exact trivial | refine And.intro ?_ ?_ | exact ⟨rfl, rfl⟩ | exact Sg.any | ((first | refine ⟨_, rfl, ?_⟩ | refine ⟨_, .inl ⟨rfl, rfl⟩, ?_⟩ | refine ⟨_, .inr rfl, ?_⟩ | refine Sg.of ?_); (repeat' (first | (refine Svs.eq (seqs_set R K.length x kl) ?_ <;> simp only [go_sem, Bool.and_self, Bool.and_true]) | ((first | refine Sv.cl (Cl.of ?_) | refine Svs.cl (Cls.of ?_)); simp only [go_sem, Bool.and_self, Bool.and_true]; done) | exact Sv.pt rfl | exact Sv.mp rfl | exact Sv.nil rfl | exact Sv.em rfl | (refine Sv.slE rfl ?_ ?_ <;> (first | rfl | omega | (simp only [List.length_append, hcap]; done) | (simp only [go_sem, List.length_append, hcap]; done) | (simp [List.length_append, hcap]; done) | (simp [List.length_append, hcap]; omega))) | ((first | refine Sv.eq ?_ ?_ | refine Svs.eq ?_ ?_) <;> (first | rfl | omega | (simp only [List.length_append, hcap]; done) | (simp only [go_sem, List.length_append, hcap]; done) | (simp [List.length_append, hcap]; done) | (simp [List.length_append, hcap]; omega))) | exact Sv.nil0 | exact Sv.em0 | exact Sv.sl0 | ((first | refine Sv.slFE (.inl ⟨rfl, rfl⟩) ?_ (Svs.eq ?_ ?_) | refine Sv.slFE (.inr rfl) ?_ (Svs.eq ?_ ?_)) <;> (first | rfl | omega | (simp only [List.length_append, hcap]; done) | (simp only [go_sem, List.length_append, hcap]; done) | (simp [List.length_append, hcap]; done) | (simp [List.length_append, hcap]; omega))) | exact Svs.nilI | refine Svs.consI ?_ ?_ | refine Sv.tu ?_ | refine Sv.ag ?_)); done) | rfl)))
        · have hqx : q x = false := by rw [← hq]; simp [hpx]
          rw [hpx] at c2
          rw [hqx] at et
          simp only [Bool.false_eq_true, if_false, List.append_nil] at et
          simp only [go_sem, seval, L27_b0, S27, hj']
          repeat' (first
              | ((first | ((first | refine LNext_if ?_ ?_ | refine ZNext_if ?_ ?_ | refine ZY_if ?_ ?_); (first | omega | exact True.intro | (simp only [go_sem, List.length_map, List.length_cons, List.length_nil, List.length_append, List.length_replicate, List.length_drop, List.length_take, List.length_set, Nat.reduceAdd, Nat.reduceMul, true_and, and_true]; omega) | (refine And.intro ?_ ?_ <;> first | omega | exact True.intro | (simp only [List.length_map, List.length_cons, List.length_nil, List.length_append, List.length_replicate, List.length_drop, List.length_take, List.length_set]; omega)))) | (refine And.intro ?_ ?_; (show okA _ _ _ _ = true); kernel_rfl) | refine MX_ok (l := .seq _ _) ?_ | refine MX_ok (l := .reg _) ?_ | refine MX_ok (l := .cond _ _ _) ?_ | refine MX_ok (l := .block _ _) ?_ | refine MX_ok (l := .ret) ?_ | refine MX_ok (l := .skip) ?_); (try simp only [go_sem, seval, seqs_get hxR, Int.toNat_natCast]))
              | ((first | refine MCond_split ?_ ?_ | refine NCond_split ?_ ?_ | refine LGuard_split ?_ ?_ | refine ZG_split ?_ ?_) <;> (intro hc; (try simp only [go_sem, seval, hc, seqs_get hxR, Int.toNat_natCast]); (try simp only [decide_eq_true_eq, decide_eq_false_iff_not, Bool.not_eq_true', Bool.not_eq_false', Bool.not_eq_true, Bool.not_eq_false, beq_iff_eq, bne_iff_ne, ne_eq, beq_eq_false_iff_ne, bne_eq_false_iff_eq, Int.not_lt, Int.not_le, gt_iff_lt, ge_iff_le, Decidable.not_not] at hc)))
              | (refine And.intro ?_ ?_))
          simp only [go_sem, seval, seqs_get hxR]
          refine LCall_pure c2 (Cls.of ?_) ?_
          · simp only [go_sem, hcap, Bool.and_self, Bool.and_true]
          simp only [go_sem, seval, wj]
          repeat' (first
              | ((first | ((first | refine LNext_if ?_ ?_ | refine ZNext_if ?_ ?_ | refine ZY_if ?_ ?_); (first | omega | exact True.intro | (simp only [go_sem, List.length_map, List.length_cons, List.length_nil, List.length_append, List.length_replicate, List.length_drop, List.length_take, List.length_set, Nat.reduceAdd, Nat.reduceMul, true_and, and_true]; omega) | (refine And.intro ?_ ?_ <;> first | omega | exact True.intro | (simp only [List.length_map, List.length_cons, List.length_nil, List.length_append, List.length_replicate, List.length_drop, List.length_take, List.length_set]; omega)))) | (refine And.intro ?_ ?_; (show okA _ _ _ _ = true); kernel_rfl) | refine MX_ok (l := .seq _ _) ?_ | refine MX_ok (l := .reg _) ?_ | refine MX_ok (l := .cond _ _ _) ?_ | refine MX_ok (l := .block _ _) ?_ | refine MX_ok (l := .ret) ?_ | refine MX_ok (l := .skip) ?_); (try simp only [go_sem, seval, wj]))
              | ((first | refine MCond_split ?_ ?_ | refine NCond_split ?_ ?_ | refine LGuard_split ?_ ?_ | refine ZG_split ?_ ?_) <;> (intro hc; (try simp only [go_sem, seval, hc, wj]); (try simp only [decide_eq_true_eq, decide_eq_false_iff_not, Bool.not_eq_true', Bool.not_eq_false', Bool.not_eq_true, Bool.not_eq_false, beq_iff_eq, bne_iff_ne, ne_eq, beq_eq_false_iff_ne, bne_eq_false_iff_eq, Int.not_lt, Int.not_le, gt_iff_lt, ge_iff_le, Decidable.not_not] at hc)))
              | (refine And.intro ?_ ?_))
          refine ⟨(j + 1, R), by dsimp only; omega, ⟨by dsimp only; omega, i2, by rw [et]; exact i3, i4'⟩, ?_⟩
          dsimp only
          rw [et]
          (refine VS_of [.old 0] (by decide) ?_ ?_ (by decide); all_goals (repeat' (first | exact trivial | refine And.intro ?_ ?_ | exact ⟨rfl, rfl⟩ | exact Sg.any | ((first | refine ⟨_, rfl, ?_⟩ | refine ⟨_, .inl ⟨rfl, rfl⟩, ?_⟩ | refine ⟨_, .inr rfl, ?_⟩ | refine Sg.of ?_); (repeat' (first | ((first | refine Sv.cl (Cl.of ?_) | refine Svs.cl (Cls.of ?_)); simp only [go_sem, Bool.and_self, Bool.and_true]; done) | exact Sv.pt rfl | exact Sv.mp rfl | exact Sv.nil rfl | exact Sv.em rfl | (refine Sv.slE rfl ?_ ?_ <;> (first | rfl | omega | (simp only [hcap]; done) | (simp only [go_sem, hcap]; done) | (simp [hcap]; done) | (simp [hcap]; omega))) | ((first | refine Sv.eq ?_ ?_ | refine Svs.eq ?_ ?_) <;> (first | rfl | omega | (simp only [hcap]; done) | (simp only [go_sem, hcap]; done) | (simp [hcap]; done) | (simp [hcap]; omega))) | exact Sv.nil0 | exact Sv.em0 | exact Sv.sl0 | ((first | refine Sv.slFE (.inl ⟨rfl, rfl⟩) ?_ (Svs.eq ?_ ?_) | refine Sv.slFE (.inr rfl) ?_ (Svs.eq ?_ ?_)) <;> (first | rfl | omega | (simp only [hcap]; done) | (simp only [go_sem, hcap]; done) | (simp [hcap]; done) | (simp [hcap]; omega))) | exact Svs.nilI | refine Svs.consI ?_ ?_ | refine Sv.tu ?_ | refine Sv.ag ?_)); done) | rfl)))
      · have e : j = l.length := by omega
        subst e
        have hj' : ¬ ((l.length : Int) < l.length) := by omega
        rw [List.take_length] at i3 hle ⊢
        simp only [go_sem, seval, L27_b0, S27, hj']
        repeat' (first
            | ((first | ((first | refine LNext_if ?_ ?_ | refine ZNext_if ?_ ?_ | refine ZY_if ?_ ?_); (first | omega | exact True.intro | (simp only [go_sem, List.length_map, List.length_cons, List.length_nil, List.length_append, List.length_replicate, List.length_drop, List.length_take, List.length_set, Nat.reduceAdd, Nat.reduceMul, true_and, and_true]; omega) | (refine And.intro ?_ ?_ <;> first | omega | exact True.intro | (simp only [List.length_map, List.length_cons, List.length_nil, List.length_append, List.length_replicate, List.length_drop, List.length_take, List.length_set]; omega)))) | (refine And.intro ?_ ?_; (show okA _ _ _ _ = true); kernel_rfl) | refine MX_ok (l := .seq _ _) ?_ | refine MX_ok (l := .reg _) ?_ | refine MX_ok (l := .cond _ _ _) ?_ | refine MX_ok (l := .block _ _) ?_ | refine MX_ok (l := .ret) ?_ | refine MX_ok (l := .skip) ?_); (try simp only [go_sem, seval]))
            | ((first | refine MCond_split ?_ ?_ | refine NCond_split ?_ ?_ | refine LGuard_split ?_ ?_ | refine ZG_split ?_ ?_) <;> (intro hc; (try simp only [go_sem, seval, hc]); (try simp only [decide_eq_true_eq, decide_eq_false_iff_not, Bool.not_eq_true', Bool.not_eq_false', Bool.not_eq_true, Bool.not_eq_false, beq_iff_eq, bne_iff_ne, ne_eq, beq_eq_false_iff_ne, bne_eq_false_iff_eq, Int.not_lt, Int.not_le, gt_iff_lt, ge_iff_le, Decidable.not_not] at hc)))
            | (refine And.intro ?_ ?_))
        have e : (List.take (List.filter q l).length (seqs R) ++ (List.replicate (l.length - (List.filter q l).length) [AV.v (Value.slice none 0 0)]).flatten ++
            List.drop ((List.filter q l).length + (List.replicate (l.length - (List.filter q l).length) [AV.v (Value.slice none 0 0)]).flatten.length) (seqs R)) = seqs (List.filter q l) ++ List.replicate (l.length - (List.filter q l).length) nilC := by
          have ef : ∀ n, (List.replicate n [AV.v (Value.slice none 0 0)]).flatten = List.replicate n nilC := fun n => by
            induction n with
            | zero => rfl
            | succ n ih => rw [List.replicate_succ, List.flatten_cons, ih]; rfl
          rw [ef, List.length_replicate, List.drop_of_length_le (by rw [seqs_len]; omega), List.append_nil]
          congr 1
          unfold seqs
          rw [← List.map_take, i3]
        rw [e, Nat.sub_zero]
        refine Fin_of ⟨rfl, rfl⟩ ?_; (refine VS_of [.old 0] (by decide) ?_ ?_ (by decide); all_goals (repeat' (first | exact trivial | refine And.intro ?_ ?_ | exact ⟨rfl, rfl⟩ | exact Sg.any | ((first | refine ⟨_, rfl, ?_⟩ | refine ⟨_, .inl ⟨rfl, rfl⟩, ?_⟩ | refine ⟨_, .inr rfl, ?_⟩ | refine Sg.of ?_); (repeat' (first | (exact Svs.cl (Cls.of (clbs_tail _ _))) | ((first | refine Sv.cl (Cl.of ?_) | refine Svs.cl (Cls.of ?_)); simp only [go_sem, Bool.and_self, Bool.and_true]; done) | exact Sv.pt rfl | exact Sv.mp rfl | exact Sv.nil rfl | exact Sv.em rfl | (refine Sv.slE rfl ?_ ?_ <;> (first | rfl | omega | (simp only [go_sem]; done) | (simp [go_sem]; done) | (simp [go_sem]; omega))) | ((first | refine Sv.eq ?_ ?_ | refine Svs.eq ?_ ?_) <;> (first | rfl | omega | (simp only [go_sem]; done) | (simp [go_sem]; done) | (simp [go_sem]; omega))) | exact Sv.nil0 | exact Sv.em0 | exact Sv.sl0 | ((first | refine Sv.slFE (.inl ⟨rfl, rfl⟩) ?_ (Svs.eq ?_ ?_) | refine Sv.slFE (.inr rfl) ?_ (Svs.eq ?_ ?_)) <;> (first | rfl | omega | (simp only [go_sem]; done) | (simp [go_sem]; done) | (simp [go_sem]; omega))) | exact Svs.nilI | refine Svs.consI ?_ ?_ | refine Sv.tu ?_ | refine Sv.ag ?_)); done) | rfl)))
end Go.Proofs.Ytimblogmflmhkaa
