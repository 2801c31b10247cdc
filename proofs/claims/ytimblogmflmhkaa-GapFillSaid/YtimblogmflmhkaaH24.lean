/- Part 24 of the texts that lead to gapFill_holds, gapSpace_holds, gapWider_holds. No condition. -/
import Derived.Test.YtimblogmflmhkaaH23
set_option linter.unusedSimpArgs false
set_option linter.unusedVariables false
set_option linter.unnecessarySimpa false
namespace Go.Proofs.Ytimblogmflmhkaa
open Go Go.Abs
set_option maxRecDepth 100000 in
theorem not28 (b a : ByteArray) (l h : Int) (m : ByteArray) (ws : List ByteArray) (hl : ws.length < 1000000) (hj : (joinT ws ⟨#[]⟩).length < 1000000) :
    APure Try.prog 28 [.im ws.length (strs ws), .ip (gapC b a l h m)] (.v (.bool (!letteredB m ws))) := by
  have c1 := letters29 b a l h m ws hl hj
  refine callp28 ?_
  simp only [go_sem, seval, L28, gapC]
  repeat' (first
      | ((first | ((first | refine LCall_pure (c1) (Cls.of ?_) ?_); simp only [go_sem, Bool.and_self, Bool.and_true]) | ((first | refine LNext_if ?_ ?_ | refine ZNext_if ?_ ?_ | refine ZY_if ?_ ?_); (first | omega | exact True.intro | (simp only [go_sem, List.length_map, List.length_cons, List.length_nil, List.length_append, List.length_replicate, List.length_drop, List.length_take, List.length_set, Nat.reduceAdd, Nat.reduceMul, true_and, and_true]; omega) | (refine And.intro ?_ ?_ <;> first | omega | exact True.intro | (simp only [List.length_map, List.length_cons, List.length_nil, List.length_append, List.length_replicate, List.length_drop, List.length_take, List.length_set]; omega)))) | (refine And.intro ?_ ?_; (show okA _ _ _ _ = true); kernel_rfl) | refine MX_ok (l := .seq _ _) ?_ | refine MX_ok (l := .reg _) ?_ | refine MX_ok (l := .cond _ _ _) ?_ | refine MX_ok (l := .block _ _) ?_ | refine MX_ok (l := .ret) ?_ | refine MX_ok (l := .skip) ?_); (try simp only [go_sem, seval, gapV]))
      | ((first | refine MCond_split ?_ ?_ | refine NCond_split ?_ ?_ | refine LGuard_split ?_ ?_ | refine ZG_split ?_ ?_) <;> (intro hc; (try simp only [go_sem, seval, hc, gapV]); (try simp only [decide_eq_true_eq, decide_eq_false_iff_not, Bool.not_eq_true', Bool.not_eq_false', Bool.not_eq_true, Bool.not_eq_false, beq_iff_eq, bne_iff_ne, ne_eq, beq_eq_false_iff_ne, bne_eq_false_iff_eq, Int.not_lt, Int.not_le, gt_iff_lt, ge_iff_le, Decidable.not_not] at hc)))
      | (refine And.intro ?_ ?_))
  refine Fin_of ⟨rfl, rfl⟩ ?_; (refine VS_of [] (by decide) ?_ ?_ (by decide); all_goals (repeat' (first | exact trivial | refine And.intro ?_ ?_ | exact ⟨rfl, rfl⟩ | exact Sg.any | ((first | refine ⟨_, rfl, ?_⟩ | refine ⟨_, .inl ⟨rfl, rfl⟩, ?_⟩ | refine ⟨_, .inr rfl, ?_⟩ | refine Sg.of ?_); (repeat' (first | ((first | refine Sv.cl (Cl.of ?_) | refine Svs.cl (Cls.of ?_)); simp only [go_sem, Bool.and_self, Bool.and_true]; done) | exact Sv.pt rfl | exact Sv.mp rfl | exact Sv.nil rfl | exact Sv.em rfl | (refine Sv.slE rfl ?_ ?_ <;> (first | rfl | omega | (simp only [go_sem]; done) | (simp [go_sem]; done) | (simp [go_sem]; omega))) | ((first | refine Sv.eq ?_ ?_ | refine Svs.eq ?_ ?_) <;> (first | rfl | omega | (simp only [go_sem]; done) | (simp [go_sem]; done) | (simp [go_sem]; omega))) | exact Sv.nil0 | exact Sv.em0 | exact Sv.sl0 | ((first | refine Sv.slFE (.inl ⟨rfl, rfl⟩) ?_ (Svs.eq ?_ ?_) | refine Sv.slFE (.inr rfl) ?_ (Svs.eq ?_ ?_)) <;> (first | rfl | omega | (simp only [go_sem]; done) | (simp [go_sem]; done) | (simp [go_sem]; omega))) | exact Svs.nilI | refine Svs.consI ?_ ?_ | refine Sv.tu ?_ | refine Sv.ag ?_)); done) | rfl)))
theorem clbs_rep (n : Nat) : clbs (List.replicate n nilC) = true := by
  rw [clbs_eq, List.all_replicate]
  split <;> rfl
def spaceQ (p : Seq → Bool) (l h : Int) (m : ByteArray) (W : Seq) : AV × List AO :=
  if gapE l h m ≠ 0 then errT (gapE l h m) else if listE W ≠ 0 then errT (listE W) else if 2000 < (allS l h W).length then errT 3 else
    (.tu [.sl 0 0 ((allS l h W).filter p).length, .v (.int .i64 0)], [.cells 1 (seqs ((allS l h W).filter p) ++ List.replicate ((allS l h W).length - ((allS l h W).filter p).length) nilC)])
def restS (l h : Int) (W : Seq) (k : Nat) : List Seq := (List.range' k (4 - k)).flatMap fun n => exts l h W n []
theorem restS_zero (l h : Int) (W : Seq) : restS l h W 0 = allS l h W := by simp [restS, allS, List.range']
theorem restS_four (l h : Int) (W : Seq) : restS l h W 4 = [] := by simp [restS]
theorem restS_step (l h : Int) (W : Seq) {k : Nat} (hk : k < 4) : restS l h W k = exts l h W k [] ++ restS l h W (k + 1) := by
  unfold restS
  rw [show 4 - k = (4 - (k + 1)) + 1 by omega, List.range'_succ, List.flatMap_cons]
theorem allS_small {l h : Int} {W : Seq} (w3 : ∀ w ∈ W, w.size ≤ 16) : ∀ s ∈ allS l h W, s.length ≤ 3 ∧ ∀ w ∈ s, w.size ≤ 16 := fun s hs => by
  have key : ∀ n, n ≤ 3 → s ∈ exts l h W n [] → s.length ≤ 3 ∧ ∀ w ∈ s, w.size ≤ 16 := fun n hn hs => by
    obtain ⟨q1, q2, _⟩ := exts_len n [] s hs
    refine ⟨by rw [q1]; simp; omega, fun w hw => ?_⟩
    rcases q2 w hw with q | q
    · cases q
    · exact w3 w q
  simp only [allS, List.mem_append] at hs
  rcases hs with hs | hs | hs | hs
  · exact key 0 (by omega) hs
  · exact key 1 (by omega) hs
  · exact key 2 (by omega) hs
  · exact key 3 (by omega) hs
def S9 (B A : ByteArray) (l h : Int) (m : ByteArray) (W : Seq) (s : Nat) : List AV := [.any, .any, .pt 0 0, .any, .any, .any, .any, .any, .pt 1 0, .any, .any, .any, .any, .any, .any, .any, .any, .any, .any, .any, .any, .any, .any, .any, .any, .v (.int .i64 s), .any, .any, .any, .any, .any, .any, .any, .any, .any, .any, .any, .any, .any]
set_option maxRecDepth 100000 in
set_option maxHeartbeats 1000000 in
theorem space9 (B A : ByteArray) (l h : Int) (m : ByteArray) (W : Seq) :
    AFn Try.prog 9 0 [gapV B A l h m, .ag [.im W.length (strs W)]] [] (fun v Ho => v = (spaceQ (letteredB m) l h m W).1 ∧ Ho = (spaceQ (letteredB m) l h m W).2) := by
  have c1 := valid24 B A l h m
  have c2 := valid25 W
  refine callm9 ?_
  simp only [go_sem, seval, L9, gapV]
  repeat' (first
      | ((first | ((first | refine LCall_pure (c1) (Cls.of ?_) ?_ | refine LCall_pure (c2) (Cls.of ?_) ?_); simp only [go_sem, Bool.and_self, Bool.and_true]) | ((first | refine LNext_if ?_ ?_ | refine ZNext_if ?_ ?_ | refine ZY_if ?_ ?_); (first | omega | exact True.intro | (simp only [go_sem, List.length_map, List.length_cons, List.length_nil, List.length_append, List.length_replicate, List.length_drop, List.length_take, List.length_set, Nat.reduceAdd, Nat.reduceMul, true_and, and_true]; omega) | (refine And.intro ?_ ?_ <;> first | omega | exact True.intro | (simp only [List.length_map, List.length_cons, List.length_nil, List.length_append, List.length_replicate, List.length_drop, List.length_take, List.length_set]; omega)))) | (refine And.intro ?_ ?_; (show okA _ _ _ _ = true); kernel_rfl) | refine MX_ok (l := .seq _ _) ?_ | refine MX_ok (l := .reg _) ?_ | refine MX_ok (l := .cond _ _ _) ?_ | refine MX_ok (l := .block _ _) ?_ | refine MX_ok (l := .ret) ?_ | refine MX_ok (l := .skip) ?_); (try simp only [go_sem, seval]))
      | ((first | refine MCond_split ?_ ?_ | refine NCond_split ?_ ?_ | refine LGuard_split ?_ ?_ | refine ZG_split ?_ ?_) <;> (intro hc; (try simp only [go_sem, seval, hc]); (try simp only [decide_eq_true_eq, decide_eq_false_iff_not, Bool.not_eq_true', Bool.not_eq_false', Bool.not_eq_true, Bool.not_eq_false, beq_iff_eq, bne_iff_ne, ne_eq, beq_eq_false_iff_ne, bne_eq_false_iff_eq, Int.not_lt, Int.not_le, gt_iff_lt, ge_iff_le, Decidable.not_not] at hc)))
      | (refine And.intro ?_ ?_))
  · rw [show spaceQ (letteredB m) l h m W = _ from if_pos hc]
    refine Fin_of ⟨rfl, rfl⟩ ?_; (refine VS_of [] (by decide) ?_ ?_ (by decide); all_goals (repeat' (first | exact trivial | refine And.intro ?_ ?_ | exact ⟨rfl, rfl⟩ | exact Sg.any | ((first | refine ⟨_, rfl, ?_⟩ | refine ⟨_, .inl ⟨rfl, rfl⟩, ?_⟩ | refine ⟨_, .inr rfl, ?_⟩ | refine Sg.of ?_); (repeat' (first | ((first | refine Sv.cl (Cl.of ?_) | refine Svs.cl (Cls.of ?_)); simp only [go_sem, Bool.and_self, Bool.and_true]; done) | exact Sv.pt rfl | exact Sv.mp rfl | exact Sv.nil rfl | exact Sv.em rfl | (refine Sv.slE rfl ?_ ?_ <;> (first | rfl | omega | (simp only [go_sem]; done) | (simp [go_sem]; done) | (simp [go_sem]; omega))) | ((first | refine Sv.eq ?_ ?_ | refine Svs.eq ?_ ?_) <;> (first | rfl | omega | (simp only [go_sem]; done) | (simp [go_sem]; done) | (simp [go_sem]; omega))) | exact Sv.nil0 | exact Sv.em0 | exact Sv.sl0 | ((first | refine Sv.slFE (.inl ⟨rfl, rfl⟩) ?_ (Svs.eq ?_ ?_) | refine Sv.slFE (.inr rfl) ?_ (Svs.eq ?_ ?_)) <;> (first | rfl | omega | (simp only [go_sem]; done) | (simp [go_sem]; done) | (simp [go_sem]; omega))) | exact Svs.nilI | refine Svs.consI ?_ ?_ | refine Sv.tu ?_ | refine Sv.ag ?_)); done) | rfl)))
  · rename_i hg
    rw [show spaceQ (letteredB m) l h m W = _ from (if_neg (fun hk => hk hg)).trans (if_pos hc)]
    refine Fin_of ⟨rfl, rfl⟩ ?_; (refine VS_of [] (by decide) ?_ ?_ (by decide); all_goals (repeat' (first | exact trivial | refine And.intro ?_ ?_ | exact ⟨rfl, rfl⟩ | exact Sg.any | ((first | refine ⟨_, rfl, ?_⟩ | refine ⟨_, .inl ⟨rfl, rfl⟩, ?_⟩ | refine ⟨_, .inr rfl, ?_⟩ | refine Sg.of ?_); (repeat' (first | ((first | refine Sv.cl (Cl.of ?_) | refine Svs.cl (Cls.of ?_)); simp only [go_sem, Bool.and_self, Bool.and_true]; done) | exact Sv.pt rfl | exact Sv.mp rfl | exact Sv.nil rfl | exact Sv.em rfl | (refine Sv.slE rfl ?_ ?_ <;> (first | rfl | omega | (simp only [go_sem]; done) | (simp [go_sem]; done) | (simp [go_sem]; omega))) | ((first | refine Sv.eq ?_ ?_ | refine Svs.eq ?_ ?_) <;> (first | rfl | omega | (simp only [go_sem]; done) | (simp [go_sem]; done) | (simp [go_sem]; omega))) | exact Sv.nil0 | exact Sv.em0 | exact Sv.sl0 | ((first | refine Sv.slFE (.inl ⟨rfl, rfl⟩) ?_ (Svs.eq ?_ ?_) | refine Sv.slFE (.inr rfl) ?_ (Svs.eq ?_ ?_)) <;> (first | rfl | omega | (simp only [go_sem]; done) | (simp [go_sem]; done) | (simp [go_sem]; omega))) | exact Svs.nilI | refine Svs.consI ?_ ?_ | refine Sv.tu ?_ | refine Sv.ag ?_)); done) | rfl)))
  · rename_i hg
    obtain ⟨g1, g2, g3⟩ := gapE_zero hg
    obtain ⟨w1, w2⟩ := listE_zero hc
    have w3 : ∀ w ∈ W, w.size ≤ 16 := fun w hw => wordE_zero (w2 w hw)
    have et : spaceQ (letteredB m) l h m W = _ := (if_neg (fun hk => hk hg)).trans (if_neg (fun hk => hk hc))
    have hx3 : ∀ s ∈ allS l h W, s.length ≤ 3 ∧ ∀ w ∈ s, w.size ≤ 16 := allS_small w3
    refine MW_loop_st (fun s => S9 B A l h m W s.1) (fun s => [.cells 1 (gapC B A l h m), .cells 1 (spC B A l h m W (.sl 2 0 s.2.length)), .cells 1 (seqs s.2)]) (fun s => s.1 ≤ 4 ∧ s.2.length ≤ 2000 ∧ s.2 ++ restS l h W s.1 = allS l h W) (fun s => 4 - s.1) (0, []) ?_ ⟨by simp, by simp, by rw [restS_zero]; rfl⟩ ?_
    · unfold gapC spC S9
      (refine VS_of [.old 0, .old 2, .new 1] (by decide) ?_ ?_ (by decide); all_goals (repeat' (first | exact trivial | refine And.intro ?_ ?_ | exact ⟨rfl, rfl⟩ | exact Sg.any | ((first | refine ⟨_, rfl, ?_⟩ | refine ⟨_, .inl ⟨rfl, rfl⟩, ?_⟩ | refine ⟨_, .inr rfl, ?_⟩ | refine Sg.of ?_); (repeat' (first | ((first | refine Sv.cl (Cl.of ?_) | refine Svs.cl (Cls.of ?_)); simp only [go_sem, Bool.and_self, Bool.and_true]; done) | exact Sv.pt rfl | exact Sv.mp rfl | exact Sv.nil rfl | exact Sv.em rfl | (refine Sv.slE rfl ?_ ?_ <;> (first | rfl | omega | (simp only [go_sem]; done) | (simp [go_sem]; done) | (simp [go_sem]; omega))) | ((first | refine Sv.eq ?_ ?_ | refine Svs.eq ?_ ?_) <;> (first | rfl | omega | (simp only [go_sem]; done) | (simp [go_sem]; done) | (simp [go_sem]; omega))) | exact Sv.nil0 | exact Sv.em0 | exact Sv.sl0 | ((first | refine Sv.slFE (.inl ⟨rfl, rfl⟩) ?_ (Svs.eq ?_ ?_) | refine Sv.slFE (.inr rfl) ?_ (Svs.eq ?_ ?_)) <;> (first | rfl | omega | (simp only [go_sem]; done) | (simp [go_sem]; done) | (simp [go_sem]; omega))) | exact Svs.nilI | refine Svs.consI ?_ ?_ | refine Sv.tu ?_ | refine Sv.ag ?_)); done) | rfl)))
    · rintro ⟨i, o⟩ ⟨i1, i2, i3⟩
      dsimp only at i1 i2 i3 ⊢
      by_cases hi : i = 4
      · subst hi
        have h4 : ¬ (((4 : Nat) : Int) < 4) := by decide
        rw [restS_four, List.append_nil] at i3
        subst i3
        have et2 := et.trans (if_neg (by omega))
        have cd := deleteFunc27 28 [.ip (gapC B A l h m)] (by unfold gapC; simp only [go_sem, Bool.and_self, Bool.and_true]) (fun ws => !letteredB m ws) (allS l h W) (fun c hc => by
          obtain ⟨q1, q2⟩ := hx3 c hc
          have q3 := joinT_len ⟨#[]⟩ c fun w hw => Nat.le_trans (q2 w hw) (by omega)
          have q4 : ByteArray.size ⟨#[]⟩ = 0 := rfl
          exact not28 B A l h m c (by omega) (by rw [q4] at q3; omega)) (by omega)
        simp only [Bool.not_not] at cd
        rw [et2]
        simp only [go_sem, seval, L9_b0, S9, spC, h4]
        repeat' (first
            | ((first | ((first | refine LNext_if ?_ ?_ | refine ZNext_if ?_ ?_ | refine ZY_if ?_ ?_); (first | omega | exact True.intro | (simp only [go_sem, List.length_map, List.length_cons, List.length_nil, List.length_append, List.length_replicate, List.length_drop, List.length_take, List.length_set, Nat.reduceAdd, Nat.reduceMul, true_and, and_true]; omega) | (refine And.intro ?_ ?_ <;> first | omega | exact True.intro | (simp only [List.length_map, List.length_cons, List.length_nil, List.length_append, List.length_replicate, List.length_drop, List.length_take, List.length_set]; omega)))) | (refine And.intro ?_ ?_; (show okA _ _ _ _ = true); kernel_rfl) | refine MX_ok (l := .seq _ _) ?_ | refine MX_ok (l := .reg _) ?_ | refine MX_ok (l := .cond _ _ _) ?_ | refine MX_ok (l := .block _ _) ?_ | refine MX_ok (l := .ret) ?_ | refine MX_ok (l := .skip) ?_); (try simp only [go_sem, seval, h4]))
            | ((first | refine MCond_split ?_ ?_ | refine NCond_split ?_ ?_ | refine LGuard_split ?_ ?_ | refine ZG_split ?_ ?_) <;> (intro hc; (try simp only [go_sem, seval, hc, h4]); (try simp only [decide_eq_true_eq, decide_eq_false_iff_not, Bool.not_eq_true', Bool.not_eq_false', Bool.not_eq_true, Bool.not_eq_false, beq_iff_eq, bne_iff_ne, ne_eq, beq_eq_false_iff_ne, bne_eq_false_iff_eq, Int.not_lt, Int.not_le, gt_iff_lt, ge_iff_le, Decidable.not_not] at hc)))
            | (refine And.intro ?_ ?_))
        refine LCall_ice 0 rfl ?_
        refine LCall_fn cd [2] (by decide) (by simp) (by decide) ?_ ?_ ?_
        · refine ⟨⟨_, rfl, Svs.cl (Cls.of ?_)⟩, trivial⟩
          simp only [go_sem, Bool.and_self, Bool.and_true]
        · refine Svs.consI (Sv.slE rfl rfl rfl) (Svs.consI (Sv.fn Svs.nilI (Svs.consI (Sv.ptF (.inr rfl) (by simp [gapC]) (Svs.cl (Cls.of ?_))) Svs.nilI)) Svs.nilI)
          unfold gapC
          simp only [go_sem, Bool.and_self, Bool.and_true]
        · rintro _ _ ⟨rfl, rfl⟩
          simp only [go_sem, seval, tau, upd, List.set_cons_zero, List.set_cons_succ, List.map_cons, List.map_nil, List.drop_zero, List.drop_succ_cons, List.drop_nil, Nat.not_lt_zero, Nat.sub_zero, List.cons_append, List.nil_append, clbs_rep]
          repeat' (first
              | ((first | ((first | refine LNext_if ?_ ?_ | refine ZNext_if ?_ ?_ | refine ZY_if ?_ ?_); (first | omega | exact True.intro | (simp only [go_sem, List.length_map, List.length_cons, List.length_nil, List.length_append, List.length_replicate, List.length_drop, List.length_take, List.length_set, Nat.reduceAdd, Nat.reduceMul, true_and, and_true]; omega) | (refine And.intro ?_ ?_ <;> first | omega | exact True.intro | (simp only [List.length_map, List.length_cons, List.length_nil, List.length_append, List.length_replicate, List.length_drop, List.length_take, List.length_set]; omega)))) | (refine And.intro ?_ ?_; (show okA _ _ _ _ = true); kernel_rfl) | refine MX_ok (l := .seq _ _) ?_ | refine MX_ok (l := .reg _) ?_ | refine MX_ok (l := .cond _ _ _) ?_ | refine MX_ok (l := .block _ _) ?_ | refine MX_ok (l := .ret) ?_ | refine MX_ok (l := .skip) ?_); (try simp only [go_sem, seval]))
              | ((first | refine MCond_split ?_ ?_ | refine NCond_split ?_ ?_ | refine LGuard_split ?_ ?_ | refine ZG_split ?_ ?_) <;> (intro hc; (try simp only [go_sem, seval, hc]); (try simp only [decide_eq_true_eq, decide_eq_false_iff_not, Bool.not_eq_true', Bool.not_eq_false', Bool.not_eq_true, Bool.not_eq_false, beq_iff_eq, bne_iff_ne, ne_eq, beq_eq_false_iff_ne, bne_eq_false_iff_eq, Int.not_lt, Int.not_le, gt_iff_lt, ge_iff_le, Decidable.not_not] at hc)))
              | (refine And.intro ?_ ?_))
          refine Fin_of ⟨rfl, rfl⟩ ?_; (refine VS_of [.old 3] (by decide) ?_ ?_ (by decide); all_goals (repeat' (first | exact trivial | refine And.intro ?_ ?_ | exact ⟨rfl, rfl⟩ | exact Sg.any | ((first | refine ⟨_, rfl, ?_⟩ | refine ⟨_, .inl ⟨rfl, rfl⟩, ?_⟩ | refine ⟨_, .inr rfl, ?_⟩ | refine Sg.of ?_); (repeat' (first | (exact Svs.cl (Cls.of (clbs_tail _ _))) | ((first | refine Sv.cl (Cl.of ?_) | refine Svs.cl (Cls.of ?_)); simp only [go_sem, Bool.and_self, Bool.and_true]; done) | exact Sv.pt rfl | exact Sv.mp rfl | exact Sv.nil rfl | exact Sv.em rfl | (refine Sv.slE rfl ?_ ?_ <;> (first | rfl | omega | (simp only [go_sem]; done) | (simp [go_sem]; done) | (simp [go_sem]; omega))) | ((first | refine Sv.eq ?_ ?_ | refine Svs.eq ?_ ?_) <;> (first | rfl | omega | (simp only [go_sem]; done) | (simp [go_sem]; done) | (simp [go_sem]; omega))) | exact Sv.nil0 | exact Sv.em0 | exact Sv.sl0 | ((first | refine Sv.slFE (.inl ⟨rfl, rfl⟩) ?_ (Svs.eq ?_ ?_) | refine Sv.slFE (.inr rfl) ?_ (Svs.eq ?_ ?_)) <;> (first | rfl | omega | (simp only [go_sem]; done) | (simp [go_sem]; done) | (simp [go_sem]; omega))) | exact Svs.nilI | refine Svs.consI ?_ ?_ | refine Sv.tu ?_ | refine Sv.ag ?_)); done) | rfl)))
      · have hi' : (i : Int) < 4 := by omega
        have wi : IntKind.wrap .i64 ((i : Int) + 1) = ((i + 1 : Nat) : Int) := by rw [wrapI (by omega) (by omega)]; omega
        have cr := add26 B A l h m W w1 w3 i [] o (by simp; omega) (by simp) i2
        obtain ⟨a1, a2, a3⟩ := addF_cap l h W i [] o i2
        rw [restS_step l h W (by omega)] at i3
        simp only [go_sem, seval, L9_b0, S9, gapC, hi']
        repeat' (first
            | ((first | ((first | refine LNext_if ?_ ?_ | refine ZNext_if ?_ ?_ | refine ZY_if ?_ ?_); (first | omega | exact True.intro | (simp only [go_sem, List.length_map, List.length_cons, List.length_nil, List.length_append, List.length_replicate, List.length_drop, List.length_take, List.length_set, Nat.reduceAdd, Nat.reduceMul, true_and, and_true]; omega) | (refine And.intro ?_ ?_ <;> first | omega | exact True.intro | (simp only [List.length_map, List.length_cons, List.length_nil, List.length_append, List.length_replicate, List.length_drop, List.length_take, List.length_set]; omega)))) | (refine And.intro ?_ ?_; (show okA _ _ _ _ = true); kernel_rfl) | refine MX_ok (l := .seq _ _) ?_ | refine MX_ok (l := .reg _) ?_ | refine MX_ok (l := .cond _ _ _) ?_ | refine MX_ok (l := .block _ _) ?_ | refine MX_ok (l := .ret) ?_ | refine MX_ok (l := .skip) ?_); (try simp only [go_sem, seval, hi', wi]))
            | ((first | refine MCond_split ?_ ?_ | refine NCond_split ?_ ?_ | refine LGuard_split ?_ ?_ | refine ZG_split ?_ ?_) <;> (intro hc; (try simp only [go_sem, seval, hc, hi', wi]); (try simp only [decide_eq_true_eq, decide_eq_false_iff_not, Bool.not_eq_true', Bool.not_eq_false', Bool.not_eq_true, Bool.not_eq_false, beq_iff_eq, bne_iff_ne, ne_eq, beq_eq_false_iff_ne, bne_eq_false_iff_eq, Int.not_lt, Int.not_le, gt_iff_lt, ge_iff_le, Decidable.not_not] at hc)))
            | (refine And.intro ?_ ?_))
        (refine LCall_fn (cr) [1, 2] (by decide) (by simp) (by decide) ?_ ?_ ?_; (focus ((repeat' (first | exact trivial | refine And.intro ?_ ?_ | exact ⟨rfl, rfl⟩ | ((first | refine ⟨_, rfl, ?_⟩ | refine ⟨_, .inl ⟨rfl, rfl⟩, ?_⟩ | refine ⟨_, .inr rfl, ?_⟩); (repeat' (first | ((first | refine Sv.cl (Cl.of ?_) | refine Svs.cl (Cls.of ?_)); simp only [go_sem, Bool.and_self, Bool.and_true]; done) | exact Sv.pt rfl | exact Sv.mp rfl | exact Sv.nil rfl | exact Sv.em rfl | (refine Sv.slE rfl ?_ ?_ <;> (first | rfl | omega | (simp only [gapV, spC]; done) | (simp only [go_sem, gapV, spC]; done) | (simp [gapV, spC]; done) | (simp [gapV, spC]; omega))) | ((first | refine Sv.eq ?_ ?_ | refine Svs.eq ?_ ?_) <;> (first | rfl | omega | (simp only [gapV, spC]; done) | (simp only [go_sem, gapV, spC]; done) | (simp [gapV, spC]; done) | (simp [gapV, spC]; omega))) | exact Sv.nil0 | exact Sv.em0 | exact Sv.sl0 | ((first | refine Sv.slFE (.inl ⟨rfl, rfl⟩) ?_ (Svs.eq ?_ ?_) | refine Sv.slFE (.inr rfl) ?_ (Svs.eq ?_ ?_)) <;> (first | rfl | omega | (simp only [gapV, spC]; done) | (simp only [go_sem, gapV, spC]; done) | (simp [gapV, spC]; done) | (simp [gapV, spC]; omega))) | exact Svs.nilI | refine Svs.consI ?_ ?_ | refine Sv.tu ?_ | refine Sv.ag ?_)); done) | rfl)); done)); (focus ((repeat' (first | ((first | refine Sv.cl (Cl.of ?_) | refine Svs.cl (Cls.of ?_)); simp only [go_sem, Bool.and_self, Bool.and_true]; done) | exact Sv.pt rfl | exact Sv.mp rfl | exact Sv.nil rfl | exact Sv.em rfl | (refine Sv.slE rfl ?_ ?_ <;> (first | rfl | omega | (simp only [gapV, spC]; done) | (simp only [go_sem, gapV, spC]; done) | (simp [gapV, spC]; done) | (simp [gapV, spC]; omega))) | ((first | refine Sv.eq ?_ ?_ | refine Svs.eq ?_ ?_) <;> (first | rfl | omega | (simp only [gapV, spC]; done) | (simp only [go_sem, gapV, spC]; done) | (simp [gapV, spC]; done) | (simp [gapV, spC]; omega))) | exact Sv.nil0 | exact Sv.em0 | exact Sv.sl0 | ((first | refine Sv.slFE (.inl ⟨rfl, rfl⟩) ?_ (Svs.eq ?_ ?_) | refine Sv.slFE (.inr rfl) ?_ (Svs.eq ?_ ?_)) <;> (first | rfl | omega | (simp only [gapV, spC]; done) | (simp only [go_sem, gapV, spC]; done) | (simp [gapV, spC]; done) | (simp [gapV, spC]; omega))) | exact Svs.nilI | refine Svs.consI ?_ ?_ | refine Sv.tu ?_ | refine Sv.ag ?_)); done)); (rintro _ _ ⟨rfl, rfl⟩); (try simp only [go_sem, seval, tau, upd, List.set_cons_zero, List.set_cons_succ, List.map_cons, List.map_nil, List.drop_zero, List.drop_succ_cons, List.drop_nil, Nat.not_lt_zero, Nat.sub_zero, List.cons_append, List.nil_append, gapV, spC]))
        generalize addF l h W i [] o = r at a1 a2 a3
        obtain ⟨o2, ok⟩ := r
        dsimp only at a1 a2 a3 ⊢
        cases ok
        · have hbig : 2000 < (allS l h W).length := by
            have a2' := of_decide_eq_false a2.symm
            rw [← i3, List.length_append, List.length_append]
            rcases a1 with ⟨k1, k2⟩ | ⟨k1, k2⟩
            · rw [← k2] at k1; omega
            · rw [List.length_append] at k1; omega
          rw [et.trans (if_pos hbig)]
          simp only [go_sem, seval]
          repeat' (first
              | ((first | ((first | refine LNext_if ?_ ?_ | refine ZNext_if ?_ ?_ | refine ZY_if ?_ ?_); (first | omega | exact True.intro | (simp only [go_sem, List.length_map, List.length_cons, List.length_nil, List.length_append, List.length_replicate, List.length_drop, List.length_take, List.length_set, Nat.reduceAdd, Nat.reduceMul, true_and, and_true]; omega) | (refine And.intro ?_ ?_ <;> first | omega | exact True.intro | (simp only [List.length_map, List.length_cons, List.length_nil, List.length_append, List.length_replicate, List.length_drop, List.length_take, List.length_set]; omega)))) | (refine And.intro ?_ ?_; (show okA _ _ _ _ = true); kernel_rfl) | refine MX_ok (l := .seq _ _) ?_ | refine MX_ok (l := .reg _) ?_ | refine MX_ok (l := .cond _ _ _) ?_ | refine MX_ok (l := .block _ _) ?_ | refine MX_ok (l := .ret) ?_ | refine MX_ok (l := .skip) ?_); (try simp only [go_sem, seval]))
              | ((first | refine MCond_split ?_ ?_ | refine NCond_split ?_ ?_ | refine LGuard_split ?_ ?_ | refine ZG_split ?_ ?_) <;> (intro hc; (try simp only [go_sem, seval, hc]); (try simp only [decide_eq_true_eq, decide_eq_false_iff_not, Bool.not_eq_true', Bool.not_eq_false', Bool.not_eq_true, Bool.not_eq_false, beq_iff_eq, bne_iff_ne, ne_eq, beq_eq_false_iff_ne, bne_eq_false_iff_eq, Int.not_lt, Int.not_le, gt_iff_lt, ge_iff_le, Decidable.not_not] at hc)))
              | (refine And.intro ?_ ?_))
          refine Fin_of ⟨rfl, rfl⟩ ?_; (refine VS_of [] (by decide) ?_ ?_ (by decide); all_goals (repeat' (first | exact trivial | refine And.intro ?_ ?_ | exact ⟨rfl, rfl⟩ | exact Sg.any | ((first | refine ⟨_, rfl, ?_⟩ | refine ⟨_, .inl ⟨rfl, rfl⟩, ?_⟩ | refine ⟨_, .inr rfl, ?_⟩ | refine Sg.of ?_); (repeat' (first | ((first | refine Sv.cl (Cl.of ?_) | refine Svs.cl (Cls.of ?_)); simp only [go_sem, Bool.and_self, Bool.and_true]; done) | exact Sv.pt rfl | exact Sv.mp rfl | exact Sv.nil rfl | exact Sv.em rfl | (refine Sv.slE rfl ?_ ?_ <;> (first | rfl | omega | (simp only [go_sem]; done) | (simp [go_sem]; done) | (simp [go_sem]; omega))) | ((first | refine Sv.eq ?_ ?_ | refine Svs.eq ?_ ?_) <;> (first | rfl | omega | (simp only [go_sem]; done) | (simp [go_sem]; done) | (simp [go_sem]; omega))) | exact Sv.nil0 | exact Sv.em0 | exact Sv.sl0 | ((first | refine Sv.slFE (.inl ⟨rfl, rfl⟩) ?_ (Svs.eq ?_ ?_) | refine Sv.slFE (.inr rfl) ?_ (Svs.eq ?_ ?_)) <;> (first | rfl | omega | (simp only [go_sem]; done) | (simp [go_sem]; done) | (simp [go_sem]; omega))) | exact Svs.nilI | refine Svs.consI ?_ ?_ | refine Sv.tu ?_ | refine Sv.ag ?_)); done) | rfl)))
        · have a2' := of_decide_eq_true a2.symm
          simp only [go_sem, seval, wi]
          repeat' (first
              | ((first | ((first | refine LNext_if ?_ ?_ | refine ZNext_if ?_ ?_ | refine ZY_if ?_ ?_); (first | omega | exact True.intro | (simp only [go_sem, List.length_map, List.length_cons, List.length_nil, List.length_append, List.length_replicate, List.length_drop, List.length_take, List.length_set, Nat.reduceAdd, Nat.reduceMul, true_and, and_true]; omega) | (refine And.intro ?_ ?_ <;> first | omega | exact True.intro | (simp only [List.length_map, List.length_cons, List.length_nil, List.length_append, List.length_replicate, List.length_drop, List.length_take, List.length_set]; omega)))) | (refine And.intro ?_ ?_; (show okA _ _ _ _ = true); kernel_rfl) | refine MX_ok (l := .seq _ _) ?_ | refine MX_ok (l := .reg _) ?_ | refine MX_ok (l := .cond _ _ _) ?_ | refine MX_ok (l := .block _ _) ?_ | refine MX_ok (l := .ret) ?_ | refine MX_ok (l := .skip) ?_); (try simp only [go_sem, seval, wi]))
              | ((first | refine MCond_split ?_ ?_ | refine NCond_split ?_ ?_ | refine LGuard_split ?_ ?_ | refine ZG_split ?_ ?_) <;> (intro hc; (try simp only [go_sem, seval, hc, wi]); (try simp only [decide_eq_true_eq, decide_eq_false_iff_not, Bool.not_eq_true', Bool.not_eq_false', Bool.not_eq_true, Bool.not_eq_false, beq_iff_eq, bne_iff_ne, ne_eq, beq_eq_false_iff_ne, bne_eq_false_iff_eq, Int.not_lt, Int.not_le, gt_iff_lt, ge_iff_le, Decidable.not_not] at hc)))
              | (refine And.intro ?_ ?_))
          refine ⟨(i + 1, o2), by dsimp only; omega, ⟨by dsimp only; omega, a2', ?_⟩, ?_⟩
          · rcases a1 with ⟨k1, rfl⟩ | ⟨k1, k2⟩
            · dsimp only
              rw [List.append_assoc]; exact i3
            · omega
          · dsimp only
            (refine VS_of [.old 0, .old 1, .old 3] (by decide) ?_ ?_ (by decide); all_goals (repeat' (first | exact trivial | refine And.intro ?_ ?_ | exact ⟨rfl, rfl⟩ | exact Sg.any | ((first | refine ⟨_, rfl, ?_⟩ | refine ⟨_, .inl ⟨rfl, rfl⟩, ?_⟩ | refine ⟨_, .inr rfl, ?_⟩ | refine Sg.of ?_); (repeat' (first | ((first | refine Sv.cl (Cl.of ?_) | refine Svs.cl (Cls.of ?_)); simp only [go_sem, Bool.and_self, Bool.and_true]; done) | exact Sv.pt rfl | exact Sv.mp rfl | exact Sv.nil rfl | exact Sv.em rfl | (refine Sv.slE rfl ?_ ?_ <;> (first | rfl | omega | (simp only [go_sem]; done) | (simp [go_sem]; done) | (simp [go_sem]; omega))) | ((first | refine Sv.eq ?_ ?_ | refine Svs.eq ?_ ?_) <;> (first | rfl | omega | (simp only [go_sem]; done) | (simp [go_sem]; done) | (simp [go_sem]; omega))) | exact Sv.nil0 | exact Sv.em0 | exact Sv.sl0 | ((first | refine Sv.slFE (.inl ⟨rfl, rfl⟩) ?_ (Svs.eq ?_ ?_) | refine Sv.slFE (.inr rfl) ?_ (Svs.eq ?_ ?_)) <;> (first | rfl | omega | (simp only [go_sem]; done) | (simp [go_sem]; done) | (simp [go_sem]; omega))) | exact Svs.nilI | refine Svs.consI ?_ ?_ | refine Sv.tu ?_ | refine Sv.ag ?_)); done) | rfl)))
end Go.Proofs.Ytimblogmflmhkaa
