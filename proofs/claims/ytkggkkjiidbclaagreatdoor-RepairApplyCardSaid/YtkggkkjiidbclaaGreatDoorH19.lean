/- Part 19 of the texts that lead to repairApplyCard_holds. No condition. -/
import Derived.Test.YtkggkkjiidbclaaGreatDoorH18
set_option linter.unusedSimpArgs false
set_option linter.unusedVariables false
set_option linter.unnecessarySimpa false
namespace Go.Proofs.YtkggkkjiidbclaaGreatDoor
open Go Go.Abs Go.Rep
theorem ok_some {L : List Int} {R : Option (List Int)} {n : Nat} (h : errP L R n = 0) : ∃ r, R = some r ∧ outP L R n = r := by
  unfold errP at h
  unfold outP
  split at h
  · cases h
  · rename_i h1
    split at h
    · cases h
    · rename_i h2
      rw [if_neg h1, if_neg h2]
      cases R with
      | none => cases h
      | some r => exact ⟨r, rfl, rfl⟩
theorem same_run (L : List Int) (l : List Ch) : runP xr L l ([], 0, false) = runR xr L l none ([], 0) := run_eq xr L l none [] 0 false ⟨rfl, rfl⟩ (Nat.zero_le _)
theorem cnt_bound {l : List Ch} {n : Nat} (hl : l.length ≤ 40) (hn : n ≤ 80) (i : Nat) : -1000 ≤ (l.take i).foldl cntC (n : Int) ∧ (l.take i).foldl cntC (n : Int) ≤ 1000 := by
  have := cnt_ge (l.take i) n
  have h : (l.take i).length ≤ 40 := by simp; omega
  omega
theorem cnt_step {l : List Ch} {i : Nat} {c : Ch} (h : l[i]? = some c) (n : Int) : (l.take (i + 1)).foldl cntC n = cntC ((l.take i).foldl cntC n) c := by
  obtain ⟨hi, e⟩ := List.getElem?_eq_some_iff.1 h
  rw [List.take_succ_eq_append_getElem hi, List.foldl_append, e]; rfl
def S3 (r : List Int) (l : List Ch) (s : Nat × Int) : List AV := [.any, .any, .any, .any, .any, .im r.length (ints r), .any, .any, .any, .v (.int .i64 s.2), .any, .any, .any, .any, .any, .any, .any, .any, .any, .any, .any, .any, .any, .any, .any, .any, .any, .any, .any, .any, .any, .any, .any, .any, .any, .any, .any, .any, .any, .any, .any, .any, .any, .any, .any, .any, .any, .any, .any, .any, .any, .any, .any, .any, .any, .any, .any, .any, .any, .any, .any, .any, .im l.length (chs l), .v (.int .i64 l.length), .v (.int .i64 s.1), .any, .any, .any, .any, .any, .any, .any, .any, .any, .any, .any, .any, .any, .any, .any, .any, .any, .any]
set_option maxRecDepth 100000 in
set_option maxHeartbeats 2000000 in
theorem law3 (c4 : APure Tryz.prog 4 [] (.v (.bool true))) (L : List Int) (l : List Ch) : APure Tryz.prog 3 [.im L.length (ints L), .im l.length (chs l)] (.v (.bool true)) := by
  refine callp3 ?_
  by_cases h1 : (80 : Int) < L.length
  · simp only [go_sem, seval, L3, h1]
    repeat' (first
        | ((first | ((first | refine LCall_pure (c4) (Cls.of ?_) ?_); simp only [go_sem, Bool.and_self, Bool.and_true]) | ((first | refine LNext_if ?_ ?_ | refine ZNext_if ?_ ?_ | refine ZY_if ?_ ?_); (first | omega | exact True.intro | (simp only [go_sem, List.length_map, List.length_cons, List.length_nil, List.length_append, List.length_replicate, List.length_drop, List.length_take, List.length_set, Nat.reduceAdd, Nat.reduceMul, true_and, and_true]; omega) | (refine And.intro ?_ ?_ <;> first | omega | exact True.intro | (simp only [List.length_map, List.length_cons, List.length_nil, List.length_append, List.length_replicate, List.length_drop, List.length_take, List.length_set]; omega)))) | (refine And.intro ?_ ?_; (show okA _ _ _ _ = true); kernel_rfl) | refine MX_ok (l := .seq _ _) ?_ | refine MX_ok (l := .reg _) ?_ | refine MX_ok (l := .cond _ _ _) ?_ | refine MX_ok (l := .block _ _) ?_ | refine MX_ok (l := .ret) ?_ | refine MX_ok (l := .skip) ?_); (try simp only [go_sem, seval, h1]))
        | ((first | refine MCond_split ?_ ?_ | refine NCond_split ?_ ?_ | refine LGuard_split ?_ ?_ | refine ZG_split ?_ ?_) <;> (intro hc; (try simp only [go_sem, seval, hc, h1]); (try simp only [decide_eq_true_eq, decide_eq_false_iff_not, Bool.not_eq_true', Bool.not_eq_false', Bool.not_eq_true, Bool.not_eq_false, beq_iff_eq, bne_iff_ne, ne_eq, beq_eq_false_iff_ne, bne_eq_false_iff_eq, Int.not_lt, Int.not_le, gt_iff_lt, ge_iff_le, Decidable.not_not] at hc)))
        | (refine And.intro ?_ ?_))
    all_goals refine Fin_of ⟨rfl, rfl⟩ ?_; (refine VS_of [] (by decide) ?_ ?_ (by decide); all_goals (repeat' (first | exact trivial | refine And.intro ?_ ?_ | exact ⟨rfl, rfl⟩ | exact Sg.any | ((first | refine ⟨_, rfl, ?_⟩ | refine ⟨_, .inl ⟨rfl, rfl⟩, ?_⟩ | refine ⟨_, .inr rfl, ?_⟩ | refine Sg.of ?_); (repeat' (first | ((first | refine Sv.cl (Cl.of ?_) | refine Svs.cl (Cls.of ?_)); simp only [go_sem, Bool.and_self, Bool.and_true]; done) | exact Sv.pt rfl | exact Sv.mp rfl | exact Sv.nil rfl | exact Sv.em rfl | (refine Sv.slE rfl ?_ ?_ <;> (first | rfl | omega | (simp only [go_sem]; done) | (simp [go_sem]; done) | (simp [go_sem]; omega))) | ((first | refine Sv.eq ?_ ?_ | refine Svs.eq ?_ ?_) <;> (first | rfl | omega | (simp only [go_sem]; done) | (simp [go_sem]; done) | (simp [go_sem]; omega))) | exact Sv.nil0 | exact Sv.em0 | exact Sv.sl0 | ((first | refine Sv.slFE (.inl ⟨rfl, rfl⟩) ?_ (Svs.eq ?_ ?_) | refine Sv.slFE (.inr rfl) ?_ (Svs.eq ?_ ?_)) <;> (first | rfl | omega | (simp only [go_sem]; done) | (simp [go_sem]; done) | (simp [go_sem]; omega))) | exact Svs.nilI | refine Svs.consI ?_ ?_ | refine Sv.tu ?_ | refine Sv.ag ?_)); done) | rfl)))
  · by_cases h2 : (40 : Int) < l.length
    · simp only [go_sem, seval, L3, h1, h2]
      repeat' (first
          | ((first | ((first | refine LCall_pure (c4) (Cls.of ?_) ?_); simp only [go_sem, Bool.and_self, Bool.and_true]) | ((first | refine LNext_if ?_ ?_ | refine ZNext_if ?_ ?_ | refine ZY_if ?_ ?_); (first | omega | exact True.intro | (simp only [go_sem, List.length_map, List.length_cons, List.length_nil, List.length_append, List.length_replicate, List.length_drop, List.length_take, List.length_set, Nat.reduceAdd, Nat.reduceMul, true_and, and_true]; omega) | (refine And.intro ?_ ?_ <;> first | omega | exact True.intro | (simp only [List.length_map, List.length_cons, List.length_nil, List.length_append, List.length_replicate, List.length_drop, List.length_take, List.length_set]; omega)))) | (refine And.intro ?_ ?_; (show okA _ _ _ _ = true); kernel_rfl) | refine MX_ok (l := .seq _ _) ?_ | refine MX_ok (l := .reg _) ?_ | refine MX_ok (l := .cond _ _ _) ?_ | refine MX_ok (l := .block _ _) ?_ | refine MX_ok (l := .ret) ?_ | refine MX_ok (l := .skip) ?_); (try simp only [go_sem, seval, h1, h2]))
          | ((first | refine MCond_split ?_ ?_ | refine NCond_split ?_ ?_ | refine LGuard_split ?_ ?_ | refine ZG_split ?_ ?_) <;> (intro hc; (try simp only [go_sem, seval, hc, h1, h2]); (try simp only [decide_eq_true_eq, decide_eq_false_iff_not, Bool.not_eq_true', Bool.not_eq_false', Bool.not_eq_true, Bool.not_eq_false, beq_iff_eq, bne_iff_ne, ne_eq, beq_eq_false_iff_ne, bne_eq_false_iff_eq, Int.not_lt, Int.not_le, gt_iff_lt, ge_iff_le, Decidable.not_not] at hc)))
          | (refine And.intro ?_ ?_))
      all_goals refine Fin_of ⟨rfl, rfl⟩ ?_; (refine VS_of [] (by decide) ?_ ?_ (by decide); all_goals (repeat' (first | exact trivial | refine And.intro ?_ ?_ | exact ⟨rfl, rfl⟩ | exact Sg.any | ((first | refine ⟨_, rfl, ?_⟩ | refine ⟨_, .inl ⟨rfl, rfl⟩, ?_⟩ | refine ⟨_, .inr rfl, ?_⟩ | refine Sg.of ?_); (repeat' (first | ((first | refine Sv.cl (Cl.of ?_) | refine Svs.cl (Cls.of ?_)); simp only [go_sem, Bool.and_self, Bool.and_true]; done) | exact Sv.pt rfl | exact Sv.mp rfl | exact Sv.nil rfl | exact Sv.em rfl | (refine Sv.slE rfl ?_ ?_ <;> (first | rfl | omega | (simp only [go_sem]; done) | (simp [go_sem]; done) | (simp [go_sem]; omega))) | ((first | refine Sv.eq ?_ ?_ | refine Svs.eq ?_ ?_) <;> (first | rfl | omega | (simp only [go_sem]; done) | (simp [go_sem]; done) | (simp [go_sem]; omega))) | exact Sv.nil0 | exact Sv.em0 | exact Sv.sl0 | ((first | refine Sv.slFE (.inl ⟨rfl, rfl⟩) ?_ (Svs.eq ?_ ?_) | refine Sv.slFE (.inr rfl) ?_ (Svs.eq ?_ ?_)) <;> (first | rfl | omega | (simp only [go_sem]; done) | (simp [go_sem]; done) | (simp [go_sem]; omega))) | exact Svs.nilI | refine Svs.consI ?_ ?_ | refine Sv.tu ?_ | refine Sv.ag ?_)); done) | rfl)))
    · have c6 := clone6 L (by omega)
      have c7 := clone7 l (by omega)
      have c5 := applyP5 L l
      have c8 := applyR8 L l
      rw [same_run] at c5
      generalize hR : runR xr L l none ([], 0) = R at *
      have lenA : (outP L R l.length).length < 1000000 := by
        unfold outP
        split
        · simp
        · split
          · simp
          · cases R with
            | none => simp
            | some r =>
              have q := run_len xr L l none [] 0 false r ⟨rfl, rfl⟩ (Nat.zero_le _) hR
              have := cnt_bound (l := l) (n := L.length) (by omega) (by omega) l.length
              rw [List.take_length] at this
              simp only [st, Bool.false_eq_true, if_false, List.length_nil, Int.ofNat_eq_natCast, Int.natCast_zero, Int.sub_zero, Int.add_zero] at q
              simp only [Option.getD_some]
              omega
      have c9 := equal9 (outP L R l.length) (outP L R l.length) lenA
      have d1 : decide (outP L R l.length = outP L R l.length) = true := by simp
      rw [d1] at c9
      by_cases he : errP L R l.length = 0
      · obtain ⟨r, hr, hA⟩ := ok_some he
        subst hr
        have q := run_len xr L l none [] 0 false r ⟨rfl, rfl⟩ (Nat.zero_le _) hR
        simp only [st, Bool.false_eq_true, if_false, List.length_nil, Int.natCast_zero, Int.sub_zero, Int.add_zero] at q
        rw [he, hA] at c5 c8
        rw [hA] at c9
        have n1 : ((0 : Int) != 0) = false := by simp
        simp only [go_sem, seval, L3, h1, h2]
        repeat' (first
            | ((first | ((first | refine LCall_pure (c4) (Cls.of ?_) ?_ | refine LCall_pure (c6) (Cls.of ?_) ?_ | refine LCall_pure (c7) (Cls.of ?_) ?_ | refine LCall_pure (c5) (Cls.of ?_) ?_ | refine LCall_pure (c8) (Cls.of ?_) ?_ | refine LCall_pure (c9) (Cls.of ?_) ?_); simp only [go_sem, Bool.and_self, Bool.and_true]) | ((first | refine LNext_if ?_ ?_ | refine ZNext_if ?_ ?_ | refine ZY_if ?_ ?_); (first | omega | exact True.intro | (simp only [go_sem, List.length_map, List.length_cons, List.length_nil, List.length_append, List.length_replicate, List.length_drop, List.length_take, List.length_set, Nat.reduceAdd, Nat.reduceMul, true_and, and_true]; omega) | (refine And.intro ?_ ?_ <;> first | omega | exact True.intro | (simp only [List.length_map, List.length_cons, List.length_nil, List.length_append, List.length_replicate, List.length_drop, List.length_take, List.length_set]; omega)))) | (refine And.intro ?_ ?_; (show okA _ _ _ _ = true); kernel_rfl) | refine MX_ok (l := .seq _ _) ?_ | refine MX_ok (l := .reg _) ?_ | refine MX_ok (l := .cond _ _ _) ?_ | refine MX_ok (l := .block _ _) ?_ | refine MX_ok (l := .ret) ?_ | refine MX_ok (l := .skip) ?_); (try simp only [go_sem, seval, h1, h2]))
            | ((first | refine MCond_split ?_ ?_ | refine NCond_split ?_ ?_ | refine LGuard_split ?_ ?_ | refine ZG_split ?_ ?_) <;> (intro hc; (try simp only [go_sem, seval, hc, h1, h2]); (try simp only [decide_eq_true_eq, decide_eq_false_iff_not, Bool.not_eq_true', Bool.not_eq_false', Bool.not_eq_true, Bool.not_eq_false, beq_iff_eq, bne_iff_ne, ne_eq, beq_eq_false_iff_ne, bne_eq_false_iff_eq, Int.not_lt, Int.not_le, gt_iff_lt, ge_iff_le, Decidable.not_not] at hc)))
            | (refine And.intro ?_ ?_))
        refine MW_loop_st (S3 r l) (fun _ => []) (fun s => s.1 ≤ l.length ∧ s.2 = (l.take s.1).foldl cntC (L.length : Int)) (fun s => l.length - s.1) (0, (L.length : Int)) ?_ ⟨Nat.zero_le _, rfl⟩ ?_
        · (refine VS_of [] (by decide) ?_ ?_ (by decide); all_goals (repeat' (first | exact trivial | refine And.intro ?_ ?_ | exact ⟨rfl, rfl⟩ | exact Sg.any | ((first | refine ⟨_, rfl, ?_⟩ | refine ⟨_, .inl ⟨rfl, rfl⟩, ?_⟩ | refine ⟨_, .inr rfl, ?_⟩ | refine Sg.of ?_); (repeat' (first | ((first | refine Sv.cl (Cl.of ?_) | refine Svs.cl (Cls.of ?_)); simp only [go_sem, Bool.and_self, Bool.and_true]; done) | exact Sv.pt rfl | exact Sv.mp rfl | exact Sv.nil rfl | exact Sv.em rfl | (refine Sv.slE rfl ?_ ?_ <;> (first | rfl | omega | (simp only [go_sem]; done) | (simp [go_sem]; done) | (simp [go_sem]; omega))) | ((first | refine Sv.eq ?_ ?_ | refine Svs.eq ?_ ?_) <;> (first | rfl | omega | (simp only [go_sem]; done) | (simp [go_sem]; done) | (simp [go_sem]; omega))) | exact Sv.nil0 | exact Sv.em0 | exact Sv.sl0 | ((first | refine Sv.slFE (.inl ⟨rfl, rfl⟩) ?_ (Svs.eq ?_ ?_) | refine Sv.slFE (.inr rfl) ?_ (Svs.eq ?_ ?_)) <;> (first | rfl | omega | (simp only [go_sem]; done) | (simp [go_sem]; done) | (simp [go_sem]; omega))) | exact Svs.nilI | refine Svs.consI ?_ ?_ | refine Sv.tu ?_ | refine Sv.ag ?_)); done) | rfl)))
        · rintro ⟨i, n⟩ ⟨i1, i2⟩
          dsimp only at i1 i2
          have bnd := cnt_bound (l := l) (n := L.length) (by omega) (by omega) i
          rw [← i2] at bnd
          rcases Nat.lt_or_ge i l.length with hi | hi
          · obtain ⟨⟨k, a, cc⟩, hx, hx'⟩ := dropG hi
            have hi' : (i : Int) < l.length := by omega
            have hd : (chs l).drop (i * 3) = [.v (.int .i64 k), .v (.int .i64 a), .v (.int .i64 cc)] ++ chs (l.drop (i + 1)) := chs_drop hx
            have wi := wrapS (show i < 9223372036854775807 by omega)
            have w1 : IntKind.wrap .i64 (n + 1) = n + 1 := wrapI (by omega) (by omega)
            have w2 : IntKind.wrap .i64 (n - 1) = n - 1 := wrapI (by omega) (by omega)
            have cs := cnt_step hx (L.length : Int)
            rw [← i2] at cs
            simp only [cntC] at cs
            by_cases k2 : k = 2
            · subst k2
              rw [if_pos rfl] at cs
              simp only [go_sem, seval, L3_b0, S3, hi', hd, Int.toNat_natCast]
              repeat' (first
                  | ((first | ((first | refine LNext_if ?_ ?_ | refine ZNext_if ?_ ?_ | refine ZY_if ?_ ?_); (first | omega | exact True.intro | (simp only [go_sem, List.length_map, List.length_cons, List.length_nil, List.length_append, List.length_replicate, List.length_drop, List.length_take, List.length_set, Nat.reduceAdd, Nat.reduceMul, true_and, and_true]; omega) | (refine And.intro ?_ ?_ <;> first | omega | exact True.intro | (simp only [List.length_map, List.length_cons, List.length_nil, List.length_append, List.length_replicate, List.length_drop, List.length_take, List.length_set]; omega)))) | (refine And.intro ?_ ?_; (show okA _ _ _ _ = true); kernel_rfl) | refine MX_ok (l := .seq _ _) ?_ | refine MX_ok (l := .reg _) ?_ | refine MX_ok (l := .cond _ _ _) ?_ | refine MX_ok (l := .block _ _) ?_ | refine MX_ok (l := .ret) ?_ | refine MX_ok (l := .skip) ?_); (try simp only [go_sem, seval, hi', hd, Int.toNat_natCast]))
                  | ((first | refine MCond_split ?_ ?_ | refine NCond_split ?_ ?_ | refine LGuard_split ?_ ?_ | refine ZG_split ?_ ?_) <;> (intro hc; (try simp only [go_sem, seval, hc, hi', hd, Int.toNat_natCast]); (try simp only [decide_eq_true_eq, decide_eq_false_iff_not, Bool.not_eq_true', Bool.not_eq_false', Bool.not_eq_true, Bool.not_eq_false, beq_iff_eq, bne_iff_ne, ne_eq, beq_eq_false_iff_ne, bne_eq_false_iff_eq, Int.not_lt, Int.not_le, gt_iff_lt, ge_iff_le, Decidable.not_not] at hc)))
                  | (refine And.intro ?_ ?_))
              refine ⟨(i + 1, n + 1), by dsimp only; omega, ⟨by dsimp only; omega, cs.symm⟩, ?_⟩
              (refine VS_of [] (by decide) ?_ ?_ (by decide); all_goals (repeat' (first | exact trivial | refine And.intro ?_ ?_ | exact ⟨rfl, rfl⟩ | exact Sg.any | ((first | refine ⟨_, rfl, ?_⟩ | refine ⟨_, .inl ⟨rfl, rfl⟩, ?_⟩ | refine ⟨_, .inr rfl, ?_⟩ | refine Sg.of ?_); (repeat' (first | ((first | refine Sv.cl (Cl.of ?_) | refine Svs.cl (Cls.of ?_)); simp only [go_sem, Bool.and_self, Bool.and_true]; done) | exact Sv.pt rfl | exact Sv.mp rfl | exact Sv.nil rfl | exact Sv.em rfl | (refine Sv.slE rfl ?_ ?_ <;> (first | rfl | omega | (simp only [wi, w1]; done) | (simp only [go_sem, wi, w1]; done) | (simp [wi, w1]; done) | (simp [wi, w1]; omega))) | ((first | refine Sv.eq ?_ ?_ | refine Svs.eq ?_ ?_) <;> (first | rfl | omega | (simp only [wi, w1]; done) | (simp only [go_sem, wi, w1]; done) | (simp [wi, w1]; done) | (simp [wi, w1]; omega))) | exact Sv.nil0 | exact Sv.em0 | exact Sv.sl0 | ((first | refine Sv.slFE (.inl ⟨rfl, rfl⟩) ?_ (Svs.eq ?_ ?_) | refine Sv.slFE (.inr rfl) ?_ (Svs.eq ?_ ?_)) <;> (first | rfl | omega | (simp only [wi, w1]; done) | (simp only [go_sem, wi, w1]; done) | (simp [wi, w1]; done) | (simp [wi, w1]; omega))) | exact Svs.nilI | refine Svs.consI ?_ ?_ | refine Sv.tu ?_ | refine Sv.ag ?_)); done) | rfl)))
            · have k2' : (k == 2) = false := by simp [k2]
              rw [if_neg k2] at cs
              by_cases k3 : k = 3
              · subst k3
                rw [if_pos rfl] at cs
                simp only [go_sem, seval, L3_b0, S3, hi', hd, Int.toNat_natCast]
                repeat' (first
                    | ((first | ((first | refine LNext_if ?_ ?_ | refine ZNext_if ?_ ?_ | refine ZY_if ?_ ?_); (first | omega | exact True.intro | (simp only [go_sem, List.length_map, List.length_cons, List.length_nil, List.length_append, List.length_replicate, List.length_drop, List.length_take, List.length_set, Nat.reduceAdd, Nat.reduceMul, true_and, and_true]; omega) | (refine And.intro ?_ ?_ <;> first | omega | exact True.intro | (simp only [List.length_map, List.length_cons, List.length_nil, List.length_append, List.length_replicate, List.length_drop, List.length_take, List.length_set]; omega)))) | (refine And.intro ?_ ?_; (show okA _ _ _ _ = true); kernel_rfl) | refine MX_ok (l := .seq _ _) ?_ | refine MX_ok (l := .reg _) ?_ | refine MX_ok (l := .cond _ _ _) ?_ | refine MX_ok (l := .block _ _) ?_ | refine MX_ok (l := .ret) ?_ | refine MX_ok (l := .skip) ?_); (try simp only [go_sem, seval, hi', hd, Int.toNat_natCast]))
                    | ((first | refine MCond_split ?_ ?_ | refine NCond_split ?_ ?_ | refine LGuard_split ?_ ?_ | refine ZG_split ?_ ?_) <;> (intro hc; (try simp only [go_sem, seval, hc, hi', hd, Int.toNat_natCast]); (try simp only [decide_eq_true_eq, decide_eq_false_iff_not, Bool.not_eq_true', Bool.not_eq_false', Bool.not_eq_true, Bool.not_eq_false, beq_iff_eq, bne_iff_ne, ne_eq, beq_eq_false_iff_ne, bne_eq_false_iff_eq, Int.not_lt, Int.not_le, gt_iff_lt, ge_iff_le, Decidable.not_not] at hc)))
                    | (refine And.intro ?_ ?_))
                refine ⟨(i + 1, n - 1), by dsimp only; omega, ⟨by dsimp only; omega, cs.symm⟩, ?_⟩
                (refine VS_of [] (by decide) ?_ ?_ (by decide); all_goals (repeat' (first | exact trivial | refine And.intro ?_ ?_ | exact ⟨rfl, rfl⟩ | exact Sg.any | ((first | refine ⟨_, rfl, ?_⟩ | refine ⟨_, .inl ⟨rfl, rfl⟩, ?_⟩ | refine ⟨_, .inr rfl, ?_⟩ | refine Sg.of ?_); (repeat' (first | ((first | refine Sv.cl (Cl.of ?_) | refine Svs.cl (Cls.of ?_)); simp only [go_sem, Bool.and_self, Bool.and_true]; done) | exact Sv.pt rfl | exact Sv.mp rfl | exact Sv.nil rfl | exact Sv.em rfl | (refine Sv.slE rfl ?_ ?_ <;> (first | rfl | omega | (simp only [wi, w2]; done) | (simp only [go_sem, wi, w2]; done) | (simp [wi, w2]; done) | (simp [wi, w2]; omega))) | ((first | refine Sv.eq ?_ ?_ | refine Svs.eq ?_ ?_) <;> (first | rfl | omega | (simp only [wi, w2]; done) | (simp only [go_sem, wi, w2]; done) | (simp [wi, w2]; done) | (simp [wi, w2]; omega))) | exact Sv.nil0 | exact Sv.em0 | exact Sv.sl0 | ((first | refine Sv.slFE (.inl ⟨rfl, rfl⟩) ?_ (Svs.eq ?_ ?_) | refine Sv.slFE (.inr rfl) ?_ (Svs.eq ?_ ?_)) <;> (first | rfl | omega | (simp only [wi, w2]; done) | (simp only [go_sem, wi, w2]; done) | (simp [wi, w2]; done) | (simp [wi, w2]; omega))) | exact Svs.nilI | refine Svs.consI ?_ ?_ | refine Sv.tu ?_ | refine Sv.ag ?_)); done) | rfl)))
              · have k3' : (k == 3) = false := by simp [k3]
                rw [if_neg k3] at cs
                simp only [go_sem, seval, L3_b0, S3, hi', hd, Int.toNat_natCast, k2', k3']
                repeat' (first
                    | ((first | ((first | refine LNext_if ?_ ?_ | refine ZNext_if ?_ ?_ | refine ZY_if ?_ ?_); (first | omega | exact True.intro | (simp only [go_sem, List.length_map, List.length_cons, List.length_nil, List.length_append, List.length_replicate, List.length_drop, List.length_take, List.length_set, Nat.reduceAdd, Nat.reduceMul, true_and, and_true]; omega) | (refine And.intro ?_ ?_ <;> first | omega | exact True.intro | (simp only [List.length_map, List.length_cons, List.length_nil, List.length_append, List.length_replicate, List.length_drop, List.length_take, List.length_set]; omega)))) | (refine And.intro ?_ ?_; (show okA _ _ _ _ = true); kernel_rfl) | refine MX_ok (l := .seq _ _) ?_ | refine MX_ok (l := .reg _) ?_ | refine MX_ok (l := .cond _ _ _) ?_ | refine MX_ok (l := .block _ _) ?_ | refine MX_ok (l := .ret) ?_ | refine MX_ok (l := .skip) ?_); (try simp only [go_sem, seval, hi', hd, Int.toNat_natCast, k2', k3']))
                    | ((first | refine MCond_split ?_ ?_ | refine NCond_split ?_ ?_ | refine LGuard_split ?_ ?_ | refine ZG_split ?_ ?_) <;> (intro hc; (try simp only [go_sem, seval, hc, hi', hd, Int.toNat_natCast, k2', k3']); (try simp only [decide_eq_true_eq, decide_eq_false_iff_not, Bool.not_eq_true', Bool.not_eq_false', Bool.not_eq_true, Bool.not_eq_false, beq_iff_eq, bne_iff_ne, ne_eq, beq_eq_false_iff_ne, bne_eq_false_iff_eq, Int.not_lt, Int.not_le, gt_iff_lt, ge_iff_le, Decidable.not_not] at hc)))
                    | (refine And.intro ?_ ?_))
                refine ⟨(i + 1, n), by dsimp only; omega, ⟨by dsimp only; omega, cs.symm⟩, ?_⟩
                (refine VS_of [] (by decide) ?_ ?_ (by decide); all_goals (repeat' (first | exact trivial | refine And.intro ?_ ?_ | exact ⟨rfl, rfl⟩ | exact Sg.any | ((first | refine ⟨_, rfl, ?_⟩ | refine ⟨_, .inl ⟨rfl, rfl⟩, ?_⟩ | refine ⟨_, .inr rfl, ?_⟩ | refine Sg.of ?_); (repeat' (first | ((first | refine Sv.cl (Cl.of ?_) | refine Svs.cl (Cls.of ?_)); simp only [go_sem, Bool.and_self, Bool.and_true]; done) | exact Sv.pt rfl | exact Sv.mp rfl | exact Sv.nil rfl | exact Sv.em rfl | (refine Sv.slE rfl ?_ ?_ <;> (first | rfl | omega | (simp only [wi]; done) | (simp only [go_sem, wi]; done) | (simp [wi]; done) | (simp [wi]; omega))) | ((first | refine Sv.eq ?_ ?_ | refine Svs.eq ?_ ?_) <;> (first | rfl | omega | (simp only [wi]; done) | (simp only [go_sem, wi]; done) | (simp [wi]; done) | (simp [wi]; omega))) | exact Sv.nil0 | exact Sv.em0 | exact Sv.sl0 | ((first | refine Sv.slFE (.inl ⟨rfl, rfl⟩) ?_ (Svs.eq ?_ ?_) | refine Sv.slFE (.inr rfl) ?_ (Svs.eq ?_ ?_)) <;> (first | rfl | omega | (simp only [wi]; done) | (simp only [go_sem, wi]; done) | (simp [wi]; done) | (simp [wi]; omega))) | exact Svs.nilI | refine Svs.consI ?_ ?_ | refine Sv.tu ?_ | refine Sv.ag ?_)); done) | rfl)))
          · have hi' : ¬ (i : Int) < l.length := by omega
            have e : n = (r.length : Int) := by rw [i2, q, List.take_of_length_le hi]
            subst e
            have n2 : (((r.length : Nat) : Int) == (r.length : Int)) = true := by simp
            simp only [go_sem, seval, L3_b0, S3, hi', n2]
            repeat' (first
                | ((first | ((first | refine LNext_if ?_ ?_ | refine ZNext_if ?_ ?_ | refine ZY_if ?_ ?_); (first | omega | exact True.intro | (simp only [go_sem, List.length_map, List.length_cons, List.length_nil, List.length_append, List.length_replicate, List.length_drop, List.length_take, List.length_set, Nat.reduceAdd, Nat.reduceMul, true_and, and_true]; omega) | (refine And.intro ?_ ?_ <;> first | omega | exact True.intro | (simp only [List.length_map, List.length_cons, List.length_nil, List.length_append, List.length_replicate, List.length_drop, List.length_take, List.length_set]; omega)))) | (refine And.intro ?_ ?_; (show okA _ _ _ _ = true); kernel_rfl) | refine MX_ok (l := .seq _ _) ?_ | refine MX_ok (l := .reg _) ?_ | refine MX_ok (l := .cond _ _ _) ?_ | refine MX_ok (l := .block _ _) ?_ | refine MX_ok (l := .ret) ?_ | refine MX_ok (l := .skip) ?_); (try simp only [go_sem, seval, n2]))
                | ((first | refine MCond_split ?_ ?_ | refine NCond_split ?_ ?_ | refine LGuard_split ?_ ?_ | refine ZG_split ?_ ?_) <;> (intro hc; (try simp only [go_sem, seval, hc, n2]); (try simp only [decide_eq_true_eq, decide_eq_false_iff_not, Bool.not_eq_true', Bool.not_eq_false', Bool.not_eq_true, Bool.not_eq_false, beq_iff_eq, bne_iff_ne, ne_eq, beq_eq_false_iff_ne, bne_eq_false_iff_eq, Int.not_lt, Int.not_le, gt_iff_lt, ge_iff_le, Decidable.not_not] at hc)))
                | (refine And.intro ?_ ?_))
            all_goals refine Fin_of ⟨rfl, rfl⟩ ?_; (refine VS_of [] (by decide) ?_ ?_ (by decide); all_goals (repeat' (first | exact trivial | refine And.intro ?_ ?_ | exact ⟨rfl, rfl⟩ | exact Sg.any | ((first | refine ⟨_, rfl, ?_⟩ | refine ⟨_, .inl ⟨rfl, rfl⟩, ?_⟩ | refine ⟨_, .inr rfl, ?_⟩ | refine Sg.of ?_); (repeat' (first | ((first | refine Sv.cl (Cl.of ?_) | refine Svs.cl (Cls.of ?_)); simp only [go_sem, Bool.and_self, Bool.and_true]; done) | exact Sv.pt rfl | exact Sv.mp rfl | exact Sv.nil rfl | exact Sv.em rfl | (refine Sv.slE rfl ?_ ?_ <;> (first | rfl | omega | (simp only [n2]; done) | (simp only [go_sem, n2]; done) | (simp [n2]; done) | (simp [n2]; omega))) | ((first | refine Sv.eq ?_ ?_ | refine Svs.eq ?_ ?_) <;> (first | rfl | omega | (simp only [n2]; done) | (simp only [go_sem, n2]; done) | (simp [n2]; done) | (simp [n2]; omega))) | exact Sv.nil0 | exact Sv.em0 | exact Sv.sl0 | ((first | refine Sv.slFE (.inl ⟨rfl, rfl⟩) ?_ (Svs.eq ?_ ?_) | refine Sv.slFE (.inr rfl) ?_ (Svs.eq ?_ ?_)) <;> (first | rfl | omega | (simp only [n2]; done) | (simp only [go_sem, n2]; done) | (simp [n2]; done) | (simp [n2]; omega))) | exact Svs.nilI | refine Svs.consI ?_ ?_ | refine Sv.tu ?_ | refine Sv.ag ?_)); done) | rfl)))
      · have he' : (errP L R l.length != 0) = true := by simp [he]
        generalize errP L R l.length = e at *
        generalize outP L R l.length = A at *
        have n1 : (e != e) = false := by simp
        have n2 : (e == e) = true := by simp
        simp only [go_sem, seval, L3, h1, h2]
        repeat' (first
            | ((first | ((first | refine LCall_pure (c4) (Cls.of ?_) ?_ | refine LCall_pure (c6) (Cls.of ?_) ?_ | refine LCall_pure (c7) (Cls.of ?_) ?_ | refine LCall_pure (c5) (Cls.of ?_) ?_ | refine LCall_pure (c8) (Cls.of ?_) ?_ | refine LCall_pure (c9) (Cls.of ?_) ?_); simp only [go_sem, Bool.and_self, Bool.and_true]) | ((first | refine LNext_if ?_ ?_ | refine ZNext_if ?_ ?_ | refine ZY_if ?_ ?_); (first | omega | exact True.intro | (simp only [go_sem, List.length_map, List.length_cons, List.length_nil, List.length_append, List.length_replicate, List.length_drop, List.length_take, List.length_set, Nat.reduceAdd, Nat.reduceMul, true_and, and_true]; omega) | (refine And.intro ?_ ?_ <;> first | omega | exact True.intro | (simp only [List.length_map, List.length_cons, List.length_nil, List.length_append, List.length_replicate, List.length_drop, List.length_take, List.length_set]; omega)))) | (refine And.intro ?_ ?_; (show okA _ _ _ _ = true); kernel_rfl) | refine MX_ok (l := .seq _ _) ?_ | refine MX_ok (l := .reg _) ?_ | refine MX_ok (l := .cond _ _ _) ?_ | refine MX_ok (l := .block _ _) ?_ | refine MX_ok (l := .ret) ?_ | refine MX_ok (l := .skip) ?_); (try simp only [go_sem, seval, h1, h2, n1, n2, he']))
            | ((first | refine MCond_split ?_ ?_ | refine NCond_split ?_ ?_ | refine LGuard_split ?_ ?_ | refine ZG_split ?_ ?_) <;> (intro hc; (try simp only [go_sem, seval, hc, h1, h2, n1, n2, he']); (try simp only [decide_eq_true_eq, decide_eq_false_iff_not, Bool.not_eq_true', Bool.not_eq_false', Bool.not_eq_true, Bool.not_eq_false, beq_iff_eq, bne_iff_ne, ne_eq, beq_eq_false_iff_ne, bne_eq_false_iff_eq, Int.not_lt, Int.not_le, gt_iff_lt, ge_iff_le, Decidable.not_not] at hc)))
            | (refine And.intro ?_ ?_))
        all_goals refine Fin_of ⟨rfl, rfl⟩ ?_; (refine VS_of [] (by decide) ?_ ?_ (by decide); all_goals (repeat' (first | exact trivial | refine And.intro ?_ ?_ | exact ⟨rfl, rfl⟩ | exact Sg.any | ((first | refine ⟨_, rfl, ?_⟩ | refine ⟨_, .inl ⟨rfl, rfl⟩, ?_⟩ | refine ⟨_, .inr rfl, ?_⟩ | refine Sg.of ?_); (repeat' (first | ((first | refine Sv.cl (Cl.of ?_) | refine Svs.cl (Cls.of ?_)); simp only [go_sem, Bool.and_self, Bool.and_true]; done) | exact Sv.pt rfl | exact Sv.mp rfl | exact Sv.nil rfl | exact Sv.em rfl | (refine Sv.slE rfl ?_ ?_ <;> (first | rfl | omega | (simp only [go_sem]; done) | (simp [go_sem]; done) | (simp [go_sem]; omega))) | ((first | refine Sv.eq ?_ ?_ | refine Svs.eq ?_ ?_) <;> (first | rfl | omega | (simp only [go_sem]; done) | (simp [go_sem]; done) | (simp [go_sem]; omega))) | exact Sv.nil0 | exact Sv.em0 | exact Sv.sl0 | ((first | refine Sv.slFE (.inl ⟨rfl, rfl⟩) ?_ (Svs.eq ?_ ?_) | refine Sv.slFE (.inr rfl) ?_ (Svs.eq ?_ ?_)) <;> (first | rfl | omega | (simp only [go_sem]; done) | (simp [go_sem]; done) | (simp [go_sem]; omega))) | exact Svs.nilI | refine Svs.consI ?_ ?_ | refine Sv.tu ?_ | refine Sv.ag ?_)); done) | rfl)))
end Go.Proofs.YtkggkkjiidbclaaGreatDoor
