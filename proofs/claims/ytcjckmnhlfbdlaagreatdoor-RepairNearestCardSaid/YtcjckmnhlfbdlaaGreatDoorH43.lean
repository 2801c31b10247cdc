/- Part 43 of the texts that lead to repairNearestCard_holds. No condition. -/
import Derived.Test.YtcjckmnhlfbdlaaGreatDoorH42
set_option linter.all false
set_option maxRecDepth 100000
namespace Go.Proofs.YtcjckmnhlfbdlaaGreatDoor
open Go Go.Abs Go.Rep Go.Ne
theorem fV_none : fV none = .v (.slice none 0 0) := rfl
def S41 (i q : Nat) (row : List Int) (k : Nat) : List AV := [.any, .v (.int .i64 i), .v (.int .i64 q), .any, .any, .pt 1 0, .any, .any, .pt 2 0, .pt 3 0, .fn (.func 74) [] [.pt 2 0, .pt 1 0, .pt 3 0], .im row.length (ints row), .any, .any, .any, .any, .any, .any, .any, .any, .any, .any, .any, .any, .any, .any, .any, .any, .any, .any, .any, .any, .any, .any, .any, .any, .any, .any, .any, .any, .any, .any, .any, .any, .any, .any, .any, .any, .any, .any, .any, .any, .any, .any, .any, .any, .any, .any, .any, .any, .any, .any, .any, .any, .any, .any, .any, .any, .any, .any, .any, .any, .any, .any, .any, .any, .any, .any, .any, .any, .any, .any, .any, .any, .any, .any, .any, .any, .any, .any, .any, .any, .any, .im row.length (ints row), .v (.int .i64 row.length), .v (.int .i64 k), .any, .any, .any, .any, .any, .any, .any, .any, .any, .any, .any, .any, .any, .any, .any, .any, .any, .any, .any, .any, .any, .any, .any, .any, .any, .any, .any, .any, .any, .any, .any, .any, .any, .any, .any, .any, .any, .any, .any, .any, .any, .any, .any, .any, .any, .any, .any, .any, .any, .any]
noncomputable def O41 (S : Int) (N : List (List Int)) (A : List Bool) (ws : List Nat) (so : List Ch) (w : Nat) (g : Option (List Ch)) : List AO := [.cells 1 (xC S N A ws g), .cells 1 [.pt 0 0], .cells 1 [.v (.int .i64 w)], .cells 1 [.im so.length (chs so)]]
set_option maxHeartbeats 4000000 in
theorem list41 (S : Int) (N : List (List Int)) (A : List Bool) (ws : List Nat) (h : Fit4 S N A) (hws : ∀ c ∈ ws, c < 4) (h6 : ws.length ≤ 6) : ∀ f, LI S N A ws f
 | 0 => fun i q w so g hi hq hW hw hf hs => by omega
 | f + 1 => fun i q w so g hi hq hW hw hf hs => by
  have ih := list41 S N A ws h hws h6 f
  have hl := h.fit.len
  cases g with
  | some L => exact list41_some S N A ws L i q w so
  | none =>
   rw [show (none : Option (List Ch)).or (some (so ++ bestF N A (f + 1) i (ws.drop i) q w)) = some (so ++ bestF N A (f + 1) i (ws.drop i) q w) from rfl]
   obtain ⟨b, hb, _⟩ := dropG (l := A) (k := q) (by omega)
   have hb' : A.getD q false = b := by rw [List.getD_eq_getElem?_getD, hb]; rfl
   have hqA : (q : Int) < A.length := by omega
   by_cases hil : i = ws.length
   ·have hd : ws.drop i = [] := by rw [hil]; exact List.drop_of_length_le (Nat.le_refl _)
    have e1 : ((i : Int) == (ws.length : Int)) = true := by rw [hil]; exact beq_self_eq_true _
    by_cases h0 : (w : Int) = 0 ∧ A.getD q false = true
    ·have e : bestF N A (f + 1) i (ws.drop i) q w = [] := by rw [hd]; simp only [bestF]; rw [if_pos h0]
     rw [e, List.append_nil]
     obtain ⟨h1, h2⟩ := h0
     obtain rfl : w = 0 := by omega
     rw [hb'] at h2
     subst h2
     have c73 := clone73 so (by omega)
     refine callm41 ?_
     simp only [go_sem, seval, L41, xC, fV_none]
     repeat' (first | ((first | (refine MW_dy dl41_3 mixedP dx41_3 ax41_3 3 ?_ ?_; exact yl) | (refine ZC_pure (LCl_cl (c73) ?_ ?_) ?_ ?_; iterate 3 exact cx) | refine MW_still dl41_1 mixedP dx41_1 ?_ | refine MX_okL rfl ?_ | refine LNext_if sd ?_ | refine ZNext_if sd ?_ | refine ZY_if sd ?_ | refine And.intro okq ?_); (try simp only [go_sem, seval, l41_1, l41_3, e1, bls_drop hb, hqA, Int.toNat_natCast])) | (refine And.intro ?_ ?_))
     (have kr0 := show lls [so] = [.im so.length (chs so)] from rfl; exact Fin_of ⟨rfl, rfl⟩ (kp [.old 0]))
    ·rw [← fin_nil h.fit hws hd hq hW (by omega) h0]
     obtain ⟨row, a1, a2, _⟩ := h.at' hq (c := 0) (by omega)
     have e2 : ¬ (i : Int) < ws.length := by omega
     refine callm41 ?_
     simp only [go_sem, seval, L41, xC, fV_none]
     by_cases hw0 : w = 0
     ·obtain rfl : b = false := by
       rw [hb'] at h0
       cases b with
       | true => exact (h0 ⟨by omega, rfl⟩).elim
       | false => rfl
      have e3 : ((w : Int) == 0) = true := by subst hw0; rfl
      repeat' (first | ((first | refine MW_still dl41_1 mixedP dx41_1 ?_ | refine MX_okL rfl ?_ | refine LNext_if sd ?_ | refine ZNext_if sd ?_ | refine ZY_if sd ?_ | refine And.intro okq ?_); (try simp only [go_sem, seval, l41_1, e1, e2, e3, bls_drop hb, hqA, Int.toNat_natCast, rows_drop a1])) | (refine And.intro ?_ ?_))
      refine MW_loop_st (S41 i q row) (fun k => O41 S N A ws so w (trysF N A ws f i q so w none k)) (fun k => k ≤ 4) (fun k => 4 - k) 0 ?_ (Nat.zero_le _) ?_
      ·unfold O41
       exact kp [.old 0, .old 1, .old 2, .old 3]
      rintro k k1
      unfold O41
      rcases Nat.lt_or_ge k 4 with hk | hk
      ·have hk' : (k : Int) < row.length := by omega
       obtain ⟨row', a1', _, a3⟩ := h.at' hq hk
       obtain rfl : row = row' := by rw [a1] at a1'; injection a1'
       have c74 := try74 S N A ws f h hws h6 ih (trysF N A ws f i q so w none k) ⟨2, i, k⟩ i (nx N q k) 2 w 2 rfl so hi (h.fit.tab q k hq hk) (by omega) (by omega) hw (by omega) (by omega)
       unfold chV at c74
       dsimp only at c74
       simp only [go_sem, seval, L41_b0, S41, hk', ints_drop a3, Int.toNat_natCast, Option.isSome_some, Bool.and_self, if_true]
       repeat' (first | ((first | refine MX_okL rfl ?_ | refine LNext_if sd ?_ | refine ZNext_if sd ?_ | refine ZY_if sd ?_ | refine And.intro okq ?_); (try simp only [go_sem, seval, hk', ints_drop a3, Int.toNat_natCast, Option.isSome_some, Bool.and_self, if_true])) | (refine And.intro ?_ ?_))
       (refine lf (c74) [0, 1, 2, 3] ?_; (try simp only [go_sem, seval, tau, upd, List.set_cons_zero, List.set_cons_succ, List.map_cons, List.map_nil, List.drop_zero, List.drop_succ_cons, List.drop_nil, Nat.not_lt_zero, Nat.sub_zero, List.cons_append, List.nil_append]))
       repeat' (first | ((first | refine MX_okL rfl ?_ | refine LNext_if sd ?_ | refine ZNext_if sd ?_ | refine ZY_if sd ?_ | refine And.intro okq ?_); (try simp only [go_sem, seval])) | (refine And.intro ?_ ?_))
       refine ⟨k + 1, by omega, by omega, ?_⟩
       rw [trysF_succ]
       (have kr0 := wrapS (show k < 9223372036854775807 by omega); exact kp [.old 0, .old 1, .old 2, .old 3])
      have hk' : ¬ (4 : Int) < row.length := by omega
      obtain rfl : k = 4 := by omega
      simp only [go_sem, seval, L41_b0, S41, hk', Int.cast_ofNat_Int, xC, e2]
      repeat' (first | ((first | refine MX_okL rfl ?_ | refine LNext_if sd ?_ | refine ZNext_if sd ?_ | refine ZY_if sd ?_ | refine And.intro okq ?_); (try simp only [go_sem, seval, hk', Int.cast_ofNat_Int, e2])) | (refine And.intro ?_ ?_))
      exact Fin_of ⟨rfl, rfl⟩ (kp [.old 0])
     ·have e3 : ((w : Int) == 0) = false := by rw [beq_eq_false_iff_ne]; omega
      repeat' (first | ((first | refine MW_still dl41_1 mixedP dx41_1 ?_ | refine MX_okL rfl ?_ | refine LNext_if sd ?_ | refine ZNext_if sd ?_ | refine ZY_if sd ?_ | refine And.intro okq ?_); (try simp only [go_sem, seval, l41_1, e1, e2, e3, hqA, Int.toNat_natCast, rows_drop a1])) | (refine And.intro ?_ ?_))
      refine MW_loop_st (S41 i q row) (fun k => O41 S N A ws so w (trysF N A ws f i q so w none k)) (fun k => k ≤ 4) (fun k => 4 - k) 0 ?_ (Nat.zero_le _) ?_
      ·unfold O41
       exact kp [.old 0, .old 1, .old 2, .old 3]
      rintro k k1
      unfold O41
      rcases Nat.lt_or_ge k 4 with hk | hk
      ·have hk' : (k : Int) < row.length := by omega
       obtain ⟨row', a1', _, a3⟩ := h.at' hq hk
       obtain rfl : row = row' := by rw [a1] at a1'; injection a1'
       have c74 := try74 S N A ws f h hws h6 ih (trysF N A ws f i q so w none k) ⟨2, i, k⟩ i (nx N q k) 2 w 2 rfl so hi (h.fit.tab q k hq hk) (by omega) (by omega) hw (by omega) (by omega)
       unfold chV at c74
       dsimp only at c74
       simp only [go_sem, seval, L41_b0, S41, hk', ints_drop a3, Int.toNat_natCast, Option.isSome_some, Bool.and_self, if_true]
       repeat' (first | ((first | refine MX_okL rfl ?_ | refine LNext_if sd ?_ | refine ZNext_if sd ?_ | refine ZY_if sd ?_ | refine And.intro okq ?_); (try simp only [go_sem, seval, hk', ints_drop a3, Int.toNat_natCast, Option.isSome_some, Bool.and_self, if_true])) | (refine And.intro ?_ ?_))
       (refine lf (c74) [0, 1, 2, 3] ?_; (try simp only [go_sem, seval, tau, upd, List.set_cons_zero, List.set_cons_succ, List.map_cons, List.map_nil, List.drop_zero, List.drop_succ_cons, List.drop_nil, Nat.not_lt_zero, Nat.sub_zero, List.cons_append, List.nil_append]))
       repeat' (first | ((first | refine MX_okL rfl ?_ | refine LNext_if sd ?_ | refine ZNext_if sd ?_ | refine ZY_if sd ?_ | refine And.intro okq ?_); (try simp only [go_sem, seval])) | (refine And.intro ?_ ?_))
       refine ⟨k + 1, by omega, by omega, ?_⟩
       rw [trysF_succ]
       (have kr0 := wrapS (show k < 9223372036854775807 by omega); exact kp [.old 0, .old 1, .old 2, .old 3])
      have hk' : ¬ (4 : Int) < row.length := by omega
      obtain rfl : k = 4 := by omega
      simp only [go_sem, seval, L41_b0, S41, hk', Int.cast_ofNat_Int, xC, e2]
      repeat' (first | ((first | refine MX_okL rfl ?_ | refine LNext_if sd ?_ | refine ZNext_if sd ?_ | refine ZY_if sd ?_ | refine And.intro okq ?_); (try simp only [go_sem, seval, hk', Int.cast_ofNat_Int, e2])) | (refine And.intro ?_ ?_))
      exact Fin_of ⟨rfl, rfl⟩ (kp [.old 0])
   ·have hil2 : i < ws.length := by omega
    obtain ⟨c, ec, hd⟩ := dropG hil2
    have hc := hws c (List.mem_of_getElem? ec)
    have e1 : ((i : Int) == (ws.length : Int)) = false := by rw [beq_eq_false_iff_ne]; omega
    have e2 : (i : Int) < ws.length := by omega
    have wi := wrapS (show i < 9223372036854775807 by omega)
    obtain ⟨row, a1, a2, d3⟩ := h.at' hq (fl_lt hc)
    obtain ⟨row', a1', _, dc⟩ := h.at' hq hc
    obtain rfl : row = row' := by rw [a1] at a1'; injection a1'
    have fe := fl_abin hc
    simp only [go_sem, seval, Option.some.injEq, Value.int.injEq, true_and] at fe
    have bc : (c : Int) < row.length := by omega
    have bd : ((fl c : Nat) : Int) < row.length := by have := fl_lt hc; omega
    have c74 := try74 S N A ws f h hws h6 ih none ⟨1, i, fl c⟩ (i + 1) (nx N q (fl c)) 1 w 1 rfl so (by omega) (h.fit.tab q (fl c) hq (fl_lt hc)) (by omega) (by omega) hw (by omega) (by omega)
    rw [← fin_cons h.fit hws hd hq hW (by omega)]
    obtain ⟨g1, hg1⟩ : ∃ g1, g1 = tryF N A ws f so w ⟨1, i, fl c⟩ (i + 1) (nx N q (fl c)) 1 none := ⟨_, rfl⟩
    rw [← hg1] at c74 ⊢
    obtain ⟨g3, hg3⟩ : ∃ g3, g3 = tryF N A ws f so w ⟨3, i, 0⟩ (i + 1) q 2 (trysF N A ws f i q so w g1 4) := ⟨_, rfl⟩
    rw [← hg3]
    generalize hR : (if W N A (ws.drop (i + 1)) (nx N q c) = w then _ else _ : Option (List Ch)) = R
    unfold chV at c74
    dsimp only at c74
    refine callm41 ?_
    simp only [go_sem, seval, L41, xC, fV_none]
    repeat' (first | ((first | refine MW_still dl41_1 mixedP dx41_1 ?_ | refine MX_okL rfl ?_ | refine LNext_if sd ?_ | refine ZNext_if sd ?_ | refine ZY_if sd ?_ | refine And.intro okq ?_); (try simp only [go_sem, seval, l41_1, e1, e2, hqA, Int.toNat_natCast, rows_drop a1, lts_drop ec, fe, ints_drop d3, bd, wi, Option.isSome_some, Bool.and_self, if_true])) | (refine And.intro ?_ ?_))
    (refine lf (c74) [0, 1, 2, 3] ?_; (try simp only [go_sem, seval, tau, upd, List.set_cons_zero, List.set_cons_succ, List.map_cons, List.map_nil, List.drop_zero, List.drop_succ_cons, List.drop_nil, Nat.not_lt_zero, Nat.sub_zero, List.cons_append, List.nil_append, xC, fV_none]))
    repeat' (first | ((first | refine MX_okL rfl ?_ | refine LNext_if sd ?_ | refine ZNext_if sd ?_ | refine ZY_if sd ?_ | refine And.intro okq ?_); (try simp only [go_sem, seval])) | (refine And.intro ?_ ?_))
    refine MW_loop_st (S41 i q row) (fun k => O41 S N A ws so w (trysF N A ws f i q so w g1 k)) (fun k => k ≤ 4) (fun k => 4 - k) 0 ?_ (Nat.zero_le _) ?_
    ·unfold O41
     exact kp [.old 0, .old 1, .old 2, .old 3]
    rintro k k1
    unfold O41
    rcases Nat.lt_or_ge k 4 with hk | hk
    ·have hk' : (k : Int) < row.length := by omega
     obtain ⟨row', a1', _, a3⟩ := h.at' hq hk
     obtain rfl : row = row' := by rw [a1] at a1'; injection a1'
     have c74 := try74 S N A ws f h hws h6 ih (trysF N A ws f i q so w g1 k) ⟨2, i, k⟩ i (nx N q k) 2 w 2 rfl so hi (h.fit.tab q k hq hk) (by omega) (by omega) hw (by omega) (by omega)
     unfold chV at c74
     dsimp only at c74
     simp only [go_sem, seval, L41_b0, S41, hk', ints_drop a3, Int.toNat_natCast, Option.isSome_some, Bool.and_self, if_true]
     repeat' (first | ((first | refine MX_okL rfl ?_ | refine LNext_if sd ?_ | refine ZNext_if sd ?_ | refine ZY_if sd ?_ | refine And.intro okq ?_); (try simp only [go_sem, seval, hk', ints_drop a3, Int.toNat_natCast, Option.isSome_some, Bool.and_self, if_true])) | (refine And.intro ?_ ?_))
     (refine lf (c74) [0, 1, 2, 3] ?_; (try simp only [go_sem, seval, tau, upd, List.set_cons_zero, List.set_cons_succ, List.map_cons, List.map_nil, List.drop_zero, List.drop_succ_cons, List.drop_nil, Nat.not_lt_zero, Nat.sub_zero, List.cons_append, List.nil_append]))
     repeat' (first | ((first | refine MX_okL rfl ?_ | refine LNext_if sd ?_ | refine ZNext_if sd ?_ | refine ZY_if sd ?_ | refine And.intro okq ?_); (try simp only [go_sem, seval])) | (refine And.intro ?_ ?_))
     refine ⟨k + 1, by omega, by omega, ?_⟩
     rw [trysF_succ]
     (have kr0 := wrapS (show k < 9223372036854775807 by omega); exact kp [.old 0, .old 1, .old 2, .old 3])
    have hk' : ¬ (4 : Int) < row.length := by omega
    obtain rfl : k = 4 := by omega
    simp only [go_sem, seval, L41_b0, S41, hk', Int.cast_ofNat_Int, xC, e2, wi, Option.isSome_some, Bool.and_self, if_true]
    repeat' (first | ((first | refine MX_okL rfl ?_ | refine LNext_if sd ?_ | refine ZNext_if sd ?_ | refine ZY_if sd ?_ | refine And.intro okq ?_); (try simp only [go_sem, seval, hk', Int.cast_ofNat_Int, e2, wi, Option.isSome_some, Bool.and_self, if_true])) | (refine And.intro ?_ ?_))
    have c74 := try74 S N A ws f h hws h6 ih (trysF N A ws f i q so w g1 4) ⟨3, i, 0⟩ (i + 1) q 2 w 2 rfl so (by omega) (by omega) (by omega) (by omega) hw (by omega) (by omega)
    rw [← hg3] at c74
    unfold chV at c74
    dsimp only at c74
    (refine lf (c74) [0, 1, 2, 3] ?_; (try simp only [go_sem, seval, tau, upd, List.set_cons_zero, List.set_cons_succ, List.map_cons, List.map_nil, List.drop_zero, List.drop_succ_cons, List.drop_nil, Nat.not_lt_zero, Nat.sub_zero, List.cons_append, List.nil_append, xC]))
    have c40 := weight40 S N A ws g3 h hws h6 (i + 1) (nx N q c) (by omega) (h.fit.tab q c hq hc).2
    by_cases hW4 : W N A (ws.drop (i + 1)) (nx N q c) = w
    ·rw [if_pos hW4] at hR
     have t0 : ¬ nx N q c < 0 := fun t => by rw [W_neg t] at hW4; omega
     obtain ⟨t, et⟩ : ∃ t : Nat, nx N q c = t := ⟨(nx N q c).toNat, by omega⟩
     have hb4 := (h.fit.tab q c hq hc).2
     have hW5 := hW4
     rw [et] at hW5 hb4 dc hR c40
     rw [Int.toNat_natCast] at hR
     have cr := ih (i + 1) t w so g3 (by omega) (by omega) hW5 hw (by omega) (by omega)
     rw [hR] at cr
     repeat' (first | ((first | (refine ZCall_borrow (borrowX rfl) c40 rfl ?_) | refine MW_still dl41_17 mixedP dx41_17 ?_ | refine MX_okL rfl ?_ | refine LNext_if sd ?_ | refine ZNext_if sd ?_ | refine ZY_if sd ?_ | refine And.intro okq ?_); (try simp only [go_sem, seval, l41_17, e2, wi, xC, lts_drop ec, Int.toNat_natCast, ints_drop dc, bc, hW5, beq_self_eq_true])) | (refine And.intro ?_ ?_))
     (refine lf (cr) [0] ?_; (try simp only [go_sem, seval, tau, upd, List.set_cons_zero, List.set_cons_succ, List.map_cons, List.map_nil, List.drop_zero, List.drop_succ_cons, List.drop_nil, Nat.not_lt_zero, Nat.sub_zero, List.cons_append, List.nil_append, xC]))
     repeat' (first | ((first | refine MX_okL rfl ?_ | refine LNext_if sd ?_ | refine ZNext_if sd ?_ | refine ZY_if sd ?_ | refine And.intro okq ?_); (try simp only [go_sem, seval])) | (refine And.intro ?_ ?_))
     exact Fin_of ⟨rfl, rfl⟩ (kp [.old 0])
    ·rw [if_neg hW4] at hR
     subst hR
     have hW5 : (W N A (ws.drop (i + 1)) (nx N q c) == (w : Int)) = false := by rw [beq_eq_false_iff_ne]; exact hW4
     repeat' (first | ((first | (refine ZCall_borrow (borrowX rfl) c40 rfl ?_) | refine MW_still dl41_17 mixedP dx41_17 ?_ | refine MX_okL rfl ?_ | refine LNext_if sd ?_ | refine ZNext_if sd ?_ | refine ZY_if sd ?_ | refine And.intro okq ?_); (try simp only [go_sem, seval, l41_17, e2, wi, xC, lts_drop ec, Int.toNat_natCast, ints_drop dc, bc, hW5])) | (refine And.intro ?_ ?_))
     exact Fin_of ⟨rfl, rfl⟩ (kp [.old 0])
end Go.Proofs.YtcjckmnhlfbdlaaGreatDoor
namespace Go.Proofs.YtcjckmnhlfbdlaaGreatDoor
open Go Go.Abs Go.Rep Go.Ne
theorem borrowN {H : List AO} {S : Int} {N : List (List Int)} {A : List Bool} {ws : List Nat} {g : Option (List Ch)} {a b : Value} {id : Nat} (h : H[id]? = some (.cells 1 (xC S N A ws g))) : Rfs H [.pt id 0, .v a, .v b] [.ip (xC S N A ws g), .v a, .v b] :=
 Rfs_co (Rf.pt (.inl h) (by simp [xC]) (Rfs.cls (Cls.of (xC_clb S N A ws g)))) (Rfs_co (Rf.cl (Cl.v _)) (Rfs_co (Rf.cl (Cl.v _)) Rfs_nil))
noncomputable def chG (S : Int) (N : List (List Int)) (A : List Bool) (ws : List Nat) : Option (List Ch) :=
 if S < 0 ∨ W N A ws S = 9 then none else some (bestF N A 20 0 ws S.toNat (W N A ws S))
set_option maxHeartbeats 2000000 in
theorem changes20 (S : Int) (N : List (List Int)) (A : List Bool) (ws : List Nat) (h : 0 ≤ S → Fit4 S N A) (hws : ∀ c ∈ ws, c < 4) (h6 : ws.length ≤ 6) : ∃ n : Int, APure Tryz.prog 20 [aV 4 S N A, .im ws.length (lts ws), .v (.int .i64 1)] (.tu [fV (chG S N A ws), .v (.int .i64 n)]) := by
 by_cases hS : S < 0
 ·refine ⟨9, callp20 ?_⟩
  have e : chG S N A ws = none := if_pos (.inl hS)
  rw [e]
  simp only [go_sem, seval, L20, aV, hS]
  repeat' (first | ((first | refine MX_okL rfl ?_ | refine LNext_if sd ?_ | refine ZNext_if sd ?_ | refine ZY_if sd ?_ | refine And.intro okq ?_); (try simp only [go_sem, seval, hS])) | (refine And.intro ?_ ?_))
  exact Fin_of ⟨rfl, rfl⟩ (kp [])
 ·have f := h (by omega)
  obtain ⟨q, rfl⟩ : ∃ q : Nat, S = q := ⟨S.toNat, by omega⟩
  have hq : q < N.length := by have := f.st; omega
  have hb := W_bound f.fit hws (t := (q : Int)) (by omega)
  have c39 := table39 q N A ws f hws h6
  have c40 := weight40 q N A ws none f hws h6 0 q (Nat.zero_le _) (by omega)
  rw [List.drop_zero, show ((0 : Nat) : Int) = 0 from rfl] at c40
  obtain ⟨w, hw⟩ : ∃ w : Nat, W N A ws q = w := ⟨(W N A ws q).toNat, by omega⟩
  refine ⟨w, callp20 ?_⟩
  rw [hw] at c40 hb
  have hS' : ¬ (q : Int) < 0 := by omega
  unfold aV at c39
  simp only [go_sem, seval, L20, aV, hS']
  repeat' (first | ((first | (refine MW_dy dl20_3 mixedP dx20_3 ax20_3 1 ?_ ?_; exact yl) | (refine ZC_pure (LCl_cl (c39) ?_ ?_) ?_ ?_; iterate 3 exact cx) | refine MX_okL rfl ?_ | refine LNext_if sd ?_ | refine ZNext_if sd ?_ | refine ZY_if sd ?_ | refine And.intro okq ?_); (try simp only [go_sem, seval, l20_3, hS', Option.isSome_some, Bool.and_self, if_true])) | (refine And.intro ?_ ?_))
  refine LCall_borrow (borrowN rfl) c40 rfl ?_
  by_cases h9 : w < 9
  ·have cr := list41 q N A ws f hws h6 20 0 q w [] none (Nat.zero_le _) hq (by rw [List.drop_zero]; exact hw) h9 (by omega) (by decide)
   rw [List.drop_zero, show ((0 : Nat) : Int) = 0 from rfl, List.nil_append] at cr
   have e : chG q N A ws = (none : Option (List Ch)).or (some (bestF N A 20 0 ws q w)) := by
    unfold chG; rw [if_neg (by omega), hw]; rfl
   rw [← e] at cr
   have h9' : (w : Int) < 9 := by omega
   simp only [go_sem, seval, h9']
   repeat' (first | ((first | refine MX_okL rfl ?_ | refine LNext_if sd ?_ | refine ZNext_if sd ?_ | refine ZY_if sd ?_ | refine And.intro okq ?_); (try simp only [go_sem, seval, h9'])) | (refine And.intro ?_ ?_))
   (refine lf (cr) [1] ?_; (try simp only [go_sem, seval, tau, upd, List.set_cons_zero, List.set_cons_succ, List.map_cons, List.map_nil, List.drop_zero, List.drop_succ_cons, List.drop_nil, Nat.not_lt_zero, Nat.sub_zero, List.cons_append, List.nil_append, xC]))
   repeat' (first | ((first | refine MX_okL rfl ?_ | refine LNext_if sd ?_ | refine ZNext_if sd ?_ | refine ZY_if sd ?_ | refine And.intro okq ?_); (try simp only [go_sem, seval])) | (refine And.intro ?_ ?_))
   exact Fin_of ⟨rfl, rfl⟩ (kp [])
  ·have h9' : ¬ (w : Int) < 9 := by omega
   have e : chG q N A ws = none := if_pos (.inr (by omega))
   rw [e]
   simp only [go_sem, seval, h9']
   repeat' (first | ((first | refine MX_okL rfl ?_ | refine LNext_if sd ?_ | refine ZNext_if sd ?_ | refine ZY_if sd ?_ | refine And.intro okq ?_); (try simp only [go_sem, seval, h9'])) | (refine And.intro ?_ ?_))
   exact Fin_of ⟨rfl, rfl⟩ (kp [])
theorem ints_toNat : ∀ {l : List Int}, (∀ x ∈ l, 0 ≤ x) → ints l = lts (l.map Int.toNat)
 | [], _ => rfl
 | x :: l, h => by
  have h1 := ints_toNat (l := l) (fun y hy => h y (List.mem_cons_of_mem _ hy))
  have h2 := h x (List.mem_cons_self ..)
  simp only [ints, lts, List.map_cons, List.map_map] at h1 ⊢
  rw [h1, Int.toNat_of_nonneg h2]
noncomputable def nearR (L S : Int) (N : List (List Int)) (A : List Bool) (l : List Int) : List Ch × Int :=
 if vE L S N A ≠ 0 ∨ L ≠ 4 then ([], 1) else if 60 < l.length then ([], 3) else if l.any badL = true then ([], 6) else match chG S N A (l.map Int.toNat) with
 | none => ([], 10)
 | some p => (p, 0)
def neV (r : List Ch × Int) : AV := .tu [.im r.1.length (chs r.1), .v (.int .i64 r.2)]
theorem lls1 (p : List Ch) : lls [p] = [.im p.length (chs p)] := rfl
theorem badL_iff {x : Int} : badL x = false ↔ 0 ≤ x ∧ x < 4 := by unfold badL; simp; omega
set_option maxHeartbeats 2000000 in
theorem nearest6 (L S : Int) (N : List (List Int)) (A : List Bool) (l : List Int) (h6 : l.length ≤ 6 ∨ 60 < l.length) (hl : l.length ≤ 100) : APure Tryz.prog 6 [aV L S N A, .im l.length (ints l)] (neV (nearR L S N A l)) := by
 have c18 := valid18 L S N A
 have c19 := wrong19 l (by omega)
 refine callp6 ?_
 unfold aV at c18
 by_cases h1 : vE L S N A = 0
 ·by_cases h2 : L = 4
  ·subst h2
   by_cases h3 : 60 < l.length
   ·have e : nearR 4 S N A l = ([], 3) := by unfold nearR; rw [if_neg (by simp [h1]), if_pos h3]
    rw [e]
    have h3' : (l.length : Int) > 60 := by omega
    simp only [go_sem, seval, L6, aV]
    repeat' (first | ((first | ((first | refine LCall_pure (c18) (Cls.of ?_) ?_); exact cx) | refine MX_okL rfl ?_ | refine LNext_if sd ?_ | refine ZNext_if sd ?_ | refine ZY_if sd ?_ | refine And.intro okq ?_); (try simp only [go_sem, seval, h1, h3', bne_self_eq_false])) | (refine And.intro ?_ ?_))
    unfold neV
    exact Fin_of ⟨rfl, rfl⟩ (kp [])
   ·have h3' : ¬ (l.length : Int) > 60 := by omega
    cases h4 : l.any badL with
    | true =>
     have e : nearR 4 S N A l = ([], 6) := by unfold nearR; rw [if_neg (by simp [h1]), if_neg h3, if_pos h4]
     rw [e]
     simp only [go_sem, seval, L6, aV]
     repeat' (first | ((first | ((first | refine LCall_pure (c18) (Cls.of ?_) ?_ | refine LCall_pure (c19) (Cls.of ?_) ?_); exact cx) | refine MX_okL rfl ?_ | refine LNext_if sd ?_ | refine ZNext_if sd ?_ | refine ZY_if sd ?_ | refine And.intro okq ?_); (try simp only [go_sem, seval, h1, h3', h4, bne_self_eq_false])) | (refine And.intro ?_ ?_))
     unfold neV
     exact Fin_of ⟨rfl, rfl⟩ (kp [])
    | false =>
     have hb : ∀ x ∈ l, 0 ≤ x ∧ x < 4 := fun x hx => badL_iff.1 (by
      have := List.any_eq_false.1 h4 x hx
      simpa using this)
     have e0 := ints_toNat (l := l) (fun x hx => (hb x hx).1)
     have hws : ∀ c ∈ l.map Int.toNat, c < 4 := fun c hc => by
      obtain ⟨x, hx, rfl⟩ := List.mem_map.1 hc
      have := hb x hx; omega
     obtain ⟨n, c20⟩ := changes20 S N A (l.map Int.toNat) (fun q => fit_of h1 q) hws (by rw [List.length_map]; omega)
     rw [← e0, List.length_map] at c20
     unfold aV at c20
     have e : nearR 4 S N A l = match chG S N A (l.map Int.toNat) with
      | none => ([], 10)
      | some p => (p, 0) := by unfold nearR; rw [if_neg (by simp [h1]), if_neg h3, if_neg (by simp [h4])]
     rw [e]
     cases hg : chG S N A (l.map Int.toNat) with
     | none =>
      rw [hg] at c20
      simp only [go_sem, seval, L6, aV]
      repeat' (first | ((first | ((first | refine LCall_pure (c18) (Cls.of ?_) ?_ | refine LCall_pure (c19) (Cls.of ?_) ?_ | refine LCall_pure (c20) (Cls.of ?_) ?_); exact cx) | refine MX_okL rfl ?_ | refine LNext_if sd ?_ | refine ZNext_if sd ?_ | refine ZY_if sd ?_ | refine And.intro okq ?_); (try simp only [go_sem, seval, h1, h3', h4, bne_self_eq_false, fV_none])) | (refine And.intro ?_ ?_))
      unfold neV
      exact Fin_of ⟨rfl, rfl⟩ (kp [])
     | some p =>
      rw [hg] at c20
      simp only [go_sem, seval, L6, aV]
      repeat' (first | ((first | ((first | refine LCall_pure (c18) (Cls.of ?_) ?_ | refine LCall_pure (c19) (Cls.of ?_) ?_ | refine LCall_pure (c20) (Cls.of ?_) ?_); exact cx) | refine MX_okL rfl ?_ | refine LNext_if sd ?_ | refine ZNext_if sd ?_ | refine ZY_if sd ?_ | refine And.intro okq ?_); (try simp only [go_sem, seval, h1, h3', h4, bne_self_eq_false, fV, lls1])) | (refine And.intro ?_ ?_))
      unfold neV
      exact Fin_of ⟨rfl, rfl⟩ (kp [])
  ·have e : nearR L S N A l = ([], 1) := by unfold nearR; rw [if_pos (.inr h2)]
   rw [e]
   have h2' : (L != 4) = true := by simpa using h2
   simp only [go_sem, seval, L6, aV]
   repeat' (first | ((first | ((first | refine LCall_pure (c18) (Cls.of ?_) ?_); exact cx) | refine MX_okL rfl ?_ | refine LNext_if sd ?_ | refine ZNext_if sd ?_ | refine ZY_if sd ?_ | refine And.intro okq ?_); (try simp only [go_sem, seval, h1, h2', bne_self_eq_false])) | (refine And.intro ?_ ?_))
   unfold neV
   exact Fin_of ⟨rfl, rfl⟩ (kp [])
 ·have e : nearR L S N A l = ([], 1) := by unfold nearR; rw [if_pos (.inl h1)]
  rw [e]
  have h1' : (vE L S N A != 0) = true := by simpa using h1
  simp only [go_sem, seval, L6, aV]
  repeat' (first | ((first | ((first | refine LCall_pure (c18) (Cls.of ?_) ?_); exact cx) | refine MX_okL rfl ?_ | refine LNext_if sd ?_ | refine ZNext_if sd ?_ | refine ZY_if sd ?_ | refine And.intro okq ?_); (try simp only [go_sem, seval, h1'])) | (refine And.intro ?_ ?_))
  unfold neV
  exact Fin_of ⟨rfl, rfl⟩ (kp [])
end Go.Proofs.YtcjckmnhlfbdlaaGreatDoor
namespace Go.Proofs.YtcjckmnhlfbdlaaGreatDoor
open Go Go.Abs Go.Rep Go.Ne
def S45 (n : Nat) (l : List (List Ch)) (k : Nat) : List AV := [.sl 0 0 (n + k), .any, .im l.length (lls l), .any, .pt 1 0, .any, .any, .v (.int .i64 k), .any, .any, .any, .any, .any, .any, .any, .any, .any, .any, .any, .any, .any, .any, .any, .any, .any]
set_option maxHeartbeats 2000000 in
theorem before45 (o : List (List Ch)) (c : Ch) (l : List (List Ch)) (hb : o.length + l.length ≤ 4747561509943) (hl : ∀ L ∈ l, L.length ≤ 100) : AFn Tryz.prog 45 0 [.sl 0 0 o.length, chV c, .im l.length (lls l)] [.cells 1 (lls o)] (fun v Ho => v = .sl 0 0 (bef o c l).length ∧ Ho = [.cells 1 (lls (bef o c l))]) := by
 refine callm45 ?_
 simp only [go_sem, seval, L45, chV]
 repeat' (first | ((first | refine MX_okL rfl ?_ | refine LNext_if sd ?_ | refine ZNext_if sd ?_ | refine ZY_if sd ?_ | refine And.intro okq ?_); (try simp only [go_sem, seval])) | (refine And.intro ?_ ?_))
 refine MW_loop_st (S45 o.length l) (fun k => [.cells 1 (lls (bef o c (l.take k))), .cells 1 [.v (.int .i64 c.k), .v (.int .i64 c.a), .v (.int .i64 c.c)]]) (fun k => k ≤ l.length) (fun k => l.length - k) 0 ?_ (Nat.zero_le _) ?_
 ·have kr : bef o c (List.take 0 l) = o := by simp [bef]
  exact kp [.old 0, .old 1]
 rintro k k1
 have bl : (bef o c (l.take k)).length = o.length + k := by rw [bef_len, List.length_take]; omega
 rcases Nat.lt_or_ge k l.length with hk | hk
 ·have hk' : (k : Int) < l.length := by omega
  obtain ⟨L, hL, _⟩ := dropG hk
  have hLl := hl L (List.mem_of_getElem? hL)
  have en : bef o c (l.take (k + 1)) = bef o c (l.take k) ++ [c :: L] := by
   unfold bef; rw [List.take_add_one, hL]; simp
  have lt := chs_take L
  have ec : [.v (.int .i64 c.k), .v (.int .i64 c.a), .v (.int .i64 c.c)] ++ chs L = chs (c :: L) := rfl
  simp only [go_sem, seval, L45_b0, S45, hk', lls_drop hL, Int.toNat_natCast]
  repeat' (first | ((first | (refine MW_dy dl45_4 mixedP dx45_4 ax45_4 4 ?_ ?_; exact yl) | refine MX_okL rfl ?_ | refine LNext_if sd ?_ | refine ZNext_if sd ?_ | refine ZY_if sd ?_ | refine And.intro okq ?_); (try simp only [go_sem, seval, l45_4, hk', lls_drop hL, Int.toNat_natCast, lt, chs_len, lls_len, bl])) | (refine And.intro ?_ ?_))
  refine ⟨k + 1, by omega, by omega, ?_⟩
  rw [en]
  (refine VS_of [.old 5, .old 1] (by decide) ?_ ?_ (by decide); all_goals (repeat' (first | exact trivial | refine And.intro ?_ ?_ | exact ⟨rfl, rfl⟩ | exact Sg.any | ((first | refine ⟨_, rfl, ?_⟩ | refine ⟨_, .inl ⟨rfl, rfl⟩, ?_⟩ | refine ⟨_, .inr rfl, ?_⟩ | refine Sg.of ?_); (repeat' (first | (exact Svs.snoc (lls_snoc _ _) (Svs.cl (Cls.of (lls_clb _))) (Sv.slFE (.inl ⟨rfl, rfl⟩) (Nat.add_comm _ _) (Svs.eq rfl (chs_clb (c :: L))))) | ((first | refine Sv.cl (Cl.of ?_) | refine Svs.cl (Cls.of ?_)); simp only [go_sem, Bool.and_self, Bool.and_true]; done) | exact Sv.pt rfl | exact Sv.mp rfl | exact Sv.nil rfl | exact Sv.em rfl | (refine Sv.slE rfl ?_ ?_ <;> (first | rfl | omega | (simp only [wrapS (show k < 9223372036854775807 by omega), Nat.add_assoc]; done) | (simp only [go_sem, wrapS (show k < 9223372036854775807 by omega), Nat.add_assoc]; done) | (simp [wrapS (show k < 9223372036854775807 by omega), Nat.add_assoc]; done) | (simp [wrapS (show k < 9223372036854775807 by omega), Nat.add_assoc]; omega))) | ((first | refine Sv.eq ?_ ?_ | refine Svs.eq ?_ ?_) <;> (first | rfl | omega | (simp only [wrapS (show k < 9223372036854775807 by omega), Nat.add_assoc]; done) | (simp only [go_sem, wrapS (show k < 9223372036854775807 by omega), Nat.add_assoc]; done) | (simp [wrapS (show k < 9223372036854775807 by omega), Nat.add_assoc]; done) | (simp [wrapS (show k < 9223372036854775807 by omega), Nat.add_assoc]; omega))) | exact Sv.nil0 | exact Sv.em0 | exact Sv.sl0 | ((first | refine Sv.slFE (.inl ⟨rfl, rfl⟩) ?_ (Svs.eq ?_ ?_) | refine Sv.slFE (.inr rfl) ?_ (Svs.eq ?_ ?_)) <;> (first | rfl | omega | (simp only [wrapS (show k < 9223372036854775807 by omega), Nat.add_assoc]; done) | (simp only [go_sem, wrapS (show k < 9223372036854775807 by omega), Nat.add_assoc]; done) | (simp [wrapS (show k < 9223372036854775807 by omega), Nat.add_assoc]; done) | (simp [wrapS (show k < 9223372036854775807 by omega), Nat.add_assoc]; omega))) | exact Svs.nilI | refine Svs.consI ?_ ?_ | refine Sv.tu ?_ | refine Sv.ag ?_)); done) | rfl)))
 ·have hk' : ¬ (k : Int) < l.length := by omega
  obtain rfl : k = l.length := by omega
  rw [List.take_length] at bl
  simp only [go_sem, seval, L45_b0, S45, hk', List.take_length, ← bl]
  repeat' (first | ((first | refine MX_okL rfl ?_ | refine LNext_if sd ?_ | refine ZNext_if sd ?_ | refine ZY_if sd ?_ | refine And.intro okq ?_); (try simp only [go_sem, seval, hk'])) | (refine And.intro ?_ ?_))
  exact Fin_of ⟨rfl, rfl⟩ (kp [.old 0])
theorem ZDo_build {P : Program} {H : List AO} {Q : List AV → Prop} {os : List LOp} {dst : Option Tmp} {g : List AV} {t : TypeId} {ps : Array (Nat × Operand)} : ZDo P H Q os dst g (.build t ps) = ZNext P H Q os dst g (aop P g H (.build t ps)) := ZDo_aop (by simp)
attribute [go_sem] ZDo_build
def cmpI (a b : Int) : Int := if a < b then -1 else if b < a then 1 else 0
theorem cmpI_eq {a b : Int} (h : a = b) : cmpI a b = 0 := by unfold cmpI; omega
theorem cmpI_ne {a b : Int} (h : a ≠ b) : (cmpI a b != 0) = true ∧ decide (cmpI a b < 0) = decide (a < b) := by
 unfold cmpI
 by_cases h1 : a < b
 ·simp [h1]
 ·have h2 : b < a := by omega
  simp [h1, h2]
def S25 (l k : List Ch) (i : Nat) : List AV := [.im l.length (chs l), .im k.length (chs k), .any, .any, .any, .v (.int .i64 i), .any, .any, .any, .any, .any, .any, .any, .any, .any, .any, .any, .any, .any, .any, .any, .any, .any, .any, .any, .any, .any, .any, .any, .any, .any, .any, .any, .any, .any, .any, .any, .any, .any, .any, .any, .any, .any, .any, .any, .any, .any, .any, .any, .any, .any, .any, .any, .any, .any, .any, .any, .any, .any, .any, .any, .any, .any, .any, .any, .any, .any]
def S25a (l k : List Ch) (i : Nat) (x y z : Int) (j : Nat) : List AV := [.im l.length (chs l), .im k.length (chs k), .any, .any, .any, .v (.int .i64 i), .any, .any, .any, .any, .any, .any, .any, .any, .any, .any, .any, .any, .any, .any, .any, .any, .any, .any, .any, .any, .any, .any, .any, .any, .any, .any, .any, .any, .any, .any, .any, .any, .any, .any, .any, .any, .any, .any, .any, .any, .any, .any, .any, .any, .any, .any, .any, .ag [.v (.int .i64 x), .v (.int .i64 y), .v (.int .i64 z)], .v (.int .i64 j), .any, .any, .any, .any, .any, .any, .any, .any, .any, .any, .any, .any]
set_option maxHeartbeats 2000000 in
theorem less25 (l k : List Ch) (hl : l.length ≤ 1000000) (hk : k.length ≤ 1000000) : APure Tryz.prog 25 [.im l.length (chs l), .im k.length (chs k)] (.v (.bool (lessF l k))) := by
 refine callp25 ?_
 simp only [go_sem, seval, L25]
 repeat' (first | ((first | refine MX_okL rfl ?_ | refine LNext_if sd ?_ | refine ZNext_if sd ?_ | refine ZY_if sd ?_ | refine And.intro okq ?_); (try simp only [go_sem, seval])) | (refine And.intro ?_ ?_))
 refine MW_loop_st (S25 l k) (fun _ => []) (fun i => i ≤ l.length ∧ i ≤ k.length ∧ lessF (l.drop i) (k.drop i) = lessF l k) (fun i => l.length - i) 0 ?_ ⟨Nat.zero_le _, Nat.zero_le _, rfl⟩ ?_
 ·exact kp []
 rintro i ⟨i1, i2, i3⟩
 by_cases h1 : i < l.length
 ·by_cases h2 : i < k.length
  ·obtain ⟨x, hx, dx⟩ := dropG h1
   obtain ⟨y, hy, dy⟩ := dropG h2
   have h1' : (i : Int) < l.length := by omega
   have h2' : (i : Int) < k.length := by omega
   have c1 : APure Tryz.prog 46 _ (.v (.int .i64 (cmpI x.a y.a))) := compare46 x.a y.a
   have c2 : APure Tryz.prog 46 _ (.v (.int .i64 (cmpI x.k y.k))) := compare46 x.k y.k
   have c3 : APure Tryz.prog 46 _ (.v (.int .i64 (cmpI x.c y.c))) := compare46 x.c y.c
   rw [dx, dy] at i3
   simp only [lessF] at i3
   simp only [go_sem, seval, L25_b1, S25, h1', h2', chs_drop hx, chs_drop hy, Int.toNat_natCast]
   repeat' (first | ((first | ((first | refine ZCall_pure (c1) (Cls.of ?_) ?_ | refine ZCall_pure (c2) (Cls.of ?_) ?_ | refine ZCall_pure (c3) (Cls.of ?_) ?_); exact cx) | refine MW_still dl25_4 mixedP dx25_4 ?_ | refine MX_okL rfl ?_ | refine LNext_if sd ?_ | refine ZNext_if sd ?_ | refine ZY_if sd ?_ | refine And.intro okq ?_); (try simp only [go_sem, seval, l25_4, h1', h2', chs_drop hx, chs_drop hy, Int.toNat_natCast])) | (refine And.intro ?_ ?_))
   refine MW_loop_st (S25a l k i (cmpI x.a y.a) (cmpI x.k y.k) (cmpI x.c y.c)) (fun _ => []) (fun j => j ≤ 3 ∧ (1 ≤ j → x.a = y.a) ∧ (2 ≤ j → x.k = y.k) ∧ (3 ≤ j → x.c = y.c)) (fun j => 3 - j) 0 ?_ ⟨by omega, fun q => by omega, fun q => by omega, fun q => by omega⟩ ?_
   ·exact kp []
   rintro j ⟨j0, j1, j2, j3⟩
   match j, j0, j1, j2, j3 with
   | 0, _, _, _, _ =>
    by_cases hq : x.a = y.a
    ·have e0 := cmpI_eq hq
     simp only [go_sem, seval, L25_b0, S25a, e0]
     repeat' (first | ((first | refine MX_okL rfl ?_ | refine LNext_if sd ?_ | refine ZNext_if sd ?_ | refine ZY_if sd ?_ | refine And.intro okq ?_); (try simp only [go_sem, seval, e0, bne_self_eq_false])) | (refine And.intro ?_ ?_))
     refine ⟨1, by omega, ⟨by omega, fun _ => hq, fun q => by omega, fun q => by omega⟩, ?_⟩
     exact kp []
    ·obtain ⟨e0, e5⟩ := cmpI_ne hq
     rw [if_neg hq, ← e5] at i3
     rw [← i3]
     simp only [go_sem, seval, L25_b0, S25a, e0]
     repeat' (first | ((first | refine MX_okL rfl ?_ | refine LNext_if sd ?_ | refine ZNext_if sd ?_ | refine ZY_if sd ?_ | refine And.intro okq ?_); (try simp only [go_sem, seval, e0, e5])) | (refine And.intro ?_ ?_))
     exact Fin_of ⟨rfl, rfl⟩ (kp [])
   | 1, _, j1, _, _ =>
    rw [if_pos (j1 (by omega))] at i3
    by_cases hq : x.k = y.k
    ·have e0 := cmpI_eq hq
     simp only [go_sem, seval, L25_b0, S25a, e0]
     repeat' (first | ((first | refine MX_okL rfl ?_ | refine LNext_if sd ?_ | refine ZNext_if sd ?_ | refine ZY_if sd ?_ | refine And.intro okq ?_); (try simp only [go_sem, seval, e0, bne_self_eq_false])) | (refine And.intro ?_ ?_))
     refine ⟨2, by omega, ⟨by omega, fun _ => j1 (by omega), fun _ => hq, fun q => by omega⟩, ?_⟩
     exact kp []
    ·obtain ⟨e0, e5⟩ := cmpI_ne hq
     rw [if_neg hq, ← e5] at i3
     rw [← i3]
     simp only [go_sem, seval, L25_b0, S25a, e0]
     repeat' (first | ((first | refine MX_okL rfl ?_ | refine LNext_if sd ?_ | refine ZNext_if sd ?_ | refine ZY_if sd ?_ | refine And.intro okq ?_); (try simp only [go_sem, seval, e0, e5])) | (refine And.intro ?_ ?_))
     exact Fin_of ⟨rfl, rfl⟩ (kp [])
   | 2, _, j1, j2, _ =>
    rw [if_pos (j1 (by omega)), if_pos (j2 (by omega))] at i3
    by_cases hq : x.c = y.c
    ·have e0 := cmpI_eq hq
     simp only [go_sem, seval, L25_b0, S25a, e0]
     repeat' (first | ((first | refine MX_okL rfl ?_ | refine LNext_if sd ?_ | refine ZNext_if sd ?_ | refine ZY_if sd ?_ | refine And.intro okq ?_); (try simp only [go_sem, seval, e0, bne_self_eq_false])) | (refine And.intro ?_ ?_))
     refine ⟨3, by omega, ⟨by omega, fun _ => j1 (by omega), fun _ => j2 (by omega), fun _ => hq⟩, ?_⟩
     exact kp []
    ·obtain ⟨e0, e5⟩ := cmpI_ne hq
     rw [if_neg hq, ← e5] at i3
     rw [← i3]
     simp only [go_sem, seval, L25_b0, S25a, e0]
     repeat' (first | ((first | refine MX_okL rfl ?_ | refine LNext_if sd ?_ | refine ZNext_if sd ?_ | refine ZY_if sd ?_ | refine And.intro okq ?_); (try simp only [go_sem, seval, e0, e5])) | (refine And.intro ?_ ?_))
     exact Fin_of ⟨rfl, rfl⟩ (kp [])
   | 3, _, j1, j2, j3 =>
    rw [if_pos (j1 (by omega)), if_pos (j2 (by omega)), if_pos (j3 (by omega))] at i3
    simp only [go_sem, seval, L25_b0, S25a]
    repeat' (first | ((first | refine MX_okL rfl ?_ | refine LNext_if sd ?_ | refine ZNext_if sd ?_ | refine ZY_if sd ?_ | refine And.intro okq ?_); (try simp only [go_sem, seval])) | (refine And.intro ?_ ?_))
    refine ⟨i + 1, by omega, ⟨by omega, by omega, i3⟩, ?_⟩
    (have kr0 := wrapS (show i < 9223372036854775807 by omega); exact kp [])
  ·have h1' : (i : Int) < l.length := by omega
   have h2' : ¬ (i : Int) < k.length := by omega
   have e2 : k.drop i = [] := List.drop_of_length_le (by omega)
   have e : lessF l k = decide ((l.length : Int) < k.length) := by
    rw [← i3, e2, decide_eq_false (by omega)]; unfold lessF; cases l.drop i <;> rfl
   rw [e]
   simp only [go_sem, seval, L25_b1, S25, h1', h2']
   repeat' (first | ((first | refine MX_okL rfl ?_ | refine LNext_if sd ?_ | refine ZNext_if sd ?_ | refine ZY_if sd ?_ | refine And.intro okq ?_); (try simp only [go_sem, seval, h1', h2'])) | (refine And.intro ?_ ?_))
   exact Fin_of ⟨rfl, rfl⟩ (kp [])
 ·have h1' : ¬ (i : Int) < l.length := by omega
  have e1 : l.drop i = [] := List.drop_of_length_le (by omega)
  have e : lessF l k = decide ((l.length : Int) < k.length) := by
   rw [← i3, e1]
   rcases Nat.lt_or_ge i k.length with h | h
   ·obtain ⟨y, _, dy⟩ := dropG h
    rw [dy, decide_eq_true (by omega)]; rfl
   ·rw [List.drop_of_length_le h, decide_eq_false (by omega)]; rfl
  rw [e]
  simp only [go_sem, seval, L25_b1, S25, h1']
  repeat' (first | ((first | refine MX_okL rfl ?_ | refine LNext_if sd ?_ | refine ZNext_if sd ?_ | refine ZY_if sd ?_ | refine And.intro okq ?_); (try simp only [go_sem, seval, h1'])) | (refine And.intro ?_ ?_))
  exact Fin_of ⟨rfl, rfl⟩ (kp [])
theorem same9 (l k : List Ch) (hl : l.length ≤ 1000000) (hk : k.length ≤ 1000000) : APure Tryz.prog 9 [.im l.length (chs l), .im k.length (chs k)] (.v (.bool (!lessF l k && !lessF k l))) := by
 have c1 := less25 l k hl hk
 have c2 := less25 k l hk hl
 refine callp9 ?_
 cases h1 : lessF l k with
 | true =>
  rw [h1] at c1
  simp only [go_sem, seval, L9]
  repeat' (first | ((first | ((first | refine LCall_pure (c1) (Cls.of ?_) ?_); exact cx) | refine MX_okL rfl ?_ | refine LNext_if sd ?_ | refine ZNext_if sd ?_ | refine ZY_if sd ?_ | refine And.intro okq ?_); (try simp only [go_sem, seval])) | (refine And.intro ?_ ?_))
  exact Fin_of ⟨rfl, rfl⟩ (kp [])
 | false =>
  rw [h1] at c1
  simp only [go_sem, seval, L9]
  repeat' (first | ((first | ((first | refine LCall_pure (c1) (Cls.of ?_) ?_ | refine LCall_pure (c2) (Cls.of ?_) ?_); exact cx) | refine MX_okL rfl ?_ | refine LNext_if sd ?_ | refine ZNext_if sd ?_ | refine ZY_if sd ?_ | refine And.intro okq ?_); (try simp only [go_sem, seval])) | (refine And.intro ?_ ?_))
  exact Fin_of ⟨rfl, rfl⟩ (kp [])
end Go.Proofs.YtcjckmnhlfbdlaaGreatDoor
namespace Go.Abs
open Go
section
variable {P : Program} {k : Nat} {Q : Exit → List AV → List AO → Prop} {g : List AV} {H : List AO}
theorem MW_cut [DSt] {a b : LC} (g2 : List AV) (H2 : List AO) (h1 : MW P k a (joinQ k g2 H2 Q) g H) (h2 : MW P k b Q g2 H2) : MW P k (.seq a b) Q g H :=
 MW_seq (MW.post h1 fun e g' H' h => by
  cases e with
  | normal => rw [joinQ_normal] at h; exact ⟨g2, H2, h, h2⟩
  | ret => rw [joinQ_ret] at h; exact ⟨g', H', VS.refl _ _ _, h⟩
  | exit id => rw [joinQ_exit] at h; exact ⟨g', H', VS.refl _ _ _, h⟩
  | _ => exact ⟨g', H', VS.refl _ _ _, by unfold joinQ at h; exact h⟩)
end
end Go.Abs
namespace Go.Proofs.YtcjckmnhlfbdlaaGreatDoor
open Go Go.Abs Go.Rep Go.Ne
section
variable {N : List (List Int)} {A : List Bool} {all : Nat → List Nat → Nat → Int → Int → List (List Ch)} {C D : Nat} {i q c : Nat} {cs cs' : List Nat} {w most : Int} {o : List (List Ch)}
theorem insO_len (hall : ∀ i cs q w m, (all i cs q w m).length ≤ C) (k : Nat) : (insO N all i cs q w most k).length ≤ k * C := by
 induction k with
 | zero => simp [insO]
 | succ k h1 =>
  have e : (k + 1) * C = k * C + C := Nat.succ_mul k C
  simp only [insO]
  split
  ·rw [bef_len]; have := hall i cs (Ne.nx N q k).toNat (w - 2) (most - (insO N all i cs q w most k).length); omega
  ·omega
theorem flpO_len (hall : ∀ i cs q w m, (all i cs q w m).length ≤ C) : (flpO N all i c cs q w most o).length ≤ o.length + C := by
 unfold flpO; split
 ·rw [bef_len]; have := hall (i + 1) cs (Ne.nx N q (fl c)).toNat (w - 1) (most - o.length); omega
 ·omega
theorem delO_len (hall : ∀ i cs q w m, (all i cs q w m).length ≤ C) : (delO all i cs q w most o).length ≤ o.length + C := by
 unfold delO; split
 ·rw [bef_len]; have := hall (i + 1) cs q (w - 2) (most - o.length); omega
 ·omega
theorem matO_len (hall : ∀ i cs q w m, (all i cs q w m).length ≤ C) : (matO N all i c cs q w most o).length ≤ o.length + C := by
 unfold matO; split
 ·rw [List.length_append]; have := hall (i + 1) cs (Ne.nx N q c).toNat w (most - o.length); omega
 ·omega
theorem allF_len : ∀ (f i : Nat) (cs : List Nat) (q : Nat) (w m : Int), (allF N A f i cs q w m).length ≤ 7 ^ f
 | 0, _, _, _, _, _ => by simp [allF]
 | f + 1, i, [], q, w, m => by
  have hp : 1 ≤ 7 ^ f := Nat.one_le_pow _ _ (by omega)
  have h1 := insO_len (N := N) (i := i) (q := q) (cs := []) (w := w) (most := m) (allF_len f) 4
  rw [Nat.pow_succ]
  simp only [allF]
  split
  ·simp
  ·split
   ·simp only [List.length_cons, List.length_nil]; omega
   ·omega
 | f + 1, i, c :: cs, q, w, m => by
  have h1 := insO_len (N := N) (i := i) (q := q) (cs := c :: cs) (w := w) (most := m) (allF_len f) 4
  have h2 := flpO_len (N := N) (i := i) (q := q) (c := c) (cs := cs) (w := w) (most := m) (o := insO N (allF N A f) i (c :: cs) q w m 4) (allF_len f)
  have h3 := delO_len (i := i) (q := q) (cs := cs) (w := w) (most := m) (o := flpO N (allF N A f) i c cs q w m (insO N (allF N A f) i (c :: cs) q w m 4)) (allF_len f)
  have h4 := matO_len (N := N) (i := i) (q := q) (c := c) (cs := cs) (w := w) (most := m) (o := delO (allF N A f) i cs q w m (flpO N (allF N A f) i c cs q w m (insO N (allF N A f) i (c :: cs) q w m 4))) (allF_len f)
  rw [Nat.pow_succ]
  simp only [allF]
  split
  ·simp
  ·omega
theorem bef_mem {l : List (List Ch)} {x : Ch} (ho : ∀ L ∈ o, L.length ≤ D + 1) (hl : ∀ L ∈ l, L.length ≤ D) : ∀ L ∈ bef o x l, L.length ≤ D + 1 := fun L h => by
 rcases mem_bef.1 h with h | ⟨L', h', rfl⟩
 ·exact ho L h
 ·have := hl L' h'; simp; omega
theorem insO_mem (hall : ∀ i cs q w m, ∀ L ∈ all i cs q w m, L.length ≤ D) (k : Nat) : ∀ L ∈ insO N all i cs q w most k, L.length ≤ D + 1 := by
 induction k with
 | zero => simp [insO]
 | succ k h1 =>
  simp only [insO]
  split
  ·exact bef_mem h1 (hall _ _ _ _ _)
  ·exact h1
theorem flpO_mem (hall : ∀ i cs q w m, ∀ L ∈ all i cs q w m, L.length ≤ D) (ho : ∀ L ∈ o, L.length ≤ D + 1) : ∀ L ∈ flpO N all i c cs q w most o, L.length ≤ D + 1 := by
 unfold flpO; split
 ·exact bef_mem ho (hall _ _ _ _ _)
 ·exact ho
theorem delO_mem (hall : ∀ i cs q w m, ∀ L ∈ all i cs q w m, L.length ≤ D) (ho : ∀ L ∈ o, L.length ≤ D + 1) : ∀ L ∈ delO all i cs q w most o, L.length ≤ D + 1 := by
 unfold delO; split
 ·exact bef_mem ho (hall _ _ _ _ _)
 ·exact ho
theorem matO_mem (hall : ∀ i cs q w m, ∀ L ∈ all i cs q w m, L.length ≤ D) (ho : ∀ L ∈ o, L.length ≤ D + 1) : ∀ L ∈ matO N all i c cs q w most o, L.length ≤ D + 1 := by
 unfold matO; split
 ·intro L h
  rcases List.mem_append.1 h with h | h
  ·exact ho L h
  ·exact Nat.le_succ_of_le (hall _ _ _ _ _ L h)
 ·exact ho
theorem allF_mem : ∀ (f i : Nat) (cs : List Nat) (q : Nat) (w m : Int), ∀ L ∈ allF N A f i cs q w m, L.length ≤ f
 | 0, _, _, _, _, _ => by simp [allF]
 | f + 1, i, [], q, w, m => by
  simp only [allF]
  split
  ·simp
  ·split
   ·simp
   ·exact insO_mem (allF_mem f) 4
 | f + 1, i, c :: cs, q, w, m => by
  simp only [allF]
  split
  ·simp
  ·exact matO_mem (allF_mem f) (delO_mem (allF_mem f) (flpO_mem (allF_mem f) (insO_mem (allF_mem f) 4)))
end
end Go.Proofs.YtcjckmnhlfbdlaaGreatDoor
namespace Go.Proofs.YtcjckmnhlfbdlaaGreatDoor
open Go Go.Abs Go.Rep Go.Ne
noncomputable def allV (S : Int) (N : List (List Int)) (A : List Bool) (ws : List Nat) (i q w : Nat) (most : Int) : List AV := [aV 4 S N A, .im ws.length (lts ws), .im (ws.length + 1) (rowsT N A ws), .v (.int .i64 i), .v (.int .i64 q), .v (.int .i64 w), .v (.int .i64 most)]
def LA (S : Int) (N : List (List Int)) (A : List Bool) (ws : List Nat) (f : Nat) : Prop := ∀ (i q w : Nat) (most : Int), i ≤ ws.length → q < N.length → w < 9 → most ≤ 1048576 → ((10 ^ f : Nat) : Int) ≤ most + 1000000000000000000 → w + (ws.length - i) < f →
 APure Tryz.prog 24 (allV S N A ws i q w most) (.im (allF N A f i (ws.drop i) q w most).length (lls (allF N A f i (ws.drop i) q w most)))
def S24 (ws : List Nat) (r : List AV) (i q w : Nat) (most : Int) (n k : Nat) : List AV := [.any, .im ws.length (lts ws), .im (ws.length + 1) r, .v (.int .i64 i), .v (.int .i64 q), .v (.int .i64 w), .v (.int .i64 most), .pt 0 0, .any, .any, .any, .any, .any, .any, .any, .sl 1 0 n, .v (.int .i64 k), .any, .any, .any, .any, .any, .any, .any, .any, .any, .any, .any, .any, .any, .any, .any, .any, .any, .any, .any, .any, .any, .any, .any, .any, .any, .any, .any, .any, .any, .any, .any, .any, .any, .any, .any, .any, .any, .any, .any, .any, .any, .any, .any, .any, .any, .any, .any, .any, .any, .any, .any, .any, .any, .any, .any, .any, .any, .any, .any, .any, .any, .any, .any, .any, .any, .any, .any, .any, .any, .any, .any, .any, .any, .any, .any, .any, .any, .any, .any, .any, .any, .any, .any, .any, .any, .any, .any, .any, .any, .any, .any, .any, .any, .any, .any, .any, .any, .any, .any, .any, .any, .any, .any, .any, .any, .any, .any, .any, .any, .any, .any, .any, .any, .any, .any, .any, .any, .any, .any, .any, .any, .any, .any, .any, .any, .any, .any, .any, .any, .any, .any, .any, .any, .any, .any, .any, .any, .any, .any, .any, .any, .any, .any, .any, .any, .any, .any]
def J24 (ws : List Nat) (r : List AV) (i q w : Nat) (most : Int) (n : Nat) : List AV := [.any, .im ws.length (lts ws), .im (ws.length + 1) r, .v (.int .i64 i), .v (.int .i64 q), .v (.int .i64 w), .v (.int .i64 most), .pt 0 0, .any, .any, .any, .any, .any, .any, .any, .sl 1 0 n, .any, .any, .any, .any, .any, .any, .any, .any, .any, .any, .any, .any, .any, .any, .any, .any, .any, .any, .any, .any, .any, .any, .any, .any, .any, .any, .any, .any, .any, .any, .any, .any, .any, .any, .any, .any, .any, .any, .any, .any, .any, .any, .any, .any, .any, .any, .any, .any, .any, .any, .any, .any, .any, .any, .any, .any, .any, .any, .any, .any, .any, .any, .any, .any, .any, .any, .any, .any, .any, .any, .any, .any, .any, .any, .any, .any, .any, .any, .any, .any, .any, .any, .any, .any, .any, .any, .any, .any, .any, .any, .any, .any, .any, .any, .any, .any, .any, .any, .any, .any, .any, .any, .any, .any, .any, .any, .any, .any, .any, .any, .any, .any, .any, .any, .any, .any, .any, .any, .any, .any, .any, .any, .any, .any, .any, .any, .any, .any, .any, .any, .any, .any, .any, .any, .any, .any, .any, .any, .any, .any, .any, .any, .any, .any, .any, .any, .any, .any]
theorem insO_succ {N : List (List Int)} {all : Nat → List Nat → Nat → Int → Int → List (List Ch)} {i q : Nat} {cs : List Nat} {w most : Int} (k : Nat) : insO N all i cs q w most (k + 1) = if 0 ≤ Ne.nx N q k ∧ 2 ≤ w then bef (insO N all i cs q w most k) ⟨2, i, k⟩ (all i cs (Ne.nx N q k).toNat (w - 2) (most - (insO N all i cs q w most k).length)) else insO N all i cs q w most k := rfl
def O24 (S : Int) (N : List (List Int)) (A : List Bool) (o : List (List Ch)) : List AO := [aO 4 S N A, .cells 1 (lls o)]
set_option maxHeartbeats 4000000 in
theorem all24 (S : Int) (N : List (List Int)) (A : List Bool) (ws : List Nat) (h : Fit4 S N A) (hws : ∀ c ∈ ws, c < 4) (h6 : ws.length ≤ 6) : ∀ f, f ≤ 15 → LA S N A ws f
 | 0, _ => fun i q w most hi hq hw hm hm2 hf => by omega
 | f + 1, hf15 => fun i q w most hi hq hw hm hm2 hf => by
  have ih := all24 S N A ws h hws h6 f (by omega)
  have hl := h.fit.len
  have hsm := h.small
  obtain ⟨C, hC⟩ : ∃ C, 7 ^ f = C := ⟨_, rfl⟩
  have hall := allF_len (N := N) (A := A) f
  rw [hC] at hall
  have hmem := allF_mem (N := N) (A := A) f
  have hC2 : 7 * C ≤ 4747561509943 := by
   have h1 : 7 ^ (f + 1) ≤ 7 ^ 15 := Nat.pow_le_pow_right (by omega) hf15
   rw [Nat.pow_succ, hC] at h1
   omega
  have hC3 : C ≤ 10 ^ f := by rw [← hC]; exact Nat.pow_le_pow_left (by omega) f
  rw [Nat.pow_succ] at hm2
  generalize hP : 10 ^ f = Pf at hm2 hC3
  have hws' : ∀ c ∈ ws.drop i, c < 4 := fun c hc => hws c (List.mem_of_mem_drop hc)
  have hb := W_bound h.fit hws' (t := (q : Int)) (by omega)
  obtain ⟨W0, hW0⟩ : ∃ W0 : Nat, W N A (ws.drop i) q = W0 := ⟨(W N A (ws.drop i) q).toNat, by omega⟩
  have hr := (row_all h.fit (ws.drop i) hws').1
  have rl : (rowOf N A (ws.drop i)).length = N.length := by rw [hr.len, hl]
  have er := vAt_some (r := rowOf N A (ws.drop i)) (s := q) (by omega)
  rw [← W_nat, hW0] at er
  obtain ⟨l0, el⟩ := rowsT_at N A hi
  unfold rowV at el
  have h2 : (i : Int) < ((ws.length + 1 : Nat) : Int) := by omega
  have hqN : (q : Int) < N.length := by omega
  have hqA : (q : Int) < A.length := by omega
  have rT := rowsT_len N A ws
  by_cases z1 : w < W0
  ·have e : allF N A (f + 1) i (ws.drop i) q w most = [] := by
    cases hd : ws.drop i with
    | nil => rw [hd] at hW0; simp only [allF]; rw [if_pos (.inl (by rw [hW0]; omega))]
    | cons c cs => rw [hd] at hW0; simp only [allF]; rw [if_pos (.inl (by rw [hW0]; omega))]
   rw [e]
   have z1' : (W0 : Int) > w := by omega
   refine callp24 ?_
   unfold allV
   simp only [go_sem, seval, L24, aV, Int.toNat_natCast, el, ints_drop er, h2, hqN, rT, z1']
   repeat' (first | ((first | refine MX_okL rfl ?_ | refine LNext_if sd ?_ | refine ZNext_if sd ?_ | refine ZY_if sd ?_ | refine And.intro okq ?_); (try simp only [go_sem, seval, Int.toNat_natCast, el, ints_drop er, h2, hqN, rT, z1'])) | (refine And.intro ?_ ?_))
   exact Fin_of ⟨rfl, rfl⟩ (kp [])
  have z1' : ¬ (W0 : Int) > w := by omega
  have hnW : ¬ ((w : Int) < W N A (ws.drop i) q) := by omega
  by_cases z2 : most = 0
  ·have e : allF N A (f + 1) i (ws.drop i) q w most = [] := by
    cases hd : ws.drop i with
    | nil => simp only [allF]; rw [if_pos (.inr z2)]
    | cons c cs => simp only [allF]; rw [if_pos (.inr z2)]
   rw [e]
   have z2' : (most == 0) = true := by rw [z2]; rfl
   refine callp24 ?_
   unfold allV
   simp only [go_sem, seval, L24, aV, Int.toNat_natCast, el, ints_drop er, h2, hqN, rT, z1', z2']
   repeat' (first | ((first | refine MX_okL rfl ?_ | refine LNext_if sd ?_ | refine ZNext_if sd ?_ | refine ZY_if sd ?_ | refine And.intro okq ?_); (try simp only [go_sem, seval, Int.toNat_natCast, el, ints_drop er, h2, hqN, rT, z1', z2'])) | (refine And.intro ?_ ?_))
   exact Fin_of ⟨rfl, rfl⟩ (kp [])
  have z2' : (most == 0) = false := by rw [beq_eq_false_iff_ne]; exact z2
  obtain ⟨b, hbA, _⟩ := dropG (l := A) (k := q) (by omega)
  have hb' : A.getD q false = b := by rw [List.getD_eq_getElem?_getD, hbA]; rfl
  by_cases z3 : i = ws.length ∧ w = 0 ∧ b = true
  ·obtain ⟨y1, rfl, rfl⟩ := z3
   have hd : ws.drop i = [] := by rw [y1]; exact List.drop_of_length_le (Nat.le_refl _)
   have e : allF N A (f + 1) i (ws.drop i) q (0 : Nat) most = [[]] := by
    rw [hd]; rw [hd] at hnW; simp only [allF]; rw [if_neg (fun x => x.elim hnW z2), if_pos ⟨rfl, hb'⟩]
   rw [e]
   have e1 : ((i : Int) == (ws.length : Int)) = true := by rw [y1]; exact beq_self_eq_true _
   have z0 : ¬ (W0 : Int) > 0 := by omega
   refine callp24 ?_
   unfold allV
   simp only [go_sem, seval, L24, aV, z0, Int.toNat_natCast, el, ints_drop er, h2, hqN, rT, z1', z2', e1, bls_drop hbA, hqA]
   repeat' (first | ((first | refine MX_okL rfl ?_ | refine LNext_if sd ?_ | refine ZNext_if sd ?_ | refine ZY_if sd ?_ | refine And.intro okq ?_); (try simp only [go_sem, seval, z0, Int.toNat_natCast, el, ints_drop er, h2, hqN, rT, z1', z2', e1, bls_drop hbA, hqA])) | (refine And.intro ?_ ?_))
   refine Fin_of ⟨rfl, rfl⟩ ?_; (refine VS_of [] (by decide) ?_ ?_ (by decide); all_goals (repeat' (first | exact trivial | refine And.intro ?_ ?_ | exact ⟨rfl, rfl⟩ | exact Sg.any | ((first | refine ⟨_, rfl, ?_⟩ | refine ⟨_, .inl ⟨rfl, rfl⟩, ?_⟩ | refine ⟨_, .inr rfl, ?_⟩ | refine Sg.of ?_); (repeat' (first | (exact Sv.slFE (.inl ⟨rfl, rfl⟩) rfl (show Svs _ _ _ _ [.im 0 []] from Svs.consI Sv.nil0 Svs.nilI)) | ((first | refine Sv.cl (Cl.of ?_) | refine Svs.cl (Cls.of ?_)); simp only [go_sem, Bool.and_self, Bool.and_true]; done) | exact Sv.pt rfl | exact Sv.mp rfl | exact Sv.nil rfl | exact Sv.em rfl | (refine Sv.slE rfl ?_ ?_ <;> (first | rfl | omega | (simp only [go_sem]; done) | (simp [go_sem]; done) | (simp [go_sem]; omega))) | ((first | refine Sv.eq ?_ ?_ | refine Svs.eq ?_ ?_) <;> (first | rfl | omega | (simp only [go_sem]; done) | (simp [go_sem]; done) | (simp [go_sem]; omega))) | exact Sv.nil0 | exact Sv.em0 | exact Sv.sl0 | ((first | refine Sv.slFE (.inl ⟨rfl, rfl⟩) ?_ (Svs.eq ?_ ?_) | refine Sv.slFE (.inr rfl) ?_ (Svs.eq ?_ ?_)) <;> (first | rfl | omega | (simp only [go_sem]; done) | (simp [go_sem]; done) | (simp [go_sem]; omega))) | exact Svs.nilI | refine Svs.consI ?_ ?_ | refine Sv.tu ?_ | refine Sv.ag ?_)); done) | rfl)))
  obtain ⟨o0, ho0⟩ : ∃ o0, insO N (allF N A f) i (ws.drop i) q w most 4 = o0 := ⟨_, rfl⟩
  obtain ⟨row, a1, a2, _⟩ := h.at' hq (c := 0) (by omega)
  refine APure_of (calln24 ?_)
  unfold allV
  simp only [go_sem, seval, L24, aV, Int.toNat_natCast, el, ints_drop er, h2, hqN, rT, z1', z2']
  refine NX_go (l := .seq _ _) ?_
  simp only [go_sem, seval, Int.toNat_natCast, el, ints_drop er, h2, hqN, rT, z1', z2']
  repeat' (first
   | ((first | ((first | refine LNext_if ?_ ?_ | refine ZNext_if ?_ ?_ | refine ZY_if ?_ ?_); (first | omega | exact True.intro | (simp only [go_sem, List.length_map, List.length_cons, List.length_nil, List.length_append, List.length_replicate, List.length_drop, List.length_take, List.length_set, Nat.reduceAdd, Nat.reduceMul, true_and, and_true]; omega) | (refine And.intro ?_ ?_ <;> first | omega | exact True.intro | (simp only [List.length_map, List.length_cons, List.length_nil, List.length_append, List.length_replicate, List.length_drop, List.length_take, List.length_set]; omega)))) | (refine And.intro ?_ ?_; (show okA _ _ _ _ = true); kernel_rfl) | refine NX_go (l := .reg _) ?_ | refine NX_go (l := .cond _ _ _) ?_ | refine NX_go (l := .block _ _) ?_ | refine NX_go (l := .ret) ?_ | refine NX_go (l := .skip) ?_); (try simp only [go_sem, seval, Int.toNat_natCast, el, ints_drop er, h2, hqN, rT, z1', z2']))
   | ((first | refine LGuard_split ?_ ?_ | refine ZG_split ?_ ?_) <;> (intro hc; (try simp only [go_sem, seval, hc, Int.toNat_natCast, el, ints_drop er, h2, hqN, rT, z1', z2']); (try simp only [decide_eq_true_eq, decide_eq_false_iff_not, Bool.not_eq_true', Bool.not_eq_false', Bool.not_eq_true, Bool.not_eq_false, beq_iff_eq, bne_iff_ne, ne_eq, beq_eq_false_iff_ne, bne_eq_false_iff_eq, Int.not_lt, Int.not_le, gt_iff_lt, ge_iff_le, Decidable.not_not] at hc)))
   | (refine And.intro ?_ ?_))
  refine NX_go (l := .seq _ _) ?_
  simp only [go_sem, seval, Int.toNat_natCast, el, ints_drop er, h2, hqN, rT, z1', z2']
  refine MW_cut (J24 ws (rowsT N A ws) i q w most 0) (O24 S N A []) ?_ ?_
  ·refine MX_ok ?_
   unfold O24 aO
   by_cases y1 : i = ws.length
   ·have e1 : ((i : Int) == (ws.length : Int)) = true := by rw [y1]; exact beq_self_eq_true _
    by_cases y2 : w = 0
    ·have e2 : ((w : Int) == 0) = true := by rw [y2]; rfl
     obtain rfl : b = false := by
      cases b with
      | true => exact (z3 ⟨y1, y2, rfl⟩).elim
      | false => rfl
     simp only [go_sem, seval, e1, e2, bls_drop hbA, hqA, Int.toNat_natCast]
     repeat' (first | ((first | refine MX_okL rfl ?_ | refine LNext_if sd ?_ | refine ZNext_if sd ?_ | refine ZY_if sd ?_ | refine And.intro okq ?_); (try simp only [go_sem, seval, e1, e2, bls_drop hbA, hqA, Int.toNat_natCast])) | (refine And.intro ?_ ?_))
     exact kp [.old 0, .new 1]
    ·have e2 : ((w : Int) == 0) = false := by rw [beq_eq_false_iff_ne]; omega
     simp only [go_sem, seval, e1, e2]
     repeat' (first | ((first | refine MX_okL rfl ?_ | refine LNext_if sd ?_ | refine ZNext_if sd ?_ | refine ZY_if sd ?_ | refine And.intro okq ?_); (try simp only [go_sem, seval, e1, e2])) | (refine And.intro ?_ ?_))
     exact kp [.old 0, .new 1]
   ·have e1 : ((i : Int) == (ws.length : Int)) = false := by rw [beq_eq_false_iff_ne]; omega
    simp only [go_sem, seval, e1]
    repeat' (first | ((first | refine MX_okL rfl ?_ | refine LNext_if sd ?_ | refine ZNext_if sd ?_ | refine ZY_if sd ?_ | refine And.intro okq ?_); (try simp only [go_sem, seval, e1])) | (refine And.intro ?_ ?_))
    exact kp [.old 0, .new 1]
  ·refine MW_cut (J24 ws (rowsT N A ws) i q w most o0.length) (O24 S N A o0) ?_ ?_
   ·refine MX_ok ?_
    unfold O24 aO
    simp only [go_sem, seval, J24]
    refine MW_loop_st (fun k => S24 ws (rowsT N A ws) i q w most (insO N (allF N A f) i (ws.drop i) q w most k).length k) (fun k => O24 S N A (insO N (allF N A f) i (ws.drop i) q w most k)) (fun k => k ≤ 4) (fun k => 4 - k) 0 ?_ (Nat.zero_le _) ?_
    ·unfold O24 aO
     (refine VS_of [.old 0, .old 1] (by decide) ?_ ?_ (by decide); all_goals (repeat' (first | exact trivial | refine And.intro ?_ ?_ | exact ⟨rfl, rfl⟩ | exact Sg.any | ((first | refine ⟨_, rfl, ?_⟩ | refine ⟨_, .inl ⟨rfl, rfl⟩, ?_⟩ | refine ⟨_, .inr rfl, ?_⟩ | refine Sg.of ?_); (repeat' (first | ((first | refine Sv.cl (Cl.of ?_) | refine Svs.cl (Cls.of ?_)); simp only [go_sem, Bool.and_self, Bool.and_true]; done) | exact Sv.pt rfl | exact Sv.mp rfl | exact Sv.nil rfl | exact Sv.em rfl | (refine Sv.slE rfl ?_ ?_ <;> (first | rfl | omega | (simp only [insO]; done) | (simp only [go_sem, insO]; done) | (simp [insO]; done) | (simp [insO]; omega))) | ((first | refine Sv.eq ?_ ?_ | refine Svs.eq ?_ ?_) <;> (first | rfl | omega | (simp only [insO]; done) | (simp only [go_sem, insO]; done) | (simp [insO]; done) | (simp [insO]; omega))) | exact Sv.nil0 | exact Sv.em0 | exact Sv.sl0 | ((first | refine Sv.slFE (.inl ⟨rfl, rfl⟩) ?_ (Svs.eq ?_ ?_) | refine Sv.slFE (.inr rfl) ?_ (Svs.eq ?_ ?_)) <;> (first | rfl | omega | (simp only [insO]; done) | (simp only [go_sem, insO]; done) | (simp [insO]; done) | (simp [insO]; omega))) | exact Svs.nilI | refine Svs.consI ?_ ?_ | refine Sv.tu ?_ | refine Sv.ag ?_)); done) | rfl)))
    rintro k k1
    have ho := insO_len (N := N) (i := i) (q := q) (cs := ws.drop i) (w := w) (most := most) hall k
    have hkC : k * C ≤ 4 * C := Nat.mul_le_mul_right C k1
    rcases Nat.lt_or_ge k 4 with hk | hk
    ·have hk' : (k : Int) < 4 := by omega
     have es := insO_succ (N := N) (all := allF N A f) (i := i) (cs := ws.drop i) (q := q) (w := w) (most := most) k
     generalize insO N (allF N A f) i (ws.drop i) q w most k = o at ho es
     unfold O24 aO
     obtain ⟨row', a1', _, a3⟩ := h.at' hq hk
     have c44 := step44 4 S N A q k a1' a3
     unfold aV at c44
     have ht := (h.fit.tab q k hq hk).2
     have wm : IntKind.wrap .i64 (most - o.length) = most - o.length := wrapI (by omega) (by omega)
     by_cases t0 : 0 ≤ Ne.nx N q k
     ·obtain ⟨t, et⟩ : ∃ t : Nat, nx N q k = t := ⟨(nx N q k).toNat, by omega⟩
      rw [et] at c44 ht
      have ht0 : (0 : Int) ≤ (t : Int) := by omega
      by_cases t2 : 2 ≤ (w : Int)
      ·rw [if_pos ⟨t0, t2⟩, et, Int.toNat_natCast] at es
       have ew : (w : Int) - 2 = ((w - 2 : Nat) : Int) := by omega
       have w2 : IntKind.wrap .i64 ((w : Int) - 2) = ((w - 2 : Nat) : Int) := by rw [wrapI (by omega) (by omega)]; exact ew
       have cr := ih i t (w - 2) (most - o.length) hi (by omega) (by omega) (by omega) (by rw [hP]; omega) (by omega)
       have hl1 := hall i (ws.drop i) t ((w - 2 : Nat) : Int) (most - o.length)
       have hl2 := hmem i (ws.drop i) t ((w - 2 : Nat) : Int) (most - o.length)
       rw [ew] at es
       generalize allF N A f i (ws.drop i) t ((w - 2 : Nat) : Int) (most - o.length) = l at cr es hl1 hl2
       have c45 := before45 o ⟨2, i, k⟩ l (by omega) (fun L hL => Nat.le_trans (hl2 L hL) (by omega))
       unfold chV at c45
       dsimp only at c45
       unfold allV aV at cr
       simp only [go_sem, seval, L24_b0, S24, hk', ht0, t2, ge_iff_le, Option.isSome_some, Bool.and_self, if_true, wm, w2]
       repeat' (first | ((first | ((first | refine LCall_pure (c44) (Cls.of ?_) ?_ | refine LCall_pure (cr) (Cls.of ?_) ?_); exact cx) | refine MX_okL rfl ?_ | refine LNext_if sd ?_ | refine ZNext_if sd ?_ | refine ZY_if sd ?_ | refine And.intro okq ?_); (try simp only [go_sem, seval, hk', ht0, t2, ge_iff_le, Option.isSome_some, Bool.and_self, if_true, wm, w2])) | (refine And.intro ?_ ?_))
       (refine lf (c45) [1] ?_; (try simp only [go_sem, seval, tau, upd, List.set_cons_zero, List.set_cons_succ, List.map_cons, List.map_nil, List.drop_zero, List.drop_succ_cons, List.drop_nil, Nat.not_lt_zero, Nat.sub_zero, List.cons_append, List.nil_append]))
       repeat' (first | ((first | refine MX_okL rfl ?_ | refine LNext_if sd ?_ | refine ZNext_if sd ?_ | refine ZY_if sd ?_ | refine And.intro okq ?_); (try simp only [go_sem, seval])) | (refine And.intro ?_ ?_))
       refine ⟨k + 1, by omega, by omega, ?_⟩
       rw [es]
       (have kr0 := wrapS (show k < 9223372036854775807 by omega); exact kp [.old 0, .old 2])
      ·rw [if_neg (fun x => t2 x.2)] at es
       simp only [go_sem, seval, L24_b0, S24, hk', ht0, t2, ge_iff_le]
       repeat' (first | ((first | ((first | refine LCall_pure (c44) (Cls.of ?_) ?_); exact cx) | refine MX_okL rfl ?_ | refine LNext_if sd ?_ | refine ZNext_if sd ?_ | refine ZY_if sd ?_ | refine And.intro okq ?_); (try simp only [go_sem, seval, hk', ht0, t2, ge_iff_le])) | (refine And.intro ?_ ?_))
       refine ⟨k + 1, by omega, by omega, ?_⟩
       rw [es]
       (have kr0 := wrapS (show k < 9223372036854775807 by omega); exact kp [.old 0, .old 1])
     ·rw [if_neg (fun x => t0 x.1)] at es
      simp only [go_sem, seval, L24_b0, S24, hk', t0, ge_iff_le]
      repeat' (first | ((first | ((first | refine LCall_pure (c44) (Cls.of ?_) ?_); exact cx) | refine MX_okL rfl ?_ | refine LNext_if sd ?_ | refine ZNext_if sd ?_ | refine ZY_if sd ?_ | refine And.intro okq ?_); (try simp only [go_sem, seval, hk', t0, ge_iff_le])) | (refine And.intro ?_ ?_))
      refine ⟨k + 1, by omega, by omega, ?_⟩
      rw [es]
      (have kr0 := wrapS (show k < 9223372036854775807 by omega); exact kp [.old 0, .old 1])
    ·obtain rfl : k = 4 := by omega
     have hk' : ¬ (4 : Int) < 4 := by decide
     rw [ho0]
     unfold O24 aO
     simp only [go_sem, seval, L24_b0, S24, hk', Int.cast_ofNat_Int]
     repeat' (first | ((first | refine MX_okL rfl ?_ | refine LNext_if sd ?_ | refine ZNext_if sd ?_ | refine ZY_if sd ?_ | refine And.intro okq ?_); (try simp only [go_sem, seval, hk', Int.cast_ofNat_Int])) | (refine And.intro ?_ ?_))
     exact kp [.old 0, .old 1]
   ·have l0' := insO_len (N := N) (i := i) (q := q) (cs := ws.drop i) (w := w) (most := most) hall 4
    rw [ho0] at l0'
    by_cases y1 : i = ws.length
    ·have hd : ws.drop i = [] := by rw [y1]; exact List.drop_of_length_le (Nat.le_refl _)
     have e : allF N A (f + 1) i (ws.drop i) q w most = o0 := by
      rw [hd]; rw [hd] at hnW ho0; simp only [allF]
      rw [if_neg (fun x => x.elim hnW z2), if_neg (fun x => z3 ⟨y1, by omega, by rw [← hb']; exact x.2⟩), ho0]
     rw [e]
     have e1 : ((i : Int) == (ws.length : Int)) = true := by rw [y1]; exact beq_self_eq_true _
     refine MX_ok ?_
     unfold O24 aO
     simp only [go_sem, seval, J24, e1]
     repeat' (first | ((first | refine MX_okL rfl ?_ | refine LNext_if sd ?_ | refine ZNext_if sd ?_ | refine ZY_if sd ?_ | refine And.intro okq ?_); (try simp only [go_sem, seval, e1])) | (refine And.intro ?_ ?_))
     exact Fin_of ⟨rfl, rfl⟩ (kp [])
    have hil : i < ws.length := by omega
    obtain ⟨c, ec, hd⟩ := dropG hil
    have hc := hws c (List.mem_of_getElem? ec)
    have e1 : ((i : Int) == (ws.length : Int)) = false := by rw [beq_eq_false_iff_ne]; omega
    have hil' : (i : Int) < ws.length := by omega
    have wi := wrapS (show i < 9223372036854775807 by omega)
    obtain ⟨o1, ho1⟩ : ∃ o1, flpO N (allF N A f) i c (ws.drop (i + 1)) q w most o0 = o1 := ⟨_, rfl⟩
    obtain ⟨o2, ho2⟩ : ∃ o2, delO (allF N A f) i (ws.drop (i + 1)) q w most o1 = o2 := ⟨_, rfl⟩
    obtain ⟨o3, ho3⟩ : ∃ o3, matO N (allF N A f) i c (ws.drop (i + 1)) q w most o2 = o3 := ⟨_, rfl⟩
    have l1 := flpO_len (N := N) (i := i) (q := q) (c := c) (cs := ws.drop (i + 1)) (w := w) (most := most) (o := o0) hall
    have l2 := delO_len (i := i) (q := q) (cs := ws.drop (i + 1)) (w := w) (most := most) (o := o1) hall
    have l3 := matO_len (N := N) (i := i) (q := q) (c := c) (cs := ws.drop (i + 1)) (w := w) (most := most) (o := o2) hall
    rw [ho1] at l1
    rw [ho2] at l2
    rw [ho3] at l3
    have e : allF N A (f + 1) i (ws.drop i) q w most = o3 := by
     rw [hd]; rw [hd] at hnW ho0; simp only [allF]
     rw [if_neg (fun x => x.elim hnW z2), ho0, ho1, ho2, ho3]
    rw [e]
    obtain ⟨row', a1', _, d3⟩ := h.at' hq (fl_lt hc)
    obtain ⟨row'', a1'', _, dc⟩ := h.at' hq hc
    have fe := fl_abin hc
    simp only [go_sem, seval, Option.some.injEq, Value.int.injEq, true_and] at fe
    refine NX_go (l := .seq _ _) ?_
    unfold O24 aO
    simp only [go_sem, seval, J24, e1]
    repeat' (first
     | ((first | ((first | refine LNext_if ?_ ?_ | refine ZNext_if ?_ ?_ | refine ZY_if ?_ ?_); (first | omega | exact True.intro | (simp only [go_sem, List.length_map, List.length_cons, List.length_nil, List.length_append, List.length_replicate, List.length_drop, List.length_take, List.length_set, Nat.reduceAdd, Nat.reduceMul, true_and, and_true]; omega) | (refine And.intro ?_ ?_ <;> first | omega | exact True.intro | (simp only [List.length_map, List.length_cons, List.length_nil, List.length_append, List.length_replicate, List.length_drop, List.length_take, List.length_set]; omega)))) | (refine And.intro ?_ ?_; (show okA _ _ _ _ = true); kernel_rfl) | refine NX_go (l := .reg _) ?_ | refine NX_go (l := .cond _ _ _) ?_ | refine NX_go (l := .block _ _) ?_ | refine NX_go (l := .ret) ?_ | refine NX_go (l := .skip) ?_); (try simp only [go_sem, seval, e1]))
     | ((first | refine LGuard_split ?_ ?_ | refine ZG_split ?_ ?_) <;> (intro hc; (try simp only [go_sem, seval, hc, e1]); (try simp only [decide_eq_true_eq, decide_eq_false_iff_not, Bool.not_eq_true', Bool.not_eq_false', Bool.not_eq_true, Bool.not_eq_false, beq_iff_eq, bne_iff_ne, ne_eq, beq_eq_false_iff_ne, bne_eq_false_iff_eq, Int.not_lt, Int.not_le, gt_iff_lt, ge_iff_le, Decidable.not_not] at hc)))
     | (refine And.intro ?_ ?_))
    refine MW_cut (J24 ws (rowsT N A ws) i q w most o1.length) (O24 S N A o1) ?_ ?_
    ·refine MX_ok ?_
     have c44 := step44 4 S N A q (fl c) a1' d3
     unfold aV at c44
     have ht := (h.fit.tab q (fl c) hq (fl_lt hc)).2
     have wm : IntKind.wrap .i64 (most - o0.length) = most - o0.length := wrapI (by omega) (by omega)
     unfold flpO at ho1
     unfold O24 aO
     by_cases t0 : 0 ≤ Ne.nx N q (fl c)
     ·obtain ⟨t, et⟩ : ∃ t : Nat, Ne.nx N q (fl c) = t := ⟨(Ne.nx N q (fl c)).toNat, by omega⟩
      rw [et] at c44 ht
      have ht0 : (0 : Int) ≤ (t : Int) := by omega
      by_cases t1 : 1 ≤ (w : Int)
      ·rw [if_pos ⟨t0, t1⟩, et, Int.toNat_natCast] at ho1
       have ew : (w : Int) - 1 = ((w - 1 : Nat) : Int) := by omega
       have w2 : IntKind.wrap .i64 ((w : Int) - 1) = ((w - 1 : Nat) : Int) := by rw [wrapI (by omega) (by omega)]; exact ew
       have cr := ih (i + 1) t (w - 1) (most - o0.length) (by omega) (by omega) (by omega) (by omega) (by rw [hP]; omega) (by omega)
       have hl1 := hall (i + 1) (ws.drop (i + 1)) t ((w - 1 : Nat) : Int) (most - o0.length)
       have hl2 := hmem (i + 1) (ws.drop (i + 1)) t ((w - 1 : Nat) : Int) (most - o0.length)
       rw [ew] at ho1
       generalize allF N A f (i + 1) (ws.drop (i + 1)) t ((w - 1 : Nat) : Int) (most - o0.length) = l at cr ho1 hl1 hl2
       have c45 := before45 o0 ⟨1, i, fl c⟩ l (by omega) (fun L hL => Nat.le_trans (hl2 L hL) (by omega))
       rw [ho1] at c45
       unfold chV at c45
       dsimp only at c45
       unfold allV aV at cr
       simp only [go_sem, seval, lts_drop ec, hil', Int.toNat_natCast, fe, ht0, t1, ge_iff_le, Option.isSome_some, Bool.and_self, if_true, wm, w2, wi]
       repeat' (first | ((first | ((first | refine ZCall_pure (c44) (Cls.of ?_) ?_); exact cx) | (refine MW_dy dl24_16 mixedP dx24_16 ax24_16 1 ?_ ?_; exact yl) | (refine ZC_pure (LCl_cl (cr) ?_ ?_) ?_ ?_; iterate 3 exact cx) | refine MW_still dl24_14 mixedP dx24_14 ?_ | refine MX_okL rfl ?_ | refine LNext_if sd ?_ | refine ZNext_if sd ?_ | refine ZY_if sd ?_ | refine And.intro okq ?_); (try simp only [go_sem, seval, l24_14, l24_16, lts_drop ec, hil', Int.toNat_natCast, fe, ht0, t1, ge_iff_le, Option.isSome_some, Bool.and_self, if_true, wm, w2, wi])) | (refine And.intro ?_ ?_))
       (refine ZC_fn (c45) [] [1] [1] (by decide) (by decide) (by decide) ?_ rfl ?_ ?_ ?_; (focus (intro H2 hl hF; refine ⟨?_, ?_, ?_⟩; (focus (exact trivial)); (focus ((refine And.intro ⟨_, (show (apE [] H2)[1]? = H2[1]? by simp [apE_cons, apE_nil, List.getElem?_set, *]).trans (hF 1 (by decide)), ?_⟩ ?_; (first | (focus (refine Svs.cl (Cls.of ?_); simp only [go_sem, Bool.and_self, Bool.and_true]; done)) | (focus (repeat' (first | ((first | refine Sv.cl (Cl.of ?_) | refine Svs.cl (Cls.of ?_)); simp only [go_sem, Bool.and_self, Bool.and_true]; done) | exact Sv.pt rfl | exact Sv.mp rfl | exact Sv.nil rfl | exact Sv.em rfl | (refine Sv.slE rfl ?_ ?_ <;> (first | rfl | omega | (simp only [go_sem]; done) | (simp [go_sem]; done) | (simp [go_sem]; omega))) | ((first | refine Sv.eq ?_ ?_ | refine Svs.eq ?_ ?_) <;> (first | rfl | omega | (simp only [go_sem]; done) | (simp [go_sem]; done) | (simp [go_sem]; omega))) | exact Sv.nil0 | exact Sv.em0 | exact Sv.sl0 | ((first | refine Sv.slFE (.inr rfl) ?_ (Svs.eq ?_ ?_) | refine Sv.slFE (.inr (by assumption)) ?_ (Svs.eq ?_ ?_)) <;> (first | rfl | omega | (simp only [go_sem]; done) | (simp [go_sem]; done) | (simp [go_sem]; omega))) | exact Svs.nilI | refine Svs.consI ?_ ?_ | refine Sv.tu ?_ | refine Sv.ag ?_))))); exact trivial)); (repeat' (first | ((first | refine Sv.cl (Cl.of ?_) | refine Svs.cl (Cls.of ?_)); simp only [go_sem, Bool.and_self, Bool.and_true]; done) | exact Sv.pt rfl | exact Sv.mp rfl | exact Sv.nil rfl | exact Sv.em rfl | (refine Sv.slE rfl ?_ ?_ <;> (first | rfl | omega | (simp only [go_sem]; done) | (simp [go_sem]; done) | (simp [go_sem]; omega))) | ((first | refine Sv.eq ?_ ?_ | refine Svs.eq ?_ ?_) <;> (first | rfl | omega | (simp only [go_sem]; done) | (simp [go_sem]; done) | (simp [go_sem]; omega))) | exact Sv.nil0 | exact Sv.em0 | exact Sv.sl0 | ((first | refine Sv.slFE (.inr rfl) ?_ (Svs.eq ?_ ?_) | refine Sv.slFE (.inr (by assumption)) ?_ (Svs.eq ?_ ?_)) <;> (first | rfl | omega | (simp only [go_sem]; done) | (simp [go_sem]; done) | (simp [go_sem]; omega))) | exact Svs.nilI | refine Svs.consI ?_ ?_ | refine Sv.tu ?_ | refine Sv.ag ?_)); done)); (focus (simp only [go_sem, List.length_cons, List.length_nil, Nat.reduceAdd, Nat.reduceLT]; done)); (focus (simp [slot_cons, slot_nil, updE]; done)); simp only [go_sem, seval, tau, List.map_cons, List.map_nil, List.drop_zero, List.drop_succ_cons, List.drop_nil, Nat.not_lt_zero, Nat.sub_zero, List.cons_append, List.nil_append])
       repeat' (first | ((first | refine MX_okL rfl ?_ | refine LNext_if sd ?_ | refine ZNext_if sd ?_ | refine ZY_if sd ?_ | refine And.intro okq ?_); (try simp only [go_sem, seval])) | (refine And.intro ?_ ?_))
       exact kp [.old 0, .old 2]
      ·rw [if_neg (fun x => t1 x.2)] at ho1
       rw [← ho1]
       simp only [go_sem, seval, lts_drop ec, hil', Int.toNat_natCast, fe, ht0, t1, ge_iff_le]
       repeat' (first | ((first | ((first | refine ZCall_pure (c44) (Cls.of ?_) ?_); exact cx) | refine MW_still dl24_14 mixedP dx24_14 ?_ | refine MX_okL rfl ?_ | refine LNext_if sd ?_ | refine ZNext_if sd ?_ | refine ZY_if sd ?_ | refine And.intro okq ?_); (try simp only [go_sem, seval, l24_14, lts_drop ec, hil', Int.toNat_natCast, fe, ht0, t1, ge_iff_le])) | (refine And.intro ?_ ?_))
       exact kp [.old 0, .old 1]
     ·rw [if_neg (fun x => t0 x.1)] at ho1
      rw [← ho1]
      simp only [go_sem, seval, lts_drop ec, hil', Int.toNat_natCast, fe, t0, ge_iff_le]
      repeat' (first | ((first | ((first | refine ZCall_pure (c44) (Cls.of ?_) ?_); exact cx) | refine MW_still dl24_14 mixedP dx24_14 ?_ | refine MX_okL rfl ?_ | refine LNext_if sd ?_ | refine ZNext_if sd ?_ | refine ZY_if sd ?_ | refine And.intro okq ?_); (try simp only [go_sem, seval, l24_14, lts_drop ec, hil', Int.toNat_natCast, fe, t0, ge_iff_le])) | (refine And.intro ?_ ?_))
      exact kp [.old 0, .old 1]
    ·refine MW_cut (J24 ws (rowsT N A ws) i q w most o2.length) (O24 S N A o2) ?_ ?_
     ·refine MX_ok ?_
      have wm : IntKind.wrap .i64 (most - o1.length) = most - o1.length := wrapI (by omega) (by omega)
      unfold delO at ho2
      unfold O24 aO
      by_cases t2 : 2 ≤ (w : Int)
      ·rw [if_pos t2] at ho2
       have ew : (w : Int) - 2 = ((w - 2 : Nat) : Int) := by omega
       have w2 : IntKind.wrap .i64 ((w : Int) - 2) = ((w - 2 : Nat) : Int) := by rw [wrapI (by omega) (by omega)]; exact ew
       have cr := ih (i + 1) q (w - 2) (most - o1.length) (by omega) (by omega) (by omega) (by omega) (by rw [hP]; omega) (by omega)
       have hl1 := hall (i + 1) (ws.drop (i + 1)) q ((w - 2 : Nat) : Int) (most - o1.length)
       have hl2 := hmem (i + 1) (ws.drop (i + 1)) q ((w - 2 : Nat) : Int) (most - o1.length)
       rw [ew] at ho2
       generalize allF N A f (i + 1) (ws.drop (i + 1)) q ((w - 2 : Nat) : Int) (most - o1.length) = l at cr ho2 hl1 hl2
       have c45 := before45 o1 ⟨3, i, 0⟩ l (by omega) (fun L hL => Nat.le_trans (hl2 L hL) (by omega))
       rw [ho2] at c45
       unfold chV at c45
       dsimp only at c45
       unfold allV aV at cr
       simp only [go_sem, seval, J24, t2, ge_iff_le, Option.isSome_some, Bool.and_self, if_true, wm, w2, wi]
       repeat' (first | ((first | ((first | refine LCall_pure (cr) (Cls.of ?_) ?_); exact cx) | refine MX_okL rfl ?_ | refine LNext_if sd ?_ | refine ZNext_if sd ?_ | refine ZY_if sd ?_ | refine And.intro okq ?_); (try simp only [go_sem, seval, t2, ge_iff_le, Option.isSome_some, Bool.and_self, if_true, wm, w2, wi])) | (refine And.intro ?_ ?_))
       (refine lf (c45) [1] ?_; (try simp only [go_sem, seval, tau, upd, List.set_cons_zero, List.set_cons_succ, List.map_cons, List.map_nil, List.drop_zero, List.drop_succ_cons, List.drop_nil, Nat.not_lt_zero, Nat.sub_zero, List.cons_append, List.nil_append]))
       repeat' (first | ((first | refine MX_okL rfl ?_ | refine LNext_if sd ?_ | refine ZNext_if sd ?_ | refine ZY_if sd ?_ | refine And.intro okq ?_); (try simp only [go_sem, seval])) | (refine And.intro ?_ ?_))
       exact kp [.old 0, .old 2]
      ·rw [if_neg t2] at ho2
       rw [← ho2]
       simp only [go_sem, seval, J24, t2, ge_iff_le]
       repeat' (first | ((first | refine MX_okL rfl ?_ | refine LNext_if sd ?_ | refine ZNext_if sd ?_ | refine ZY_if sd ?_ | refine And.intro okq ?_); (try simp only [go_sem, seval, t2, ge_iff_le])) | (refine And.intro ?_ ?_))
       exact kp [.old 0, .old 1]
     ·refine MX_ok ?_
      have c44 := step44 4 S N A q c a1'' dc
      unfold aV at c44
      have ht := (h.fit.tab q c hq hc).2
      have wm : IntKind.wrap .i64 (most - o2.length) = most - o2.length := wrapI (by omega) (by omega)
      unfold matO at ho3
      unfold O24 aO
      by_cases t0 : 0 ≤ Ne.nx N q c
      ·obtain ⟨t, et⟩ : ∃ t : Nat, Ne.nx N q c = t := ⟨(Ne.nx N q c).toNat, by omega⟩
       rw [et] at c44 ht
       have ht0 : (0 : Int) ≤ (t : Int) := by omega
       rw [if_pos t0, et, Int.toNat_natCast] at ho3
       have cr := ih (i + 1) t w (most - o2.length) (by omega) (by omega) (by omega) (by omega) (by rw [hP]; omega) (by omega)
       have hl1 := hall (i + 1) (ws.drop (i + 1)) t (w : Int) (most - o2.length)
       generalize allF N A f (i + 1) (ws.drop (i + 1)) t (w : Int) (most - o2.length) = l at cr ho3 hl1
       have e3 : o3.length = o2.length + l.length := by rw [← ho3, List.length_append]
       have e4 : lls o2 ++ lls l = lls o3 := by rw [lls_app, ho3]
       have lt := lls_take l
       unfold allV aV at cr
       simp only [go_sem, seval, J24, lts_drop ec, hil', Int.toNat_natCast, ht0, ge_iff_le, wm, wi]
       repeat' (first | ((first | ((first | refine ZCall_pure (c44) (Cls.of ?_) ?_ | refine LCall_pure (cr) (Cls.of ?_) ?_); exact cx) | refine MW_still dl24_19 mixedP dx24_19 ?_ | refine MX_okL rfl ?_ | refine LNext_if sd ?_ | refine ZNext_if sd ?_ | refine ZY_if sd ?_ | refine And.intro okq ?_); (try simp only [go_sem, seval, l24_19, lts_drop ec, hil', Int.toNat_natCast, ht0, ge_iff_le, wm, wi, lt, lls_len, e4])) | (refine And.intro ?_ ?_))
       exact Fin_of ⟨rfl, rfl⟩ (kp [])
      ·rw [if_neg t0] at ho3
       rw [← ho3]
       simp only [go_sem, seval, J24, lts_drop ec, hil', Int.toNat_natCast, t0, ge_iff_le]
       repeat' (first | ((first | ((first | refine ZCall_pure (c44) (Cls.of ?_) ?_); exact cx) | refine MW_still dl24_19 mixedP dx24_19 ?_ | refine MX_okL rfl ?_ | refine LNext_if sd ?_ | refine ZNext_if sd ?_ | refine ZY_if sd ?_ | refine And.intro okq ?_); (try simp only [go_sem, seval, l24_19, lts_drop ec, hil', Int.toNat_natCast, t0, ge_iff_le])) | (refine And.intro ?_ ?_))
       exact Fin_of ⟨rfl, rfl⟩ (kp [])
end Go.Proofs.YtcjckmnhlfbdlaaGreatDoor
