/- Part 44 of the texts that lead to repairNearestCard_holds. No condition. -/
import Derived.Test.YtcjckmnhlfbdlaaGreatDoorH43
set_option linter.all false
set_option maxRecDepth 100000
namespace Go.Proofs.YtcjckmnhlfbdlaaGreatDoor
open Go Go.Abs Go.Rep
def wordE (l : List Int) : Int := if (60 : Int) < l.length then 3 else if l.any badL then 6 else 0
def S22 (l : List Int) (k : Nat) : List AV := [.im l.length (ints l), .any, .any, .v (.int .i64 k), .any, .any, .any, .any, .any, .any, .any, .any, .any, .any, .any, .any, .any, .any, .any, .any, .any, .any, .any, .any, .any]
theorem word22 (l : List Int) : APure Tryz.prog 22 [.im l.length (ints l)] (.v (.int .i64 (wordE l))) := by
 refine callp22 ?_
 unfold wordE
 by_cases h0 : (60 : Int) < l.length
 ·simp only [go_sem, seval, L22, h0]
  exact Fin_of ⟨rfl, rfl⟩ (kp [])
 ·simp only [go_sem, seval, L22, h0]
  repeat' (first | ((first | refine MX_okL rfl ?_ | refine LNext_if sd ?_ | refine ZNext_if sd ?_ | refine ZY_if sd ?_ | refine And.intro okq ?_); (try simp only [go_sem, seval])) | (refine And.intro ?_ ?_))
  refine MW_loop_st (S22 l) (fun _ => []) (fun k => k ≤ l.length ∧ l.any badL = (l.drop k).any badL) (fun k => l.length - k) 0 ?_ ⟨Nat.zero_le _, by simp⟩ ?_
  ·exact kp []
  ·rintro k ⟨i1, i2⟩
   rcases Nat.lt_or_ge k l.length with hi | hi
   ·obtain ⟨x, hx, hx'⟩ := dropG hi
    have hi' : (k : Int) < l.length := by omega
    rw [hx'] at i2
    by_cases h1 : x < 0
    ·have hb : badL x = true := by simp [badL, h1]
     simp only [go_sem, seval, L22_b0, S22, hi', ints_drop hx, Int.toNat_natCast, h1]
     repeat' (first | ((first | refine MX_okL rfl ?_ | refine LNext_if sd ?_ | refine ZNext_if sd ?_ | refine ZY_if sd ?_ | refine And.intro okq ?_); (try simp only [go_sem, seval, ints_drop hx, Int.toNat_natCast, h1])) | (refine And.intro ?_ ?_))
     rw [i2]
     exact Fin_of ⟨rfl, rfl⟩ (kp [])
    ·by_cases h2 : 4 ≤ x
     ·have hb : badL x = true := by simp [badL]; omega
      simp only [go_sem, seval, L22_b0, S22, hi', ints_drop hx, Int.toNat_natCast, h1, h2]
      repeat' (first | ((first | refine MX_okL rfl ?_ | refine LNext_if sd ?_ | refine ZNext_if sd ?_ | refine ZY_if sd ?_ | refine And.intro okq ?_); (try simp only [go_sem, seval, ints_drop hx, Int.toNat_natCast, h1, h2])) | (refine And.intro ?_ ?_))
      rw [i2]
      exact Fin_of ⟨rfl, rfl⟩ (kp [])
     ·have hb : badL x = false := by simp [badL]; omega
      simp only [go_sem, seval, L22_b0, S22, hi', ints_drop hx, Int.toNat_natCast, h1, h2]
      repeat' (first | ((first | refine MX_okL rfl ?_ | refine LNext_if sd ?_ | refine ZNext_if sd ?_ | refine ZY_if sd ?_ | refine And.intro okq ?_); (try simp only [go_sem, seval, ints_drop hx, Int.toNat_natCast, h1, h2])) | (refine And.intro ?_ ?_))
      refine ⟨k + 1, by omega, ⟨by omega, ?_⟩, ?_⟩
      ·rw [i2]; simp [hb]
      ·(have kr0 := wrapS (show k < 9223372036854775807 by omega); exact kp [])
   ·have hi' : ¬ (k : Int) < l.length := by omega
    rw [List.drop_of_length_le hi] at i2
    rw [i2]
    simp only [go_sem, seval, L22_b0, S22, hi']
    repeat' (first | ((first | refine MX_okL rfl ?_ | refine LNext_if sd ?_ | refine ZNext_if sd ?_ | refine ZY_if sd ?_ | refine And.intro okq ?_); (try simp only [go_sem, seval])) | (refine And.intro ?_ ?_))
    exact Fin_of ⟨rfl, rfl⟩ (kp [])
theorem getD_of {L : List Int} {n : Nat} {x : Int} (h : L[n]? = some x) : L.getD (Int.toNat (n : Int)) 0 = x := by simp [h]
def xr (v : Int) : Int := IntKind.i64.wrap ((BitVec.ofInt 64 v ^^^ 1#64).toNat : Int)
theorem seg_len {L : List Int} {t m : Nat} {d : Bool} (h : t ≤ m) : (seg L t m d).length ≤ m - t := by
 simp only [seg, st, List.length_drop, List.length_take]
 split <;> omega
theorem seg_end (L : List Int) (m : Nat) (d : Bool) : seg L m m d = [] := by
 simp only [seg, st, List.drop_eq_nil_iff, List.length_take]
 split <;> omega
theorem seg_skip {L : List Int} {t m : Nat} (h : t < m) : seg L t m true = seg L (t + 1) m false := rfl
theorem seg_take {L : List Int} {t m : Nat} {x : Int} (h : t < m) (hx : L[t]? = some x) : seg L t m false = x :: seg L (t + 1) m false := by
 have hl := (List.getElem?_eq_some_iff.1 hx).1
 simp only [seg, st, Bool.false_eq_true, if_false]
 have h2 : t < (L.take m).length := by rw [List.length_take]; omega
 rw [List.drop_eq_getElem_cons h2]
 have : (L.take m)[t] = x := by
  rw [List.getElem_take]
  exact (List.getElem?_eq_some_iff.1 hx).2
 rw [this]
def S26 (L : List Int) (l : List Ch) (s : Nat × List Int × Nat × Bool) : List AV := [.im L.length (ints L), .any, .any, .any, .any, .any, .sl 0 0 s.2.1.length, .v (.int .i64 s.2.2.1), .v (.bool s.2.2.2), .any, .any, .im l.length (chs l), .v (.int .i64 l.length), .v (.int .i64 s.1), .any, .any, .any, .any, .any, .any, .any, .any, .any, .any, .any, .any, .any, .any, .any, .any, .any, .any, .any, .any, .any, .any, .any, .any, .any, .any, .any, .any, .any, .any, .any, .any, .any, .any, .any, .any, .any, .any, .any, .any, .any, .any, .any, .any, .any, .any, .any, .any, .any, .any, .any, .any, .any, .any, .any, .any, .any, .any, .any, .any, .any, .any, .any, .any, .any, .any, .any, .any, .any, .any, .any, .any, .any, .any, .any, .any, .any, .any, .any, .any, .any, .any, .any, .any, .any, .any, .any, .any, .any, .any, .any, .any, .any, .any, .any, .any, .any, .any, .any, .any, .any, .any, .any, .any, .any, .any, .any]
def S26b (L : List Int) (l : List Ch) (i : Nat) (s : List Int × Nat × Bool) : List AV := [.im L.length (ints L), .any, .any, .any, .any, .any, .sl 0 0 s.1.length, .v (.int .i64 s.2.1), .v (.bool s.2.2), .any, .pt 1 0, .im l.length (chs l), .v (.int .i64 l.length), .v (.int .i64 i), .any, .any, .any, .any, .any, .any, .any, .any, .any, .any, .any, .any, .any, .any, .any, .any, .any, .any, .any, .any, .any, .any, .any, .any, .any, .any, .any, .any, .any, .any, .any, .any, .any, .any, .any, .any, .any, .any, .any, .any, .any, .any, .any, .any, .any, .any, .any, .any, .any, .any, .any, .any, .any, .any, .any, .any, .any, .any, .any, .any, .any, .any, .any, .any, .any, .any, .any, .any, .any, .any, .any, .any, .any, .any, .any, .any, .any, .any, .any, .any, .any, .any, .any, .any, .any, .any, .any, .any, .any, .any, .any, .any, .any, .any, .any, .any, .any, .any, .any, .any, .any, .any, .any, .any, .any, .any, .any]
def S26c (L : List Int) (s : List Int × Nat × Bool) : List AV := [.im L.length (ints L), .any, .any, .any, .any, .any, .sl 0 0 s.1.length, .v (.int .i64 s.2.1), .v (.bool s.2.2), .any, .any, .any, .any, .any, .any, .any, .any, .any, .any, .any, .any, .any, .any, .any, .any, .any, .any, .any, .any, .any, .any, .any, .any, .any, .any, .any, .any, .any, .any, .any, .any, .any, .any, .any, .any, .any, .any, .any, .any, .any, .any, .any, .any, .any, .any, .any, .any, .any, .any, .any, .any, .any, .any, .any, .any, .any, .any, .any, .any, .any, .any, .any, .any, .any, .any, .any, .any, .any, .any, .any, .any, .any, .any, .any, .any, .any, .any, .any, .any, .any, .any, .any, .any, .any, .any, .any, .any, .any, .any, .any, .any, .any, .any, .any, .any, .any, .any, .any, .any, .any, .any, .any, .any, .any, .any, .any, .any, .any, .any, .any, .any]
def J26 (L : List Int) (l : List Ch) (s : Nat × List Int × Nat × Bool) : Prop :=
 s.1 ≤ l.length ∧ s.2.2.1 ≤ L.length ∧ s.2.1.length ≤ s.2.2.1 + s.1 ∧ runP xr L l ([], 0, false) = runP xr L (l.drop s.1) s.2
def J26b (L : List Int) (i m : Nat) (O : List Int) (s : List Int × Nat × Bool) : Prop :=
 s.2.1 ≤ m ∧ (s.2.1 = m → s.2.2 = false) ∧ s.1.length ≤ s.2.1 + i ∧ s.1 ++ seg L s.2.1 m s.2.2 = O
set_option maxHeartbeats 2000000 in
theorem apply26 (L : List Int) (l : List Ch) (hL : L.length ≤ 60) (hl : l.length ≤ 30) : APure Tryz.prog 26 [.im L.length (ints L), .im l.length (chs l)]
 (.tu [.im ((runP xr L l ([], 0, false)).getD []).length (ints ((runP xr L l ([], 0, false)).getD [])), .v (.bool (runP xr L l ([], 0, false)).isSome)]) := by
 refine callp26 ?_
 simp only [go_sem, seval, L26]
 repeat' (first | ((first | refine MX_okL rfl ?_ | refine LNext_if sd ?_ | refine ZNext_if sd ?_ | refine ZY_if sd ?_ | refine And.intro okq ?_); (try simp only [go_sem, seval])) | (refine And.intro ?_ ?_))
 refine MW_loop_st (S26 L l) (fun s => [.cells 1 (ints s.2.1)]) (J26 L l) (fun s => l.length - s.1) (0, [], 0, false) ?_ ⟨Nat.zero_le _, Nat.zero_le _, Nat.zero_le _, rfl⟩ ?_
 ·exact kp [.new 1]
 ·rintro ⟨i, o, t, d⟩ ⟨i1, i2, i3, i5⟩
  dsimp only at i1 i2 i3 i5
  rcases Nat.lt_or_ge i l.length with hi | hi
  ·obtain ⟨⟨k, a, cc⟩, hx, hx'⟩ := dropG hi
   have hi' : (i : Int) < l.length := by omega
   have hi0 : (0 : Int) ≤ i := by omega
   have hd : (chs l).drop (i * 3) = [.v (.int .i64 k), .v (.int .i64 a), .v (.int .i64 cc)] ++ chs (l.drop (i + 1)) := chs_drop hx
   have wi := wrapS (show i < 9223372036854775807 by omega)
   rw [hx', runP] at i5
   by_cases hb : a < t ∨ (L.length : Int) < a ∨ (a = t ∧ d = true)
   ·have e1 : stepP xr L (o, t, d) ⟨k, a, cc⟩ = none := by simp only [stepP]; rw [if_pos hb]
    rw [e1] at i5
    rw [i5]
    simp only [Option.getD_none, Option.isSome_none, List.length_nil, ints_nil]
    by_cases h1 : a < t
    ·simp only [go_sem, seval, L26_b1, S26, hi', hd, Int.toNat_natCast, h1]
     repeat' (first | ((first | refine MX_okL rfl ?_ | refine LNext_if sd ?_ | refine ZNext_if sd ?_ | refine ZY_if sd ?_ | refine And.intro okq ?_); (try simp only [go_sem, seval, hi', hd, Int.toNat_natCast, h1])) | (refine And.intro ?_ ?_))
     all_goals first | (exfalso; omega) | exact Fin_of ⟨rfl, rfl⟩ (kp [])
    ·by_cases h2 : (L.length : Int) < a
     ·simp only [go_sem, seval, L26_b1, S26, hi', hd, Int.toNat_natCast, h1, h2]
      repeat' (first | ((first | refine MX_okL rfl ?_ | refine LNext_if sd ?_ | refine ZNext_if sd ?_ | refine ZY_if sd ?_ | refine And.intro okq ?_); (try simp only [go_sem, seval, hi', hd, Int.toNat_natCast, h1, h2])) | (refine And.intro ?_ ?_))
      all_goals first | (exfalso; omega) | exact Fin_of ⟨rfl, rfl⟩ (kp [])
     ·have h3 : a = t ∧ d = true := hb.elim (fun q => absurd q h1) fun q => q.elim (fun q => absurd q h2) _root_.id
      obtain ⟨rfl, rfl⟩ := h3
      have h4 : ((t : Int) == (t : Int)) = true := by simp
      simp only [go_sem, seval, L26_b1, S26, hi', hd, Int.toNat_natCast, h1, h2, h4]
      repeat' (first | ((first | refine MX_okL rfl ?_ | refine LNext_if sd ?_ | refine ZNext_if sd ?_ | refine ZY_if sd ?_ | refine And.intro okq ?_); (try simp only [go_sem, seval, hi', hd, Int.toNat_natCast, h1, h2, h4])) | (refine And.intro ?_ ?_))
      all_goals first | (exfalso; omega) | exact Fin_of ⟨rfl, rfl⟩ (kp [])
   ·have h1 : ¬ a < t := fun q => hb (.inl q)
    have h2 : ¬ (L.length : Int) < a := fun q => hb (.inr (.inl q))
    have h3 : ¬ (a = t ∧ d = true) := fun q => hb (.inr (.inr q))
    obtain ⟨m, rfl⟩ : ∃ m : Nat, a = m := ⟨a.toNat, by omega⟩
    have m1 : m ≤ L.length := by omega
    have m2 : t ≤ m := by omega
    have sl := seg_len (L := L) (d := d) m2
    have enter : (t = m → d = false) := fun e => by
     cases d
     ·rfl
     ·exact absurd ⟨by omega, rfl⟩ h3
    by_cases he : m = t
    ·have h4 : ((m : Int) == (t : Int)) = true := by simp [he]
     have h5 : d = false := enter he.symm
     simp only [go_sem, seval, L26_b1, S26, hi', hd, Int.toNat_natCast, h1, h2, h4, h5]
     repeat' (first | ((first | refine MX_okL rfl ?_ | refine LNext_if sd ?_ | refine ZNext_if sd ?_ | refine ZY_if sd ?_ | refine And.intro okq ?_); (try simp only [go_sem, seval, hi', hd, Int.toNat_natCast, h1, h2, h4, h5])) | (refine And.intro ?_ ?_))
     refine MW_loop_st (S26b L l i) (fun s => [.cells 1 (ints s.1), .cells 1 [.v (.int .i64 k), .v (.int .i64 m), .v (.int .i64 cc)]]) (J26b L i m (o ++ seg L t m d)) (fun s => m - s.2.1) (o, t, d) ?_ ⟨m2, enter, i3, rfl⟩ ?_
     ·exact kp [.old 0, .old 1]
     ·rintro ⟨o2, t2, d2⟩ ⟨j1, j2, j3, j4⟩
      dsimp only at j1 j2 j3 j4
      rcases Nat.lt_or_ge t2 m with ht | ht
      ·have ht' : (t2 : Int) < m := by omega
       obtain ⟨y, hy, hy'⟩ := dropG (l := L) (k := t2) (by omega)
       have wt := wrapS (show t2 < 9223372036854775807 by omega)
       have ht3 : (t2 : Int) < L.length := by omega
       cases d2
       ·rw [seg_take ht hy] at j4
        simp only [go_sem, seval, L26_b0, S26b, ht', ht3, ints_drop hy, Int.toNat_natCast]
        repeat' (first | ((first | refine MX_okL rfl ?_ | refine LNext_if sd ?_ | refine ZNext_if sd ?_ | refine ZY_if sd ?_ | refine And.intro okq ?_); (try simp only [go_sem, seval, ht', ht3, ints_drop hy, Int.toNat_natCast, ints_snoc])) | (refine And.intro ?_ ?_))
        refine ⟨(o2 ++ [y], t2 + 1, false), by dsimp only; omega, ⟨by dsimp only; omega, fun _ => rfl, by simp; omega, by simpa using j4⟩, ?_⟩
        (have kr0 := @ints_snoc; exact kp [.old 3, .old 1])
       ·rw [seg_skip ht] at j4
        simp only [go_sem, seval, L26_b0, S26b, ht', ht3, ints_drop hy, Int.toNat_natCast]
        repeat' (first | ((first | refine MX_okL rfl ?_ | refine LNext_if sd ?_ | refine ZNext_if sd ?_ | refine ZY_if sd ?_ | refine And.intro okq ?_); (try simp only [go_sem, seval, ht', ht3, ints_drop hy, Int.toNat_natCast, ints_snoc])) | (refine And.intro ?_ ?_))
        refine ⟨(o2, t2 + 1, false), by dsimp only; omega, ⟨by dsimp only; omega, fun _ => rfl, by dsimp only; omega, j4⟩, ?_⟩
        exact kp [.old 0, .old 1]
      ·obtain rfl : m = t2 := by omega
       obtain rfl : d2 = false := j2 rfl
       rw [seg_end, List.append_nil] at j4
       by_cases hA : k = 2 ∧ 0 ≤ cc ∧ cc ≤ 3
       ·have es : stepP xr L (o, t, d) ⟨k, m, cc⟩ = some (o2 ++ [cc], m, false) := by
         simp only [stepP, Int.toNat_natCast]; rw [if_neg hb, if_pos hA, j4]
        obtain ⟨rfl, a1, a2⟩ := hA
        rw [es] at i5
        simp only [go_sem, seval, L26_b0, S26b, Int.lt_irrefl, a1, a2]
        repeat' (first | ((first | refine MX_okL rfl ?_ | refine LNext_if sd ?_ | refine ZNext_if sd ?_ | refine ZY_if sd ?_ | refine And.intro okq ?_); (try simp only [go_sem, seval, Int.lt_irrefl, a1, a2, ints_snoc])) | (refine And.intro ?_ ?_))
        refine ⟨(i + 1, o2 ++ [cc], m, false), by dsimp only; omega, ⟨by dsimp only; omega, m1, by simp; omega, i5⟩, ?_⟩
        (have kr0 := @ints_snoc; exact kp [.old 3])
       ·by_cases hn : m = L.length
        ·have es : stepP xr L (o, t, d) ⟨k, m, cc⟩ = none := by
          simp only [stepP, Int.toNat_natCast]; rw [if_neg hb, if_neg hA, if_pos (by omega)]
         rw [es] at i5
         rw [i5]
         simp only [Option.getD_none, Option.isSome_none, List.length_nil, ints_nil]
         have hn' : ((m : Int) == (L.length : Int)) = true := by simp [hn]
         simp only [go_sem, seval, L26_b0, S26b, Int.lt_irrefl, hn']
         repeat' (first | ((first | refine MX_okL rfl ?_ | refine LNext_if sd ?_ | refine ZNext_if sd ?_ | refine ZY_if sd ?_ | refine And.intro okq ?_); (try simp only [go_sem, seval, Int.lt_irrefl, hn'])) | ((first | refine MCond_split ?_ ?_ | refine LGuard_split ?_ ?_ | refine ZG_split ?_ ?_) <;> (intro hc; (try simp only [go_sem, seval, hc, Int.lt_irrefl, hn']); (try simp only [decide_eq_true_eq, decide_eq_false_iff_not, Bool.not_eq_true', Bool.not_eq_false', Bool.not_eq_true, Bool.not_eq_false, beq_iff_eq, bne_iff_ne, ne_eq, beq_eq_false_iff_ne, bne_eq_false_iff_eq, Int.not_lt, Int.not_le, gt_iff_lt, ge_iff_le, Decidable.not_not] at hc))) | (refine And.intro ?_ ?_))
         all_goals first | (exfalso; omega) | exact Fin_of ⟨rfl, rfl⟩ (kp [])
        ·have hn' : ((m : Int) == (L.length : Int)) = false := by simp; omega
         have hn3 : (m : Int) < L.length := by omega
         obtain ⟨y, hy, hy'⟩ := dropG (l := L) (k := m) (by omega)
         have gd := getD_of hy
         by_cases hC : k = 1 ∧ cc = xr y
         ·have es : stepP xr L (o, t, d) ⟨k, m, cc⟩ = some (o2 ++ [cc], m, true) := by
           simp only [stepP]; rw [if_neg hb, if_neg hA, if_neg (by omega), if_pos ⟨hC.1, by rw [gd]; exact hC.2⟩, j4, Int.toNat_natCast]
          rw [es] at i5
          obtain ⟨rfl, hC⟩ := hC
          have hq : (cc == IntKind.i64.wrap ((BitVec.ofInt 64 y ^^^ 1#64).toNat : Int)) = true := by rw [hC]; simp [xr]
          simp only [go_sem, seval, L26_b0, S26b, Int.lt_irrefl, hn', hn3, hq]
          repeat' (first | ((first | refine MW_still dl26_18 mixedP dx26_18 ?_ | refine MX_okL rfl ?_ | refine LNext_if sd ?_ | refine ZNext_if sd ?_ | refine ZY_if sd ?_ | refine And.intro okq ?_); (try simp only [go_sem, seval, l26_18, Int.lt_irrefl, hn', hn3, ints_drop hy, Int.toNat_natCast, hq, ints_snoc])) | ((first | refine MCond_split ?_ ?_ | refine LGuard_split ?_ ?_ | refine ZG_split ?_ ?_) <;> (intro hc; (try simp only [go_sem, seval, hc, l26_18, Int.lt_irrefl, hn', hn3, ints_drop hy, Int.toNat_natCast, hq, ints_snoc]); (try simp only [decide_eq_true_eq, decide_eq_false_iff_not, Bool.not_eq_true', Bool.not_eq_false', Bool.not_eq_true, Bool.not_eq_false, beq_iff_eq, bne_iff_ne, ne_eq, beq_eq_false_iff_ne, bne_eq_false_iff_eq, Int.not_lt, Int.not_le, gt_iff_lt, ge_iff_le, Decidable.not_not] at hc))) | (refine And.intro ?_ ?_))
          all_goals try (exfalso; exact (by assumption : ¬ cc = xr y) hC)
          refine ⟨(i + 1, o2 ++ [cc], m, true), by dsimp only; omega, ⟨by dsimp only; omega, m1, by simp; omega, i5⟩, ?_⟩
          (have kr0 := @ints_snoc; exact kp [.old 3])
         ·have hC2 : ¬ (k = 1 ∧ cc = xr (L.getD (Int.toNat (m : Int)) 0)) := by rw [gd]; exact hC
          by_cases hD : k = 3 ∧ cc = 0
          ·have es : stepP xr L (o, t, d) ⟨k, m, cc⟩ = some (o2, m, true) := by
            simp only [stepP]; rw [if_neg hb, if_neg hA, if_neg (by omega), if_neg hC2, if_pos hD, j4, Int.toNat_natCast]
           rw [es] at i5
           obtain ⟨rfl, rfl⟩ := hD
           simp only [go_sem, seval, L26_b0, S26b, Int.lt_irrefl, hn', hn3]
           repeat' (first | ((first | refine MW_still dl26_18 mixedP dx26_18 ?_ | refine MX_okL rfl ?_ | refine LNext_if sd ?_ | refine ZNext_if sd ?_ | refine ZY_if sd ?_ | refine And.intro okq ?_); (try simp only [go_sem, seval, l26_18, Int.lt_irrefl, hn', hn3, ints_drop hy, Int.toNat_natCast])) | ((first | refine MCond_split ?_ ?_ | refine LGuard_split ?_ ?_ | refine ZG_split ?_ ?_) <;> (intro hc; (try simp only [go_sem, seval, hc, l26_18, Int.lt_irrefl, hn', hn3, ints_drop hy, Int.toNat_natCast]); (try simp only [decide_eq_true_eq, decide_eq_false_iff_not, Bool.not_eq_true', Bool.not_eq_false', Bool.not_eq_true, Bool.not_eq_false, beq_iff_eq, bne_iff_ne, ne_eq, beq_eq_false_iff_ne, bne_eq_false_iff_eq, Int.not_lt, Int.not_le, gt_iff_lt, ge_iff_le, Decidable.not_not] at hc))) | (refine And.intro ?_ ?_))
           refine ⟨(i + 1, o2, m, true), by dsimp only; omega, ⟨by dsimp only; omega, m1, by dsimp only; omega, i5⟩, ?_⟩
           exact kp [.old 0]
          ·have es : stepP xr L (o, t, d) ⟨k, m, cc⟩ = none := by
            simp only [stepP]; rw [if_neg hb, if_neg hA, if_neg (by omega), if_neg hC2, if_neg hD]
           rw [es] at i5
           rw [i5]
           simp only [Option.getD_none, Option.isSome_none, List.length_nil, ints_nil]
           by_cases hk1 : k = 1
           ·subst hk1
            have hC3 : ¬ cc = xr y := fun q => hC (And.intro rfl q)
            have hq : (cc == IntKind.i64.wrap ((BitVec.ofInt 64 y ^^^ 1#64).toNat : Int)) = false := by
             simp only [beq_eq_false_iff_ne, ne_eq]
             exact hC3
            simp only [go_sem, seval, L26_b0, S26b, Int.lt_irrefl, hn', hn3, hq]
            repeat' (first | ((first | refine MW_still dl26_18 mixedP dx26_18 ?_ | refine MX_okL rfl ?_ | refine LNext_if sd ?_ | refine ZNext_if sd ?_ | refine ZY_if sd ?_ | refine And.intro okq ?_); (try simp only [go_sem, seval, l26_18, Int.lt_irrefl, hn', hn3, ints_drop hy, Int.toNat_natCast, hq])) | ((first | refine MCond_split ?_ ?_ | refine LGuard_split ?_ ?_ | refine ZG_split ?_ ?_) <;> (intro hc; (try simp only [go_sem, seval, hc, l26_18, Int.lt_irrefl, hn', hn3, ints_drop hy, Int.toNat_natCast, hq]); (try simp only [decide_eq_true_eq, decide_eq_false_iff_not, Bool.not_eq_true', Bool.not_eq_false', Bool.not_eq_true, Bool.not_eq_false, beq_iff_eq, bne_iff_ne, ne_eq, beq_eq_false_iff_ne, bne_eq_false_iff_eq, Int.not_lt, Int.not_le, gt_iff_lt, ge_iff_le, Decidable.not_not] at hc))) | (refine And.intro ?_ ?_))
            all_goals first | (exfalso; omega) | (exfalso; exact hC3 (by assumption)) | exact Fin_of ⟨rfl, rfl⟩ (kp [])
           ·have hk1' : (k == 1) = false := by simp [hk1]
            simp only [go_sem, seval, L26_b0, S26b, Int.lt_irrefl, hn', hn3, hk1']
            repeat' (first | ((first | refine MW_still dl26_18 mixedP dx26_18 ?_ | refine MX_okL rfl ?_ | refine LNext_if sd ?_ | refine ZNext_if sd ?_ | refine ZY_if sd ?_ | refine And.intro okq ?_); (try simp only [go_sem, seval, l26_18, Int.lt_irrefl, hn', hn3, ints_drop hy, Int.toNat_natCast, hk1'])) | ((first | refine MCond_split ?_ ?_ | refine LGuard_split ?_ ?_ | refine ZG_split ?_ ?_) <;> (intro hc; (try simp only [go_sem, seval, hc, l26_18, Int.lt_irrefl, hn', hn3, ints_drop hy, Int.toNat_natCast, hk1']); (try simp only [decide_eq_true_eq, decide_eq_false_iff_not, Bool.not_eq_true', Bool.not_eq_false', Bool.not_eq_true, Bool.not_eq_false, beq_iff_eq, bne_iff_ne, ne_eq, beq_eq_false_iff_ne, bne_eq_false_iff_eq, Int.not_lt, Int.not_le, gt_iff_lt, ge_iff_le, Decidable.not_not] at hc))) | (refine And.intro ?_ ?_))
            all_goals first | (exfalso; omega) | exact Fin_of ⟨rfl, rfl⟩ (kp [])
    ·have h4 : ((m : Int) == (t : Int)) = false := by simp; omega
     simp only [go_sem, seval, L26_b1, S26, hi', hd, Int.toNat_natCast, h1, h2, h4]
     repeat' (first | ((first | refine MX_okL rfl ?_ | refine LNext_if sd ?_ | refine ZNext_if sd ?_ | refine ZY_if sd ?_ | refine And.intro okq ?_); (try simp only [go_sem, seval, hi', hd, Int.toNat_natCast, h1, h2, h4])) | (refine And.intro ?_ ?_))
     refine MW_loop_st (S26b L l i) (fun s => [.cells 1 (ints s.1), .cells 1 [.v (.int .i64 k), .v (.int .i64 m), .v (.int .i64 cc)]]) (J26b L i m (o ++ seg L t m d)) (fun s => m - s.2.1) (o, t, d) ?_ ⟨m2, enter, i3, rfl⟩ ?_
     ·exact kp [.old 0, .old 1]
     ·rintro ⟨o2, t2, d2⟩ ⟨j1, j2, j3, j4⟩
      dsimp only at j1 j2 j3 j4
      rcases Nat.lt_or_ge t2 m with ht | ht
      ·have ht' : (t2 : Int) < m := by omega
       obtain ⟨y, hy, hy'⟩ := dropG (l := L) (k := t2) (by omega)
       have wt := wrapS (show t2 < 9223372036854775807 by omega)
       have ht3 : (t2 : Int) < L.length := by omega
       cases d2
       ·rw [seg_take ht hy] at j4
        simp only [go_sem, seval, L26_b0, S26b, ht', ht3, ints_drop hy, Int.toNat_natCast]
        repeat' (first | ((first | refine MX_okL rfl ?_ | refine LNext_if sd ?_ | refine ZNext_if sd ?_ | refine ZY_if sd ?_ | refine And.intro okq ?_); (try simp only [go_sem, seval, ht', ht3, ints_drop hy, Int.toNat_natCast, ints_snoc])) | (refine And.intro ?_ ?_))
        refine ⟨(o2 ++ [y], t2 + 1, false), by dsimp only; omega, ⟨by dsimp only; omega, fun _ => rfl, by simp; omega, by simpa using j4⟩, ?_⟩
        (have kr0 := @ints_snoc; exact kp [.old 3, .old 1])
       ·rw [seg_skip ht] at j4
        simp only [go_sem, seval, L26_b0, S26b, ht', ht3, ints_drop hy, Int.toNat_natCast]
        repeat' (first | ((first | refine MX_okL rfl ?_ | refine LNext_if sd ?_ | refine ZNext_if sd ?_ | refine ZY_if sd ?_ | refine And.intro okq ?_); (try simp only [go_sem, seval, ht', ht3, ints_drop hy, Int.toNat_natCast, ints_snoc])) | (refine And.intro ?_ ?_))
        refine ⟨(o2, t2 + 1, false), by dsimp only; omega, ⟨by dsimp only; omega, fun _ => rfl, by dsimp only; omega, j4⟩, ?_⟩
        exact kp [.old 0, .old 1]
      ·obtain rfl : m = t2 := by omega
       obtain rfl : d2 = false := j2 rfl
       rw [seg_end, List.append_nil] at j4
       by_cases hA : k = 2 ∧ 0 ≤ cc ∧ cc ≤ 3
       ·have es : stepP xr L (o, t, d) ⟨k, m, cc⟩ = some (o2 ++ [cc], m, false) := by
         simp only [stepP, Int.toNat_natCast]; rw [if_neg hb, if_pos hA, j4]
        obtain ⟨rfl, a1, a2⟩ := hA
        rw [es] at i5
        simp only [go_sem, seval, L26_b0, S26b, Int.lt_irrefl, a1, a2]
        repeat' (first | ((first | refine MX_okL rfl ?_ | refine LNext_if sd ?_ | refine ZNext_if sd ?_ | refine ZY_if sd ?_ | refine And.intro okq ?_); (try simp only [go_sem, seval, Int.lt_irrefl, a1, a2, ints_snoc])) | (refine And.intro ?_ ?_))
        refine ⟨(i + 1, o2 ++ [cc], m, false), by dsimp only; omega, ⟨by dsimp only; omega, m1, by simp; omega, i5⟩, ?_⟩
        (have kr0 := @ints_snoc; exact kp [.old 3])
       ·by_cases hn : m = L.length
        ·have es : stepP xr L (o, t, d) ⟨k, m, cc⟩ = none := by
          simp only [stepP, Int.toNat_natCast]; rw [if_neg hb, if_neg hA, if_pos (by omega)]
         rw [es] at i5
         rw [i5]
         simp only [Option.getD_none, Option.isSome_none, List.length_nil, ints_nil]
         have hn' : ((m : Int) == (L.length : Int)) = true := by simp [hn]
         simp only [go_sem, seval, L26_b0, S26b, Int.lt_irrefl, hn']
         repeat' (first | ((first | refine MX_okL rfl ?_ | refine LNext_if sd ?_ | refine ZNext_if sd ?_ | refine ZY_if sd ?_ | refine And.intro okq ?_); (try simp only [go_sem, seval, Int.lt_irrefl, hn'])) | ((first | refine MCond_split ?_ ?_ | refine LGuard_split ?_ ?_ | refine ZG_split ?_ ?_) <;> (intro hc; (try simp only [go_sem, seval, hc, Int.lt_irrefl, hn']); (try simp only [decide_eq_true_eq, decide_eq_false_iff_not, Bool.not_eq_true', Bool.not_eq_false', Bool.not_eq_true, Bool.not_eq_false, beq_iff_eq, bne_iff_ne, ne_eq, beq_eq_false_iff_ne, bne_eq_false_iff_eq, Int.not_lt, Int.not_le, gt_iff_lt, ge_iff_le, Decidable.not_not] at hc))) | (refine And.intro ?_ ?_))
         all_goals first | (exfalso; omega) | exact Fin_of ⟨rfl, rfl⟩ (kp [])
        ·have hn' : ((m : Int) == (L.length : Int)) = false := by simp; omega
         have hn3 : (m : Int) < L.length := by omega
         obtain ⟨y, hy, hy'⟩ := dropG (l := L) (k := m) (by omega)
         have gd := getD_of hy
         by_cases hC : k = 1 ∧ cc = xr y
         ·have es : stepP xr L (o, t, d) ⟨k, m, cc⟩ = some (o2 ++ [cc], m, true) := by
           simp only [stepP]; rw [if_neg hb, if_neg hA, if_neg (by omega), if_pos ⟨hC.1, by rw [gd]; exact hC.2⟩, j4, Int.toNat_natCast]
          rw [es] at i5
          obtain ⟨rfl, hC⟩ := hC
          have hq : (cc == IntKind.i64.wrap ((BitVec.ofInt 64 y ^^^ 1#64).toNat : Int)) = true := by rw [hC]; simp [xr]
          simp only [go_sem, seval, L26_b0, S26b, Int.lt_irrefl, hn', hn3, hq]
          repeat' (first | ((first | refine MW_still dl26_18 mixedP dx26_18 ?_ | refine MX_okL rfl ?_ | refine LNext_if sd ?_ | refine ZNext_if sd ?_ | refine ZY_if sd ?_ | refine And.intro okq ?_); (try simp only [go_sem, seval, l26_18, Int.lt_irrefl, hn', hn3, ints_drop hy, Int.toNat_natCast, hq, ints_snoc])) | ((first | refine MCond_split ?_ ?_ | refine LGuard_split ?_ ?_ | refine ZG_split ?_ ?_) <;> (intro hc; (try simp only [go_sem, seval, hc, l26_18, Int.lt_irrefl, hn', hn3, ints_drop hy, Int.toNat_natCast, hq, ints_snoc]); (try simp only [decide_eq_true_eq, decide_eq_false_iff_not, Bool.not_eq_true', Bool.not_eq_false', Bool.not_eq_true, Bool.not_eq_false, beq_iff_eq, bne_iff_ne, ne_eq, beq_eq_false_iff_ne, bne_eq_false_iff_eq, Int.not_lt, Int.not_le, gt_iff_lt, ge_iff_le, Decidable.not_not] at hc))) | (refine And.intro ?_ ?_))
          all_goals try (exfalso; exact (by assumption : ¬ cc = xr y) hC)
          refine ⟨(i + 1, o2 ++ [cc], m, true), by dsimp only; omega, ⟨by dsimp only; omega, m1, by simp; omega, i5⟩, ?_⟩
          (have kr0 := @ints_snoc; exact kp [.old 3])
         ·have hC2 : ¬ (k = 1 ∧ cc = xr (L.getD (Int.toNat (m : Int)) 0)) := by rw [gd]; exact hC
          by_cases hD : k = 3 ∧ cc = 0
          ·have es : stepP xr L (o, t, d) ⟨k, m, cc⟩ = some (o2, m, true) := by
            simp only [stepP]; rw [if_neg hb, if_neg hA, if_neg (by omega), if_neg hC2, if_pos hD, j4, Int.toNat_natCast]
           rw [es] at i5
           obtain ⟨rfl, rfl⟩ := hD
           simp only [go_sem, seval, L26_b0, S26b, Int.lt_irrefl, hn', hn3]
           repeat' (first | ((first | refine MW_still dl26_18 mixedP dx26_18 ?_ | refine MX_okL rfl ?_ | refine LNext_if sd ?_ | refine ZNext_if sd ?_ | refine ZY_if sd ?_ | refine And.intro okq ?_); (try simp only [go_sem, seval, l26_18, Int.lt_irrefl, hn', hn3, ints_drop hy, Int.toNat_natCast])) | ((first | refine MCond_split ?_ ?_ | refine LGuard_split ?_ ?_ | refine ZG_split ?_ ?_) <;> (intro hc; (try simp only [go_sem, seval, hc, l26_18, Int.lt_irrefl, hn', hn3, ints_drop hy, Int.toNat_natCast]); (try simp only [decide_eq_true_eq, decide_eq_false_iff_not, Bool.not_eq_true', Bool.not_eq_false', Bool.not_eq_true, Bool.not_eq_false, beq_iff_eq, bne_iff_ne, ne_eq, beq_eq_false_iff_ne, bne_eq_false_iff_eq, Int.not_lt, Int.not_le, gt_iff_lt, ge_iff_le, Decidable.not_not] at hc))) | (refine And.intro ?_ ?_))
           refine ⟨(i + 1, o2, m, true), by dsimp only; omega, ⟨by dsimp only; omega, m1, by dsimp only; omega, i5⟩, ?_⟩
           exact kp [.old 0]
          ·have es : stepP xr L (o, t, d) ⟨k, m, cc⟩ = none := by
            simp only [stepP]; rw [if_neg hb, if_neg hA, if_neg (by omega), if_neg hC2, if_neg hD]
           rw [es] at i5
           rw [i5]
           simp only [Option.getD_none, Option.isSome_none, List.length_nil, ints_nil]
           by_cases hk1 : k = 1
           ·subst hk1
            have hC3 : ¬ cc = xr y := fun q => hC (And.intro rfl q)
            have hq : (cc == IntKind.i64.wrap ((BitVec.ofInt 64 y ^^^ 1#64).toNat : Int)) = false := by
             simp only [beq_eq_false_iff_ne, ne_eq]
             exact hC3
            simp only [go_sem, seval, L26_b0, S26b, Int.lt_irrefl, hn', hn3, hq]
            repeat' (first | ((first | refine MW_still dl26_18 mixedP dx26_18 ?_ | refine MX_okL rfl ?_ | refine LNext_if sd ?_ | refine ZNext_if sd ?_ | refine ZY_if sd ?_ | refine And.intro okq ?_); (try simp only [go_sem, seval, l26_18, Int.lt_irrefl, hn', hn3, ints_drop hy, Int.toNat_natCast, hq])) | ((first | refine MCond_split ?_ ?_ | refine LGuard_split ?_ ?_ | refine ZG_split ?_ ?_) <;> (intro hc; (try simp only [go_sem, seval, hc, l26_18, Int.lt_irrefl, hn', hn3, ints_drop hy, Int.toNat_natCast, hq]); (try simp only [decide_eq_true_eq, decide_eq_false_iff_not, Bool.not_eq_true', Bool.not_eq_false', Bool.not_eq_true, Bool.not_eq_false, beq_iff_eq, bne_iff_ne, ne_eq, beq_eq_false_iff_ne, bne_eq_false_iff_eq, Int.not_lt, Int.not_le, gt_iff_lt, ge_iff_le, Decidable.not_not] at hc))) | (refine And.intro ?_ ?_))
            all_goals first | (exfalso; omega) | (exfalso; exact hC3 (by assumption)) | exact Fin_of ⟨rfl, rfl⟩ (kp [])
           ·have hk1' : (k == 1) = false := by simp [hk1]
            simp only [go_sem, seval, L26_b0, S26b, Int.lt_irrefl, hn', hn3, hk1']
            repeat' (first | ((first | refine MW_still dl26_18 mixedP dx26_18 ?_ | refine MX_okL rfl ?_ | refine LNext_if sd ?_ | refine ZNext_if sd ?_ | refine ZY_if sd ?_ | refine And.intro okq ?_); (try simp only [go_sem, seval, l26_18, Int.lt_irrefl, hn', hn3, ints_drop hy, Int.toNat_natCast, hk1'])) | ((first | refine MCond_split ?_ ?_ | refine LGuard_split ?_ ?_ | refine ZG_split ?_ ?_) <;> (intro hc; (try simp only [go_sem, seval, hc, l26_18, Int.lt_irrefl, hn', hn3, ints_drop hy, Int.toNat_natCast, hk1']); (try simp only [decide_eq_true_eq, decide_eq_false_iff_not, Bool.not_eq_true', Bool.not_eq_false', Bool.not_eq_true, Bool.not_eq_false, beq_iff_eq, bne_iff_ne, ne_eq, beq_eq_false_iff_ne, bne_eq_false_iff_eq, Int.not_lt, Int.not_le, gt_iff_lt, ge_iff_le, Decidable.not_not] at hc))) | (refine And.intro ?_ ?_))
            all_goals first | (exfalso; omega) | exact Fin_of ⟨rfl, rfl⟩ (kp [])
  ·have hi' : ¬ (i : Int) < l.length := by omega
   rw [List.drop_of_length_le hi, runP] at i5
   rw [i5]
   simp only [go_sem, seval, L26_b1, S26, hi']
   repeat' (first | ((first | refine MX_okL rfl ?_ | refine LNext_if sd ?_ | refine ZNext_if sd ?_ | refine ZY_if sd ?_ | refine And.intro okq ?_); (try simp only [go_sem, seval])) | (refine And.intro ?_ ?_))
   refine MW_loop_st (S26c L) (fun s => [.cells 1 (ints s.1)]) (fun s => s.2.1 ≤ L.length ∧ s.1.length ≤ s.2.1 + 31 ∧ s.1 ++ seg L s.2.1 L.length s.2.2 = o ++ seg L t L.length d) (fun s => L.length - s.2.1) (o, t, d) ?_ ⟨i2, by dsimp only; omega, rfl⟩ ?_
   ·exact kp [.old 0]
   ·rintro ⟨o2, t2, d2⟩ ⟨j1, j3, j4⟩
    dsimp only at j1 j3 j4
    rcases Nat.lt_or_ge t2 L.length with ht | ht
    ·have ht' : (t2 : Int) < L.length := by omega
     obtain ⟨y, hy, hy'⟩ := dropG (l := L) (k := t2) (by omega)
     have wt := wrapS (show t2 < 9223372036854775807 by omega)
     cases d2
     ·rw [seg_take ht hy] at j4
      simp only [go_sem, seval, L26_b2, S26c, ht', ints_drop hy, Int.toNat_natCast]
      repeat' (first | ((first | refine MX_okL rfl ?_ | refine LNext_if sd ?_ | refine ZNext_if sd ?_ | refine ZY_if sd ?_ | refine And.intro okq ?_); (try simp only [go_sem, seval, ht', ints_drop hy, Int.toNat_natCast, ints_snoc])) | (refine And.intro ?_ ?_))
      refine ⟨(o2 ++ [y], t2 + 1, false), by dsimp only; omega, ⟨by dsimp only; omega, by simp; omega, by simpa using j4⟩, ?_⟩
      (have kr0 := @ints_snoc; exact kp [.old 2])
     ·rw [seg_skip ht] at j4
      simp only [go_sem, seval, L26_b2, S26c, ht', ints_drop hy, Int.toNat_natCast]
      repeat' (first | ((first | refine MX_okL rfl ?_ | refine LNext_if sd ?_ | refine ZNext_if sd ?_ | refine ZY_if sd ?_ | refine And.intro okq ?_); (try simp only [go_sem, seval, ht', ints_drop hy, Int.toNat_natCast, ints_snoc])) | (refine And.intro ?_ ?_))
      refine ⟨(o2, t2 + 1, false), by dsimp only; omega, ⟨by dsimp only; omega, by dsimp only; omega, j4⟩, ?_⟩
      exact kp [.old 0]
    ·have ht' : ¬ (t2 : Int) < L.length := by omega
     obtain rfl : t2 = L.length := by omega
     rw [seg_end, List.append_nil] at j4
     rw [← j4]
     simp only [Option.getD_some, Option.isSome_some]
     simp only [go_sem, seval, L26_b2, S26c, Int.lt_irrefl]
     repeat' (first | ((first | refine MX_okL rfl ?_ | refine LNext_if sd ?_ | refine ZNext_if sd ?_ | refine ZY_if sd ?_ | refine And.intro okq ?_); (try simp only [go_sem, seval, Int.lt_irrefl])) | (refine And.intro ?_ ?_))
     exact Fin_of ⟨rfl, rfl⟩ (kp [])
def outP (L : List Int) (r : Option (List Int)) (n : Nat) : List Int := if (60 : Int) < L.length ∨ (30 : Int) < n then [] else if L.any badL then [] else r.getD []
def errP (L : List Int) (r : Option (List Int)) (n : Nat) : Int := if (60 : Int) < L.length ∨ (30 : Int) < n then 3 else if L.any badL then 6 else if r.isSome then 0 else 1
theorem out_none {L : List Int} {r : Option (List Int)} {n : Nat} (h1 : ¬ (60 : Int) < L.length) (h2 : ¬ (30 : Int) < n) (hb : L.any badL = false) (hr : r = none) : outP L r n = [] ∧ errP L r n = 1 := by
 subst hr
 unfold outP errP
 have h : ¬ ((60 : Int) < L.length ∨ (30 : Int) < n) := by omega
 rw [if_neg h, if_neg h, hb]; exact ⟨rfl, rfl⟩
theorem out_some {L : List Int} {r : Option (List Int)} {n : Nat} {x : List Int} (h1 : ¬ (60 : Int) < L.length) (h2 : ¬ (30 : Int) < n) (hb : L.any badL = false) (hr : r = some x) : outP L r n = x ∧ errP L r n = 0 := by
 subst hr
 unfold outP errP
 have h : ¬ ((60 : Int) < L.length ∨ (30 : Int) < n) := by omega
 rw [if_neg h, if_neg h, hb]; exact ⟨rfl, rfl⟩
theorem out_bad {L : List Int} {r : Option (List Int)} {n : Nat} (h1 : ¬ (60 : Int) < L.length) (h2 : ¬ (30 : Int) < n) (hb : L.any badL = true) : outP L r n = [] ∧ errP L r n = 6 := by
 unfold outP errP
 have h : ¬ ((60 : Int) < L.length ∨ (30 : Int) < n) := by omega
 rw [if_neg h, if_neg h, hb]; exact ⟨rfl, rfl⟩
theorem out_great {L : List Int} {r : Option (List Int)} {n : Nat} (h : (60 : Int) < L.length ∨ (30 : Int) < n) : outP L r n = [] ∧ errP L r n = 3 := by
 unfold outP errP
 rw [if_pos h, if_pos h]; exact ⟨rfl, rfl⟩
theorem applyP10 (L : List Int) (l : List Ch) : APure Tryz.prog 10 [.im L.length (ints L), .im l.length (chs l)] (.tu [.im (outP L (runP xr L l ([], 0, false)) l.length).length (ints (outP L (runP xr L l ([], 0, false)) l.length)), .v (.int .i64 (errP L (runP xr L l ([], 0, false)) l.length))]) := by
 refine callp10 ?_
 by_cases h1 : (60 : Int) < L.length
 ·rw [(out_great (.inl h1)).1, (out_great (.inl h1)).2]
  simp only [go_sem, seval, L10, h1]
  repeat' (first | ((first | refine MX_okL rfl ?_ | refine LNext_if sd ?_ | refine ZNext_if sd ?_ | refine ZY_if sd ?_ | refine And.intro okq ?_); (try simp only [go_sem, seval, h1])) | (refine And.intro ?_ ?_))
  all_goals exact Fin_of ⟨rfl, rfl⟩ (kp [])
 ·by_cases h2 : (30 : Int) < l.length
  ·rw [(out_great (.inr h2)).1, (out_great (.inr h2)).2]
   simp only [go_sem, seval, L10, h1, h2]
   repeat' (first | ((first | refine MX_okL rfl ?_ | refine LNext_if sd ?_ | refine ZNext_if sd ?_ | refine ZY_if sd ?_ | refine And.intro okq ?_); (try simp only [go_sem, seval, h1, h2])) | (refine And.intro ?_ ?_))
   all_goals exact Fin_of ⟨rfl, rfl⟩ (kp [])
  ·have c1 := wrong19 L (by omega)
   have c2 := apply26 L l (by omega) (by omega)
   cases hb : L.any badL
   ·rw [hb] at c1
    generalize hr : runP xr L l ([], 0, false) = R at *
    cases R with
    | none =>
     simp only [Option.getD_none, Option.isSome_none, List.length_nil, ints_nil] at c2
     rw [(out_none h1 h2 hb rfl).1, (out_none h1 h2 hb rfl).2]
     simp only [go_sem, seval, L10, h1, h2]
     repeat' (first | ((first | ((first | refine LCall_pure (c1) (Cls.of ?_) ?_ | refine LCall_pure (c2) (Cls.of ?_) ?_); exact cx) | refine MX_okL rfl ?_ | refine LNext_if sd ?_ | refine ZNext_if sd ?_ | refine ZY_if sd ?_ | refine And.intro okq ?_); (try simp only [go_sem, seval, h1, h2])) | (refine And.intro ?_ ?_))
     all_goals exact Fin_of ⟨rfl, rfl⟩ (kp [])
    | some r =>
     simp only [Option.getD_some, Option.isSome_some] at c2
     rw [(out_some h1 h2 hb rfl).1, (out_some h1 h2 hb rfl).2]
     simp only [go_sem, seval, L10, h1, h2]
     repeat' (first | ((first | ((first | refine LCall_pure (c1) (Cls.of ?_) ?_ | refine LCall_pure (c2) (Cls.of ?_) ?_); exact cx) | refine MX_okL rfl ?_ | refine LNext_if sd ?_ | refine ZNext_if sd ?_ | refine ZY_if sd ?_ | refine And.intro okq ?_); (try simp only [go_sem, seval, h1, h2])) | (refine And.intro ?_ ?_))
     all_goals exact Fin_of ⟨rfl, rfl⟩ (kp [])
   ·rw [hb] at c1
    rw [(out_bad h1 h2 hb).1, (out_bad h1 h2 hb).2]
    simp only [go_sem, seval, L10, h1, h2]
    repeat' (first | ((first | ((first | refine LCall_pure (c1) (Cls.of ?_) ?_); exact cx) | refine MX_okL rfl ?_ | refine LNext_if sd ?_ | refine ZNext_if sd ?_ | refine ZY_if sd ?_ | refine And.intro okq ?_); (try simp only [go_sem, seval, h1, h2])) | (refine And.intro ?_ ?_))
    all_goals exact Fin_of ⟨rfl, rfl⟩ (kp [])
end Go.Proofs.YtcjckmnhlfbdlaaGreatDoor
namespace Go.Proofs.YtcjckmnhlfbdlaaGreatDoor
open Go Go.Abs Go.Rep Go.Ne
theorem lls0 (b : List Ch) (k : List (List Ch)) : (lls (b :: k))[0]? = some (.im b.length (chs b)) := rfl
def S8 (l : List (List Ch)) (s : Nat × List Ch) : List AV := [.any, .any, .any, .any, .any, .any, .any, .any, .any, .im l.length (lls l), .im s.2.length (chs s.2), .v (.int .i64 s.1), .any, .any, .any, .any, .any, .any, .any, .any, .any, .any, .any, .any, .any, .any, .any, .any, .any, .any, .any, .any, .any, .any, .any, .any, .any, .any, .any, .any, .any, .any, .any, .any, .any, .any, .any, .any, .any, .any, .any, .any, .any, .any, .any, .any, .any, .any, .any, .any, .any, .any, .any, .any, .any, .any, .any]
set_option maxHeartbeats 2000000 in
theorem nearest8 (L S : Int) (N : List (List Int)) (A : List Bool) (l : List Int) (h6 : l.length ≤ 6 ∨ 60 < l.length) (hl : l.length ≤ 100) : APure Tryz.prog 8 [aV L S N A, .im l.length (ints l)] (neV (nearR L S N A l)) := by
 have c21 := valid21 L S N A
 have c22 := word22 l
 refine callp8 ?_
 unfold aV at c21
 by_cases h1 : vE L S N A = 0
 ·by_cases h2 : L = 4
  ·subst h2
   by_cases h3 : 60 < l.length
   ·have e : nearR 4 S N A l = ([], 3) := by unfold nearR; rw [if_neg (by simp [h1]), if_pos h3]
    rw [e]
    have eW : wordE l = 3 := by unfold wordE; rw [if_pos (by omega)]
    rw [eW] at c22
    simp only [go_sem, seval, L8, aV]
    repeat' (first | ((first | ((first | refine LCall_pure (c21) (Cls.of ?_) ?_ | refine LCall_pure (c22) (Cls.of ?_) ?_); exact cx) | refine MX_okL rfl ?_ | refine LNext_if sd ?_ | refine ZNext_if sd ?_ | refine ZY_if sd ?_ | refine And.intro okq ?_); (try simp only [go_sem, seval, h1, bne_self_eq_false])) | (refine And.intro ?_ ?_))
    unfold neV
    exact Fin_of ⟨rfl, rfl⟩ (kp [])
   ·cases h4 : l.any badL with
    | true =>
     have e : nearR 4 S N A l = ([], 6) := by unfold nearR; rw [if_neg (by simp [h1]), if_neg h3, if_pos h4]
     rw [e]
     have eW : wordE l = 6 := by unfold wordE; rw [if_neg (by omega), if_pos h4]
     rw [eW] at c22
     simp only [go_sem, seval, L8, aV]
     repeat' (first | ((first | ((first | refine LCall_pure (c21) (Cls.of ?_) ?_ | refine LCall_pure (c22) (Cls.of ?_) ?_); exact cx) | refine MX_okL rfl ?_ | refine LNext_if sd ?_ | refine ZNext_if sd ?_ | refine ZY_if sd ?_ | refine And.intro okq ?_); (try simp only [go_sem, seval, h1, bne_self_eq_false])) | (refine And.intro ?_ ?_))
     unfold neV
     exact Fin_of ⟨rfl, rfl⟩ (kp [])
    | false =>
     have eW : wordE l = 0 := by unfold wordE; rw [if_neg (by omega), if_neg (by simp [h4])]
     rw [eW] at c22
     have hb : ∀ x ∈ l, 0 ≤ x ∧ x < 4 := fun x hx => badL_iff.1 (by
      have := List.any_eq_false.1 h4 x hx
      simpa using this)
     have e0 := ints_toNat (l := l) (fun x hx => (hb x hx).1)
     have hws : ∀ c ∈ l.map Int.toNat, c < 4 := fun c hc => by
      obtain ⟨x, hx, rfl⟩ := List.mem_map.1 hc
      have := hb x hx; omega
     have e : nearR 4 S N A l = match chG S N A (l.map Int.toNat) with
      | none => ([], 10)
      | some p => (p, 0) := by unfold nearR; rw [if_neg (by simp [h1]), if_neg h3, if_neg (by simp [h4])]; cases chG S N A (l.map Int.toNat) <;> rfl
     rw [e]
     have hwl : (l.map Int.toNat).length = l.length := List.length_map ..
     generalize l.map Int.toNat = ws at *
     by_cases hS : S < 0
     ·rw [show chG S N A ws = none from if_pos (.inl hS)]
      simp only [go_sem, seval, L8, aV]
      repeat' (first | ((first | ((first | refine LCall_pure (c21) (Cls.of ?_) ?_ | refine LCall_pure (c22) (Cls.of ?_) ?_); exact cx) | refine MX_okL rfl ?_ | refine LNext_if sd ?_ | refine ZNext_if sd ?_ | refine ZY_if sd ?_ | refine And.intro okq ?_); (try simp only [go_sem, seval, h1, bne_self_eq_false, hS])) | (refine And.intro ?_ ?_))
      unfold neV
      exact Fin_of ⟨rfl, rfl⟩ (kp [])
     ·have f := fit_of h1 (by omega)
      obtain ⟨q, rfl⟩ : ∃ q : Nat, S = q := ⟨S.toNat, by omega⟩
      have hq : q < N.length := by have := f.st; omega
      have hqN : (q : Int) < N.length := by omega
      have hb := W_bound f.fit hws (t := (q : Int)) (by omega)
      have c23 := tables23 q N A ws f hws (by omega)
      obtain ⟨w, hw⟩ : ∃ w : Nat, W N A ws q = w := ⟨(W N A ws q).toNat, by omega⟩
      have hr := (row_all f.fit ws hws).1
      have rl : (rowOf N A ws).length = N.length := by rw [hr.len, f.fit.len]
      have er := vAt_some (r := rowOf N A ws) (s := q) (by omega)
      rw [← W_nat, hw] at er
      obtain ⟨l0, el⟩ := rowsT_at N A (cs := ws) (k := 0) (Nat.zero_le _)
      rw [List.drop_zero, List.drop_zero] at el
      unfold rowV at el
      rw [hw] at hb
      have hS' : ¬ (q : Int) < 0 := by omega
      rw [hwl, ← e0] at c23
      unfold aV at c23
      by_cases h9 : w = 9
      ·rw [show chG q N A ws = none from if_pos (.inr (by omega))]
       have h9' : ((w : Int) == 9) = true := by rw [h9]; rfl
       simp only [go_sem, seval, L8, aV]
       repeat' (first | ((first | ((first | refine LCall_pure (c21) (Cls.of ?_) ?_ | refine LCall_pure (c22) (Cls.of ?_) ?_ | refine LCall_pure (c23) (Cls.of ?_) ?_); exact cx) | refine MX_okL rfl ?_ | refine LNext_if sd ?_ | refine ZNext_if sd ?_ | refine ZY_if sd ?_ | refine And.intro okq ?_); (try simp only [go_sem, seval, h1, bne_self_eq_false, hS'])) | (refine And.intro ?_ ?_))
       refine MW_still dl8_9 mixedP dx8_9 ?_
       simp only [go_sem, seval, l8_9, el, ints_drop er, hqN, Int.toNat_natCast]
       repeat' (first | ((first | refine MX_okL rfl ?_ | refine LNext_if sd ?_ | refine ZNext_if sd ?_ | refine ZY_if sd ?_ | refine And.intro okq ?_); (try simp only [go_sem, seval, ints_drop er, hqN, Int.toNat_natCast, h9'])) | (refine And.intro ?_ ?_))
       unfold neV
       exact Fin_of ⟨rfl, rfl⟩ (kp [])
      ·have h9' : ((w : Int) == 9) = false := by rw [beq_eq_false_iff_ne]; omega
       have e2 : chG q N A ws = some (bestF N A 20 0 ws q w) := by
        unfold chG; rw [if_neg (by omega), hw]; rfl
       rw [e2]
       have c24 := all24 q N A ws f hws (by omega) 15 (by omega) 0 q w 1048576 (Nat.zero_le _) hq (by omega) (by omega) (by decide) (by omega)
       obtain ⟨b, k, hall, hfirst⟩ := first_all f.fit (f := 15) (g := 20) hws hq hw (by omega) (by omega) (by omega) (by omega)
       have hmem := allF_mem (N := N) (A := A) 15 0 ws q w 1048576
       rw [List.drop_zero, hall] at c24
       rw [hall] at hmem
       unfold allV aV at c24
       rw [hwl, ← e0, show ((0 : Nat) : Int) = 0 from rfl] at c24
       simp only [go_sem, seval, L8, aV]
       repeat' (first | ((first | ((first | refine LCall_pure (c21) (Cls.of ?_) ?_ | refine LCall_pure (c22) (Cls.of ?_) ?_ | refine LCall_pure (c23) (Cls.of ?_) ?_); exact cx) | refine MX_okL rfl ?_ | refine LNext_if sd ?_ | refine ZNext_if sd ?_ | refine ZY_if sd ?_ | refine And.intro okq ?_); (try simp only [go_sem, seval, h1, bne_self_eq_false, hS'])) | (refine And.intro ?_ ?_))
       refine MW_still dl8_9 mixedP dx8_9 ?_
       simp only [go_sem, seval, l8_9, el, ints_drop er, hqN, Int.toNat_natCast]
       repeat' (first | ((first | refine MX_okL rfl ?_ | refine LNext_if sd ?_ | refine ZNext_if sd ?_ | refine ZY_if sd ?_ | refine And.intro okq ?_); (try simp only [go_sem, seval, ints_drop er, hqN, Int.toNat_natCast, h9'])) | (refine And.intro ?_ ?_))
       rw [← el]
       repeat' (first | ((first | ((first | refine LCall_pure (c24) (Cls.of ?_) ?_); exact cx) | refine MX_okL rfl ?_ | refine LNext_if sd ?_ | refine ZNext_if sd ?_ | refine ZY_if sd ?_ | refine And.intro okq ?_); (try simp only [go_sem, seval, lls0, Int.toNat_natCast])) | (refine And.intro ?_ ?_))
       rw [← hfirst]
       have hkl : k.length ≤ 4747561509943 := by
        have h1 := allF_len (N := N) (A := A) 15 0 ws q w 1048576
        rw [hall, List.length_cons] at h1
        have : 7 ^ 15 = 4747561509943 := by decide
        omega
       refine MW_loop_st (S8 (b :: k)) (fun _ => []) (fun s => 1 ≤ s.1 ∧ s.1 ≤ k.length + 1 ∧ s.2.length ≤ 15 ∧ firstF s.2 ((b :: k).drop s.1) = firstF b k) (fun s => k.length + 1 - s.1) (1, b) ?_ ⟨Nat.le_refl _, by dsimp only; omega, hmem b (List.mem_cons_self ..), rfl⟩ ?_
       ·exact kp []
       rintro ⟨i, x⟩ ⟨i0, i1, i2, i3⟩
       dsimp only at i0 i1 i2 i3
       rcases Nat.lt_or_ge i (k.length + 1) with hi | hi
       ·obtain ⟨y, hy, dy⟩ := dropG (l := b :: k) (k := i) (by rw [List.length_cons]; omega)
        have hi' : (i : Int) < ((k.length + 1 : Nat) : Int) := by omega
        have hyl := hmem y (List.mem_of_getElem? hy)
        have c25 := less25 y x (by omega) (by omega)
        rw [dy, firstF] at i3
        have ws1 := wrapS (show i < 9223372036854775807 by omega)
        cases hlt : lessF y x with
        | true =>
         rw [hlt] at c25 i3
         simp only [go_sem, seval, L8_b0, S8, hi', lls_drop hy, Int.toNat_natCast]
         repeat' (first | ((first | ((first | refine LCall_pure (c25) (Cls.of ?_) ?_); exact cx) | refine MX_okL rfl ?_ | refine LNext_if sd ?_ | refine ZNext_if sd ?_ | refine ZY_if sd ?_ | refine And.intro okq ?_); (try simp only [go_sem, seval, hi', lls_drop hy, Int.toNat_natCast])) | (refine And.intro ?_ ?_))
         refine ⟨(i + 1, y), by dsimp only; omega, ⟨by dsimp only; omega, by dsimp only; omega, hyl, i3⟩, ?_⟩
         exact kp []
        | false =>
         rw [hlt] at c25 i3
         simp only [go_sem, seval, L8_b0, S8, hi', lls_drop hy, Int.toNat_natCast]
         repeat' (first | ((first | ((first | refine LCall_pure (c25) (Cls.of ?_) ?_); exact cx) | refine MX_okL rfl ?_ | refine LNext_if sd ?_ | refine ZNext_if sd ?_ | refine ZY_if sd ?_ | refine And.intro okq ?_); (try simp only [go_sem, seval, hi', lls_drop hy, Int.toNat_natCast])) | (refine And.intro ?_ ?_))
         refine ⟨(i + 1, x), by dsimp only; omega, ⟨by dsimp only; omega, by dsimp only; omega, i2, i3⟩, ?_⟩
         exact kp []
       ·have hi' : ¬ (i : Int) < ((k.length + 1 : Nat) : Int) := by omega
        rw [List.drop_of_length_le (by rw [List.length_cons]; omega), firstF] at i3
        rw [← i3]
        simp only [go_sem, seval, L8_b0, S8, hi']
        repeat' (first | ((first | refine MX_okL rfl ?_ | refine LNext_if sd ?_ | refine ZNext_if sd ?_ | refine ZY_if sd ?_ | refine And.intro okq ?_); (try simp only [go_sem, seval, hi'])) | (refine And.intro ?_ ?_))
        unfold neV
        exact Fin_of ⟨rfl, rfl⟩ (kp [])
  ·have e : nearR L S N A l = ([], 1) := by unfold nearR; rw [if_pos (.inr h2)]
   rw [e]
   have h2' : (L != 4) = true := by simpa using h2
   simp only [go_sem, seval, L8, aV]
   repeat' (first | ((first | ((first | refine LCall_pure (c21) (Cls.of ?_) ?_); exact cx) | refine MX_okL rfl ?_ | refine LNext_if sd ?_ | refine ZNext_if sd ?_ | refine ZY_if sd ?_ | refine And.intro okq ?_); (try simp only [go_sem, seval, h1, h2', bne_self_eq_false])) | (refine And.intro ?_ ?_))
   unfold neV
   exact Fin_of ⟨rfl, rfl⟩ (kp [])
 ·have e : nearR L S N A l = ([], 1) := by unfold nearR; rw [if_pos (.inl h1)]
  rw [e]
  have h1' : (vE L S N A != 0) = true := by simpa using h1
  simp only [go_sem, seval, L8, aV]
  repeat' (first | ((first | ((first | refine LCall_pure (c21) (Cls.of ?_) ?_); exact cx) | refine MX_okL rfl ?_ | refine LNext_if sd ?_ | refine ZNext_if sd ?_ | refine ZY_if sd ?_ | refine And.intro okq ?_); (try simp only [go_sem, seval, h1'])) | (refine And.intro ?_ ?_))
  unfold neV
  exact Fin_of ⟨rfl, rfl⟩ (kp [])
end Go.Proofs.YtcjckmnhlfbdlaaGreatDoor
namespace Go.Proofs.YtcjckmnhlfbdlaaGreatDoor
open Go Go.Abs Go.Rep Go.Ne
theorem bestF_len {N : List (List Int)} {A : List Bool} : ∀ (f i : Nat) (cs : List Nat) (q : Nat) (w : Int), (bestF N A f i cs q w).length ≤ f
 | 0, _, _, _, _ => by simp [bestF]
 | f + 1, i, [], q, w => by
  simp only [bestF]
  split
  ·simp
  ·split
   ·rename_i c _
    have := bestF_len (N := N) (A := A) f i [] (Ne.nx N q c).toNat (w - 2)
    simp only [List.length_cons]; omega
   ·simp
 | f + 1, i, c :: cs, q, w => by
  simp only [bestF]
  split
  ·have := bestF_len (N := N) (A := A) f (i + 1) cs (Ne.nx N q (fl c)).toNat (w - 1)
   simp only [List.length_cons]; omega
  ·split
   ·rename_i c' _
    have := bestF_len (N := N) (A := A) f i (c :: cs) (Ne.nx N q c').toNat (w - 2)
    simp only [List.length_cons]; omega
   ·split
    ·have := bestF_len (N := N) (A := A) f (i + 1) cs q (w - 2)
     simp only [List.length_cons]; omega
    ·split
     ·have := bestF_len (N := N) (A := A) f (i + 1) cs (Ne.nx N q c).toNat w
      omega
     ·simp
theorem seg_le (L : List Int) (t m : Nat) (d : Bool) : (seg L t m d).length ≤ L.length := by
 simp only [seg, st, List.length_drop, List.length_take]
 split <;> omega
theorem runP_len (x : Int → Int) (L : List Int) : ∀ (l : List Ch) (s : List Int × Nat × Bool) (r : List Int), runP x L l s = some r → r.length ≤ s.1.length + (L.length + 1) * (l.length + 1)
 | [], s, r, h => by
  simp only [runP, Option.some.injEq] at h
  rw [← h, List.length_append]
  have := seg_le L s.2.1 L.length s.2.2
  simp only [List.length_nil]; omega
 | c :: l, s, r, h => by
  simp only [runP] at h
  cases hs : stepP x L s c with
  | none => rw [hs] at h; cases h
  | some s' =>
   rw [hs] at h
   have h1 := runP_len x L l s' r h
   have h2 : s'.1.length ≤ s.1.length + L.length + 1 := by
    have h3 := seg_le L s.2.1 c.a.toNat s.2.2
    unfold stepP at hs
    repeat' split at hs
    all_goals cases hs
    all_goals (simp only [List.length_append, List.length_cons, List.length_nil]; omega)
   have e : (L.length + 1) * (l.length + 1 + 1) = (L.length + 1) * (l.length + 1) + (L.length + 1) := Nat.mul_succ _ _
   simp only [List.length_cons]; omega
theorem nextF_step {N : List (List Int)} {s : Int} {c : Nat} (hc : c < 4) : nextF 4 N s (c : Int) = stepS N s c := by
 unfold nextF stepS
 by_cases h : s < 0
 ·rw [if_pos (.inl h), if_pos h]
 ·rw [if_neg (by omega), if_neg h, Int.toNat_natCast]; rfl
theorem fold_step {N : List (List Int)} : ∀ (out : List Nat) (s : Int), (∀ c ∈ out, c < 4) → (out.map Int.ofNat).foldl (nextF 4 N) s = out.foldl (stepS N) s
 | [], _, _ => rfl
 | c :: out, s, h => by
  rw [List.map_cons, List.foldl_cons, List.foldl_cons, show nextF 4 N s (Int.ofNat c) = stepS N s c from nextF_step (h c (List.mem_cons_self ..))]
  exact fold_step out _ fun y hy => h y (List.mem_cons_of_mem _ hy)
theorem acF_nat {q : Nat} {N : List (List Int)} {A : List Bool} {out : List Nat} (h1 : vE 4 q N A = 0) (h : ∀ c ∈ out, c < 4) : acF 4 q N A (out.map Int.ofNat) = acc A (out.foldl (stepS N) q) := by
 unfold acF runF
 rw [if_pos h1, fold_step out q h, decide_eq_true h1, Bool.true_and]
theorem near_ok {q w : Nat} {N : List (List Int)} {A : List Bool} {l : List Int} (h1 : vE 4 q N A = 0) (hb : ∀ x ∈ l, 0 ≤ x ∧ x < 4) (h6 : l.length ≤ 6) (hw : W N A (l.map Int.toNat) q = w) (h9 : w < 9) :
 ∃ r, runP xr l (bestF N A 20 0 (l.map Int.toNat) q w) ([], 0, false) = some r ∧ acF 4 q N A r = true ∧ r.length ≤ 1000000 ∧ (bestF N A 20 0 (l.map Int.toNat) q w = [] ↔ acF 4 q N A l = true) := by
 have f := fit_of h1 (by omega)
 have hq : q < N.length := by have := f.st; omega
 have hws : ∀ c ∈ l.map Int.toNat, c < 4 := fun c hc => by
  obtain ⟨x, hx, rfl⟩ := List.mem_map.1 hc
  have := hb x hx; omega
 have e0 : (l.map Int.toNat).map Int.ofNat = l := by
  rw [List.map_map]
  refine (List.map_congr_left fun x hx => ?_).trans (List.map_id l)
  have := hb x hx
  show ((x.toNat : Nat) : Int) = x
  omega
 have hwl : (l.map Int.toNat).length = l.length := List.length_map ..
 have hm := (best_spec f.fit 20 0 (l.map Int.toNat) q w (by omega) hws hq hw (by omega)).1
 obtain ⟨out, r1, r2, r3, _⟩ := M_run (x := xr) (fun c hc => fl_eq hc) (L0 := l) hm hws [] 0 none (by rw [List.drop_zero, e0]) (by omega) (Nat.le_refl _) (fun c hc => by cases hc)
 have r0 : runP xr l (bestF N A 20 0 (l.map Int.toNat) q w) ([], 0, false) = some (out.map Int.ofNat) := by
  exact (run_eq xr l _ none [] 0 false ⟨rfl, rfl⟩ (Nat.zero_le _)).trans (r1.trans (by simp))
 have hl := runP_len xr l _ _ _ r0
 have hbl := bestF_len (N := N) (A := A) 20 0 (l.map Int.toNat) q w
 have hmul : (l.length + 1) * ((bestF N A 20 0 (l.map Int.toNat) q w).length + 1) ≤ 7 * 21 := Nat.mul_le_mul (by omega) (by omega)
 refine ⟨_, r0, by rw [acF_nat h1 r2]; exact r3, by simp only [List.length_nil] at hl; omega, ?_⟩
 have h2 := best_nil f.fit (g := 20) hws hq hw h9 (by omega)
 rw [← e0, acF_nat h1 hws, e0]
 exact h2
theorem near_bad {L S : Int} {N : List (List Int)} {A : List Bool} {l : List Int} (h6 : l.length ≤ 6 ∨ 60 < l.length) :
 (nearR L S N A l).2 ≠ 0 ∨ ∃ (q w : Nat), L = 4 ∧ S = q ∧ l.length ≤ 6 ∧ vE 4 q N A = 0 ∧ (∀ x ∈ l, 0 ≤ x ∧ x < 4) ∧ l.any badL = false ∧ W N A (l.map Int.toNat) q = w ∧ w < 9 ∧ nearR L S N A l = (bestF N A 20 0 (l.map Int.toNat) q w, 0) := by
 unfold nearR
 by_cases h1 : vE L S N A ≠ 0 ∨ L ≠ 4
 ·rw [if_pos h1]; exact .inl (by decide)
 rw [if_neg h1]
 by_cases h3 : 60 < l.length
 ·rw [if_pos h3]; exact .inl (by decide)
 rw [if_neg h3]
 cases h4 : l.any badL with
 | true => exact .inl (by simp)
 | false =>
  rw [if_neg (by simp)]
  have h1' : vE L S N A = 0 := Classical.byContradiction fun x => h1 (.inl x)
  obtain rfl : L = 4 := Classical.byContradiction fun x => h1 (.inr x)
  have hb : ∀ x ∈ l, 0 ≤ x ∧ x < 4 := fun x hx => badL_iff.1 (by
   have := List.any_eq_false.1 h4 x hx
   simpa using this)
  unfold chG
  by_cases h5 : S < 0 ∨ W N A (l.map Int.toNat) S = 9
  ·rw [if_pos h5]; exact .inl (by decide)
  ·rw [if_neg h5]
   obtain ⟨q, rfl⟩ : ∃ q : Nat, S = q := ⟨S.toNat, by omega⟩
   have f := fit_of h1' (by omega)
   have hws : ∀ c ∈ l.map Int.toNat, c < 4 := fun c hc => by
    obtain ⟨x, hx, rfl⟩ := List.mem_map.1 hc
    have := hb x hx; omega
   have hbd := W_bound f.fit hws (t := (q : Int)) f.st.2
   refine .inr ⟨q, (W N A (l.map Int.toNat) q).toNat, rfl, rfl, by omega, h1', hb, rfl, by omega, by omega, ?_⟩
   rw [show (((W N A (l.map Int.toNat) q).toNat : Nat) : Int) = W N A (l.map Int.toNat) q by omega, Int.toNat_natCast]
end Go.Proofs.YtcjckmnhlfbdlaaGreatDoor
namespace Go.Proofs.YtcjckmnhlfbdlaaGreatDoor
open Go Go.Abs Go.Rep Go.Ne
def J3 (l : List Int) : List AV := [.any, .im l.length (ints l), .pt 0 0, .any, .any, .any, .any, .any, .any, .any, .any, .any, .any, .any, .any, .any, .any, .any, .any, .any, .any, .any, .any, .any, .any, .any, .any, .any, .any, .any, .any, .any, .any, .any, .any, .any, .any, .any, .any, .any, .any, .any, .any, .any, .any, .any, .any, .any, .any, .any, .any, .any, .any, .any, .any, .any, .any, .any, .any, .any, .any, .any, .any, .any, .any, .any, .any, .any, .any, .any, .any, .any, .any, .any, .any, .any, .any, .any, .any, .any, .any, .any, .any, .any, .any, .any, .any, .any, .any, .any, .any, .any, .any, .any, .any, .any]
set_option maxHeartbeats 2000000 in
theorem law3 (c4 : APure Tryz.prog 4 [] (.v (.bool true))) (L S : Int) (N : List (List Int)) (A : List Bool) (l : List Int) : APure Tryz.prog 3 [aV L S N A, .im l.length (ints l)] (.v (.bool true)) := by
 have c5 := few5 L S N A
 unfold aV at c5
 cases hfew : fewF N A with
 | false =>
  rw [hfew] at c5
  refine callp3 ?_
  simp only [go_sem, seval, L3, aV]
  repeat' (first | ((first | ((first | refine LCall_pure (c4) (Cls.of ?_) ?_ | refine LCall_pure (c5) (Cls.of ?_) ?_); exact cx) | refine MX_okL rfl ?_ | refine LNext_if sd ?_ | refine ZNext_if sd ?_ | refine ZY_if sd ?_ | refine And.intro okq ?_); (try simp only [go_sem, seval])) | (refine And.intro ?_ ?_))
  exact Fin_of ⟨rfl, rfl⟩ (kp [])
 | true =>
  rw [hfew] at c5
  by_cases g1 : (N.length : Int) > 12
  ·refine callp3 ?_
   simp only [go_sem, seval, L3, aV, g1]
   repeat' (first | ((first | ((first | refine LCall_pure (c4) (Cls.of ?_) ?_ | refine LCall_pure (c5) (Cls.of ?_) ?_); exact cx) | refine MX_okL rfl ?_ | refine LNext_if sd ?_ | refine ZNext_if sd ?_ | refine ZY_if sd ?_ | refine And.intro okq ?_); (try simp only [go_sem, seval, g1])) | (refine And.intro ?_ ?_))
   exact Fin_of ⟨rfl, rfl⟩ (kp [])
  ·by_cases g5 : l.length ≤ 6 ∨ (60 < l.length ∧ l.length ≤ 80)
   ·refine APure_of (calln3 ?_)
    simp only [go_sem, seval, L3, aV]
    refine MW_cut (J3 l) [aO L S N A] ?_ ?_
    ·refine MX_ok ?_
     unfold aO
     rcases g5 with g5 | ⟨g5, g6⟩
     ·have g2 : ¬ (l.length : Int) > 6 := by omega
      have g4 : ¬ (l.length : Int) > 80 := by omega
      simp only [go_sem, seval, g1, g2, g4]
      repeat' (first | ((first | ((first | refine LCall_pure (c4) (Cls.of ?_) ?_ | refine LCall_pure (c5) (Cls.of ?_) ?_); exact cx) | refine MX_okL rfl ?_ | refine LNext_if sd ?_ | refine ZNext_if sd ?_ | refine ZY_if sd ?_ | refine And.intro okq ?_); (try simp only [go_sem, seval, g1, g2, g4])) | (refine And.intro ?_ ?_))
      exact kp [.old 0]
     ·have g2 : (l.length : Int) > 6 := by omega
      have g3 : ¬ (l.length : Int) ≤ 60 := by omega
      have g4 : ¬ (l.length : Int) > 80 := by omega
      simp only [go_sem, seval, g1, g2, g3, g4]
      repeat' (first | ((first | ((first | refine LCall_pure (c4) (Cls.of ?_) ?_ | refine LCall_pure (c5) (Cls.of ?_) ?_); exact cx) | refine MX_okL rfl ?_ | refine LNext_if sd ?_ | refine ZNext_if sd ?_ | refine ZY_if sd ?_ | refine And.intro okq ?_); (try simp only [go_sem, seval, g1, g2, g3, g4])) | (refine And.intro ?_ ?_))
      exact kp [.old 0]
    ·refine MX_ok ?_
     unfold aO
     have hl6 : l.length ≤ 6 ∨ 60 < l.length := by omega
     have c7 := clone7 l (by omega)
     have c6 := nearest6 L S N A l hl6 (by omega)
     have c8 := nearest8 L S N A l hl6 (by omega)
     have cS : ∀ p : List Ch, p.length ≤ 1000000 → APure Tryz.prog 9 [.im p.length (chs p), .im p.length (chs p)] (.v (.bool true)) := fun p hp => by
      have := same9 p p hp hp
      rw [lessF_irr] at this
      exact this
     rcases near_bad (L := L) (S := S) (N := N) (A := A) hl6 with h0 | ⟨q, w, rfl, rfl, h6, h1, hb, hbad, hw, h9, e⟩
     ·have hp : (nearR L S N A l).1.length ≤ 1000000 := by
       unfold nearR
       repeat' split
       all_goals try exact Nat.zero_le _
       rename_i p hg
       unfold chG at hg
       split at hg
       ·cases hg
       ·injection hg with hg
        rw [← hg]
        exact Nat.le_trans (bestF_len 20 _ _ _ _) (by omega)
      have c9 := cS _ hp
      generalize nearR L S N A l = R at *
      obtain ⟨p, e⟩ := R
      dsimp only at h0 hp c9
      unfold neV at c6 c8
      unfold aV at c6 c8
      dsimp only at c6 c8
      have h0' : (e != 0) = true := by simpa using h0
      simp only [go_sem, seval, J3]
      repeat' (first | ((first | ((first | refine ZCall_pure (c7) (Cls.of ?_) ?_ | refine ZCall_pure (c6) (Cls.of ?_) ?_ | refine LCall_pure (c8) (Cls.of ?_) ?_ | refine LCall_pure (c9) (Cls.of ?_) ?_); exact cx) | refine MW_still dl3_3 mixedP dx3_3 ?_ | refine MX_okL rfl ?_ | refine LNext_if sd ?_ | refine ZNext_if sd ?_ | refine ZY_if sd ?_ | refine And.intro okq ?_); (try simp only [go_sem, seval, l3_3, h0', bne_self_eq_false, beq_self_eq_true])) | (refine And.intro ?_ ?_))
      exact Fin_of ⟨rfl, rfl⟩ (kp [])
     ·obtain ⟨r, r1, r2, r3, r4⟩ := near_ok h1 hb h6 hw h9
      have hp := bestF_len (N := N) (A := A) 20 0 (l.map Int.toNat) q w
      rw [e] at c6 c8
      generalize bestF N A 20 0 (l.map Int.toNat) q w = p at *
      have c9 := cS p (by omega)
      have c10 := applyP10 l p
      rw [r1, (out_some (by omega) (by omega) hbad rfl).1, (out_some (by omega) (by omega) hbad rfl).2] at c10
      have cA := accepts11 4 q N A r r3
      have cB := accepts11 4 q N A l (by omega)
      rw [r2] at cA
      have e5 : ((p.length : Int) == 0) = acF 4 q N A l := by
       rw [Bool.eq_iff_iff, ← r4, beq_iff_eq]
       constructor
       ·intro x; exact List.eq_nil_of_length_eq_zero (by omega)
       ·rintro rfl; rfl
      unfold neV at c6 c8
      unfold aV at c6 c8 cA cB
      dsimp only at c6 c8
      simp only [go_sem, seval, J3]
      repeat' (first | ((first | ((first | refine ZCall_pure (c7) (Cls.of ?_) ?_ | refine ZCall_pure (c6) (Cls.of ?_) ?_ | refine LCall_pure (c8) (Cls.of ?_) ?_ | refine LCall_pure (c9) (Cls.of ?_) ?_ | refine LCall_pure (c10) (Cls.of ?_) ?_ | refine LCall_pure (cA) (Cls.of ?_) ?_ | refine LCall_pure (cB) (Cls.of ?_) ?_); exact cx) | refine MW_still dl3_3 mixedP dx3_3 ?_ | refine MX_okL rfl ?_ | refine LNext_if sd ?_ | refine ZNext_if sd ?_ | refine ZY_if sd ?_ | refine And.intro okq ?_); (try simp only [go_sem, seval, l3_3, bne_self_eq_false, beq_self_eq_true, e5])) | (refine And.intro ?_ ?_))
      exact Fin_of ⟨rfl, rfl⟩ (kp [])
   ·have g2 : (l.length : Int) > 6 := by omega
    by_cases g3 : (l.length : Int) ≤ 60
    ·refine callp3 ?_
     simp only [go_sem, seval, L3, aV, g1, g2, g3]
     repeat' (first | ((first | ((first | refine LCall_pure (c4) (Cls.of ?_) ?_ | refine LCall_pure (c5) (Cls.of ?_) ?_); exact cx) | refine MX_okL rfl ?_ | refine LNext_if sd ?_ | refine ZNext_if sd ?_ | refine ZY_if sd ?_ | refine And.intro okq ?_); (try simp only [go_sem, seval, g1, g2, g3])) | (refine And.intro ?_ ?_))
     exact Fin_of ⟨rfl, rfl⟩ (kp [])
    ·have g4 : (l.length : Int) > 80 := by omega
     refine callp3 ?_
     simp only [go_sem, seval, L3, aV, g1, g2, g3, g4]
     repeat' (first | ((first | ((first | refine LCall_pure (c4) (Cls.of ?_) ?_ | refine LCall_pure (c5) (Cls.of ?_) ?_); exact cx) | refine MX_okL rfl ?_ | refine LNext_if sd ?_ | refine ZNext_if sd ?_ | refine ZY_if sd ?_ | refine And.intro okq ?_); (try simp only [go_sem, seval, g1, g2, g3, g4])) | (refine And.intro ?_ ?_))
     exact Fin_of ⟨rfl, rfl⟩ (kp [])
end Go.Proofs.YtcjckmnhlfbdlaaGreatDoor
