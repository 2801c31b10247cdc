/- Part 42 of the texts that lead to repairNearestCard_holds. No condition. -/
import Derived.Test.YtcjckmnhlfbdlaaGreatDoorH41
set_option linter.all false
set_option maxRecDepth 100000
namespace Go.Proofs.YtcjckmnhlfbdlaaGreatDoor
open Go Go.Abs Go.Rep Go.Ne
theorem base_wt0 {A : List Bool} {n : Nat} (h : A.length = n) : ∀ s, s < (base A).length → 0 ≤ vAt (base A) s := fun s hs => (base_wt A s hs).1
def S72 (n : Nat) (k : Nat) : List AV := [.any, .pt 0 0, .any, .sl 1 0 n, .any, .any, .any, .any, .any, .any, .any, .any, .any, .any, .any, .v (.int .i64 n), .v (.int .i64 k), .any, .any, .any, .any, .any, .any, .any, .any, .any, .any, .any, .any, .any, .any, .any, .any, .any, .any, .any, .any, .any, .any, .any, .any, .any, .any, .any, .any, .any, .any, .any, .any, .any, .any, .any, .any, .any, .any, .any, .any, .any, .any, .any, .any, .any, .any, .any, .any, .any, .any, .any, .any, .any, .any]
def S72a (n : Nat) (m : Bool) : List AV := [.any, .pt 0 0, .any, .sl 1 0 n, .any, .v (.bool m), .any, .any, .any, .any, .any, .any, .any, .any, .any, .any, .any, .any, .any, .any, .any, .any, .any, .any, .any, .any, .any, .any, .any, .any, .any, .any, .any, .any, .any, .any, .any, .any, .any, .any, .any, .any, .any, .any, .any, .any, .any, .any, .any, .any, .any, .any, .any, .any, .any, .any, .any, .any, .any, .any, .any, .any, .any, .any, .any, .any, .any, .any, .any, .any, .any]
def S72b (n : Nat) (N : List (List Int)) (s : Nat × Bool × List Int) : List AV := [.any, .pt 0 0, .any, .sl 1 0 n, .any, .v (.bool s.2.1), .any, .any, .any, .any, .any, .any, .any, .any, .any, .any, .any, .any, .any, .any, .any, .any, .any, .any, .any, .any, .any, .any, .any, .any, .any, .any, .any, .im N.length (rows N), .v (.int .i64 N.length), .v (.int .i64 s.1), .any, .any, .any, .any, .any, .any, .any, .any, .any, .any, .any, .any, .any, .any, .any, .any, .any, .any, .any, .any, .any, .any, .any, .any, .any, .any, .any, .any, .any, .any, .any, .any, .any, .any, .any]
def S72c (n : Nat) (N : List (List Int)) (q : Nat) (row : List Int) (s : Nat × Bool × List Int) : List AV := [.any, .pt 0 0, .any, .sl 1 0 n, .any, .v (.bool s.2.1), .v (.int .i64 q), .any, .any, .any, .any, .any, .any, .any, .any, .any, .any, .any, .any, .any, .any, .any, .any, .any, .any, .any, .any, .any, .any, .any, .any, .any, .any, .im N.length (rows N), .v (.int .i64 N.length), .v (.int .i64 q), .any, .any, .any, .any, .im row.length (ints row), .v (.int .i64 row.length), .v (.int .i64 s.1), .any, .any, .any, .any, .any, .any, .any, .any, .any, .any, .any, .any, .any, .any, .any, .any, .any, .any, .any, .any, .any, .any, .any, .any, .any, .any, .any, .any]
set_option maxHeartbeats 2000000 in
theorem distances72 (S : Int) (N : List (List Int)) (A : List Bool) (h : Fit4 S N A) : APure Tryz.prog 72 [aV 4 S N A] (.im N.length (ints (insOf N 1 (base A)))) := by
 refine callp72 ?_
 have hT := h.fit.tab
 have hl := h.fit.len
 have hsm := h.small
 have hn0 : 0 < N.length := by have := h.st; omega
 have bl : (base A).length = N.length := by rw [base_len]; exact hl
 have z0 := fillG_zero (base A) bl
 simp only [go_sem, seval, L72, aV, Int.toNat_natCast, z0]
 repeat' (first | ((first | refine MX_okL rfl ?_ | refine LNext_if sd ?_ | refine ZNext_if sd ?_ | refine ZY_if sd ?_ | refine And.intro okq ?_); (try simp only [go_sem, seval, Int.toNat_natCast, z0])) | (refine And.intro ?_ ?_))
 refine MW_loop_st (S72 N.length) (fun k => [aO 4 S N A, .cells 1 (ints (fillG (base A) k))]) (fun k => k ≤ N.length) (fun k => N.length - k) 0 ?_ (Nat.zero_le _) ?_
 ·unfold aO
  exact kp [.old 0, .old 1]
 rintro k i1
 unfold aO
 rcases Nat.lt_or_ge k N.length with hi | hi
 ·have hi' : (k : Int) < N.length := by omega
  obtain ⟨b, hb, _⟩ := dropG (l := A) (k := k) (by omega)
  have rl := fillG_len (R := base A) (k := k) (by omega)
  have hset := fillG_set (R := base A) (k := k) (by omega)
  rw [base_at (by omega), List.getD_eq_getElem?_getD, hb] at hset
  generalize fillG (base A) k = r at rl hset
  have hi2 : (k : Int) < A.length := by omega
  have ws := wrapS (show k < 9223372036854775807 by omega)
  have set1 : ∀ x : Int, (ints r).take k ++ [.v (.int .i64 x)] ++ (ints r).drop (k + 1) = ints (r.set k x) := fun x => ints_set r k x (by omega)
  have set2 : ∀ x y : Int, (ints (r.set k x)).take k ++ [.v (.int .i64 y)] ++ (ints (r.set k x)).drop (k + 1) = ints (r.set k y) := fun x y => by
   rw [ints_set (r.set k x) k y (by simp; omega), List.set_set]
  cases b with
  | true =>
   simp only [go_sem, seval, L72_b0, S72, hi', hi2, bls_drop hb, Int.toNat_natCast, set1, set2]
   repeat' (first | ((first | refine MX_okL rfl ?_ | refine LNext_if sd ?_ | refine ZNext_if sd ?_ | refine ZY_if sd ?_ | refine And.intro okq ?_); (try simp only [go_sem, seval, hi', hi2, bls_drop hb, Int.toNat_natCast, set1, set2])) | (refine And.intro ?_ ?_))
   refine ⟨k + 1, by omega, by omega, ?_⟩
   rw [← hset]
   exact kp [.old 0, .old 1]
  | false =>
   simp only [go_sem, seval, L72_b0, S72, hi', hi2, bls_drop hb, Int.toNat_natCast, set1, set2]
   repeat' (first | ((first | refine MX_okL rfl ?_ | refine LNext_if sd ?_ | refine ZNext_if sd ?_ | refine ZY_if sd ?_ | refine And.intro okq ?_); (try simp only [go_sem, seval, hi', hi2, bls_drop hb, Int.toNat_natCast, set1, set2])) | (refine And.intro ?_ ?_))
   refine ⟨k + 1, by omega, by omega, ?_⟩
   rw [← hset]
   exact kp [.old 0, .old 1]
 have hi' : ¬ (k : Int) < N.length := by omega
 obtain rfl : k = N.length := by omega
 have fe := fillG_end (base A)
 rw [bl] at fe
 simp only [go_sem, seval, L72_b0, S72, hi', fe]
 repeat' (first | ((first | refine MX_okL rfl ?_ | refine LNext_if sd ?_ | refine ZNext_if sd ?_ | refine ZY_if sd ?_ | refine And.intro okq ?_); (try simp only [go_sem, seval, hi'])) | (refine And.intro ?_ ?_))
 refine MW_loop_st (fun s => S72a N.length s.1) (fun s => O75 S N A s.2) (JP N 1 (base A)) mP (true, base A) ?_ ⟨Pre.start N 1 (base A), fun q => by cases q⟩ ?_
 ·unfold O75 aO
  exact kp [.old 0, .old 1]
 rintro ⟨m, r0⟩ ⟨j1, j2⟩
 dsimp only at j1 j2
 unfold O75 aO
 cases m with
 | false =>
  rw [insOf_eq hT bl (j2 rfl)]
  have rl : r0.length = N.length := by rw [j1.len, bl]
  simp only [go_sem, seval, L72_b3, S72a]
  repeat' (first | ((first | refine MX_okL rfl ?_ | refine LNext_if sd ?_ | refine ZNext_if sd ?_ | refine ZY_if sd ?_ | refine And.intro okq ?_); (try simp only [go_sem, seval])) | (refine And.intro ?_ ?_))
  exact Fin_of ⟨rfl, rfl⟩ (kp [])
 | true =>
  simp only [go_sem, seval, L72_b3, S72a]
  repeat' (first | ((first | refine MX_okL rfl ?_ | refine LNext_if sd ?_ | refine ZNext_if sd ?_ | refine ZY_if sd ?_ | refine And.intro okq ?_); (try simp only [go_sem, seval])) | (refine And.intro ?_ ?_))
  refine MW_loop_st (S72b N.length N) (fun s => O75 S N A s.2.2) (fun s => s.1 ≤ N.length ∧ FI N 1 (base A) r0 s.2.2 s.2.1 s.1 0) (fun s => N.length - s.1) (0, false, r0) ?_ ⟨Nat.zero_le _, FI.start j1⟩ ?_
  ·unfold O75 aO
   exact kp [.old 0, .old 1]
  rintro ⟨q, m, r⟩ ⟨i1, i2⟩
  dsimp only at i1 i2
  unfold O75 aO
  rcases Nat.lt_or_ge q N.length with hq | hq
  ·have hq' : (q : Int) < N.length := by omega
   obtain ⟨row, a1, _⟩ := dropG hq
   have a2 := (h.rows row (List.mem_of_getElem? a1)).1
   simp only [go_sem, seval, L72_b2, S72b, hq', rows_drop a1, Int.toNat_natCast]
   repeat' (first | ((first | refine MX_okL rfl ?_ | refine LNext_if sd ?_ | refine ZNext_if sd ?_ | refine ZY_if sd ?_ | refine And.intro okq ?_); (try simp only [go_sem, seval, hq', rows_drop a1, Int.toNat_natCast])) | (refine And.intro ?_ ?_))
   refine MW_loop_st (S72c N.length N q row) (fun s => O75 S N A s.2.2) (fun s => s.1 ≤ 4 ∧ FI N 1 (base A) r0 s.2.2 s.2.1 q s.1) (fun s => 4 - s.1) (0, m, r) ?_ ⟨Nat.zero_le _, i2⟩ ?_
   ·unfold O75 aO
    exact kp [.old 0, .old 1]
   rintro ⟨c, m2, r2⟩ ⟨k1, k2⟩
   dsimp only at k1 k2
   unfold O75 aO
   rcases Nat.lt_or_ge c 4 with hc | hc
   ·have hc' : (c : Int) < row.length := by omega
    obtain ⟨row', a1', _, a3⟩ := h.at' hq hc
    obtain rfl : row = row' := by rw [a1] at a1'; injection a1'
    have hrl : r2.length = N.length := by rw [k2.len, bl]
    have hb := hT q c hq hc
    have ws := wrapS (show c < 9223372036854775807 by omega)
    by_cases t0 : 0 ≤ nx N q c
    ·obtain ⟨t, e⟩ : ∃ t : Nat, nx N q c = t := ⟨(nx N q c).toNat, by omega⟩
     rw [e] at a3 hb
     have et := vAt_some (r := r2) (s := t) (by omega)
     have eq := vAt_some (r := r2) (s := q) (by omega)
     have bt := pre_wt hT bl (by decide) (base_wt A) k2.pre (s := t) (by omega)
     have w2 : IntKind.wrap .i64 (vAt r2 t + 1) = vAt r2 t + 1 := wrapI (by omega) (by omega)
     have ht0 : (0 : Int) ≤ (t : Int) := by omega
     have htl : (t : Int) < N.length := by omega
     by_cases hlt : vAt r2 t + 1 < vAt r2 q
     ·have e2 := ints_set r2 q (vAt r2 t + 1) (by omega)
      simp only [go_sem, seval, L72_b1, S72c, hc', ge_iff_le, ht0, ints_drop a3, ints_get et, ints_get eq, w2, hlt, htl, hq', Int.toNat_natCast]
      repeat' (first | ((first | refine MW_still dl72_18 mixedP dx72_18 ?_ | refine MX_okL rfl ?_ | refine LNext_if sd ?_ | refine ZNext_if sd ?_ | refine ZY_if sd ?_ | refine And.intro okq ?_); (try simp only [go_sem, seval, l72_18, hc', ge_iff_le, ht0, ints_drop a3, ints_get et, ints_get eq, w2, hlt, htl, hq', Int.toNat_natCast, e2])) | (refine And.intro ?_ ?_))
      refine ⟨(c + 1, true, r2.set q (vAt r2 t + 1)), by dsimp only; omega, ⟨by dsimp only; omega, k2.upd hT bl (by decide) (base_wt0 hl) hq hc e hlt⟩, ?_⟩
      exact kp [.old 0, .old 1]
     ·simp only [go_sem, seval, L72_b1, S72c, hc', ge_iff_le, ht0, ints_drop a3, ints_get et, ints_get eq, w2, hlt, htl, hq', Int.toNat_natCast]
      repeat' (first | ((first | refine MW_still dl72_18 mixedP dx72_18 ?_ | refine MX_okL rfl ?_ | refine LNext_if sd ?_ | refine ZNext_if sd ?_ | refine ZY_if sd ?_ | refine And.intro okq ?_); (try simp only [go_sem, seval, l72_18, hc', ge_iff_le, ht0, ints_drop a3, ints_get et, ints_get eq, w2, hlt, htl, hq', Int.toNat_natCast])) | (refine And.intro ?_ ?_))
      refine ⟨(c + 1, m2, r2), by dsimp only; omega, ⟨by dsimp only; omega, k2.skip fun t' e' => ?_⟩, ?_⟩
      ·obtain rfl : t = t' := by omega
       exact hlt
      ·exact kp [.old 0, .old 1]
    ·simp only [go_sem, seval, L72_b1, S72c, hc', ge_iff_le, ints_drop a3, t0, Int.toNat_natCast]
     repeat' (first | ((first | refine MW_still dl72_18 mixedP dx72_18 ?_ | refine MX_okL rfl ?_ | refine LNext_if sd ?_ | refine ZNext_if sd ?_ | refine ZY_if sd ?_ | refine And.intro okq ?_); (try simp only [go_sem, seval, l72_18, hc', ge_iff_le, ints_drop a3, t0, Int.toNat_natCast])) | (refine And.intro ?_ ?_))
     refine ⟨(c + 1, m2, r2), by dsimp only; omega, ⟨by dsimp only; omega, k2.skip fun t' e' => by omega⟩, ?_⟩
     exact kp [.old 0, .old 1]
   ·have hc' : ¬ (4 : Int) < row.length := by omega
    obtain rfl : c = 4 := by omega
    simp only [go_sem, seval, L72_b1, S72c, hc', Int.cast_ofNat_Int]
    repeat' (first | ((first | refine MX_okL rfl ?_ | refine LNext_if sd ?_ | refine ZNext_if sd ?_ | refine ZY_if sd ?_ | refine And.intro okq ?_); (try simp only [go_sem, seval, hc', Int.cast_ofNat_Int])) | (refine And.intro ?_ ?_))
    refine ⟨(q + 1, m2, r2), by dsimp only; omega, ⟨by dsimp only; omega, k2.row⟩, ?_⟩
    (have kr0 := wrapS (show q < 9223372036854775807 by omega); exact kp [.old 0, .old 1])
  ·have hq' : ¬ (q : Int) < N.length := by omega
   obtain rfl : q = N.length := by omega
   simp only [go_sem, seval, L72_b2, S72b, hq']
   repeat' (first | ((first | refine MX_okL rfl ?_ | refine LNext_if sd ?_ | refine ZNext_if sd ?_ | refine ZY_if sd ?_ | refine And.intro okq ?_); (try simp only [go_sem, seval, hq'])) | (refine And.intro ?_ ?_))
   refine ⟨(m, r), ?_, ⟨i2.pre, fun hm => ?_⟩, ?_⟩
   ·unfold mP
    dsimp only
    cases m with
    | false => have := (i2.no rfl).1; subst this; simp
    | true => have := i2.yes rfl; simp; omega
   ·dsimp only at hm
    subst hm
    exact i2.done bl
   ·exact kp [.old 0, .old 1]
end Go.Proofs.YtcjckmnhlfbdlaaGreatDoor
namespace Go.Proofs.YtcjckmnhlfbdlaaGreatDoor
open Go Go.Abs Go.Rep Go.Ne
def lts (l : List Nat) : List AV := l.map fun c => .v (.int .i64 (Nat.cast c))
theorem lts_nil : lts [] = [] := rfl
theorem lts_clb (l : List Nat) : clbs (lts l) = true := by rw [clbs_eq]; simp only [lts, List.all_map, Function.comp_def, go_sem, List.all_eq_true, implies_true]
theorem lts_one (l : List Nat) : (lts l).all (·.one) = true := by simp only [lts, List.all_map, Function.comp_def, go_sem, List.all_eq_true, implies_true]
theorem lts_len (l : List Nat) : (lts l).length = l.length := by simp [lts]
theorem lts_take (l : List Nat) : (lts l).take l.length = lts l := List.take_of_length_le (by simp [lts])
theorem lts_drop {l : List Nat} {i : Nat} {c : Nat} (h : l[i]? = some c) : (lts l).drop i = .v (.int .i64 (Nat.cast c)) :: lts (l.drop (i + 1)) := by
 unfold lts
 obtain ⟨hi, e⟩ := List.getElem?_eq_some_iff.1 h
 rw [← List.map_drop, List.drop_eq_getElem_cons hi, e]; rfl
attribute [go_sem] lts_nil lts_clb lts_one lts_len lts_take
noncomputable def rowV (N : List (List Int)) (A : List Bool) (cs : List Nat) : AV := .im N.length (ints (rowOf N A cs))
noncomputable def rowsT (N : List (List Int)) (A : List Bool) : List Nat → List AV
 | [] => [rowV N A []]
 | c :: cs => rowV N A (c :: cs) :: rowsT N A cs
theorem rowsT_clb (N : List (List Int)) (A : List Bool) : ∀ cs, clbs (rowsT N A cs) = true
 | [] => by simp only [rowsT, rowV, go_sem, Bool.and_self, Bool.and_true]
 | c :: cs => by simp only [rowsT, rowV, go_sem, Bool.and_self, Bool.and_true, rowsT_clb N A cs]
attribute [go_sem] rowsT_clb
theorem rowsT_len (N : List (List Int)) (A : List Bool) : ∀ cs, (rowsT N A cs).length = cs.length + 1
 | [] => rfl
 | c :: cs => by simp only [rowsT, List.length_cons, rowsT_len N A cs]
theorem rowsT_get (N : List (List Int)) (A : List Bool) : ∀ (cs : List Nat) (k : Nat), k ≤ cs.length → (rowsT N A cs)[k]? = some (rowV N A (cs.drop k))
  | [], k, h => by obtain rfl : k = 0 := by simpa using h
                   rfl
  | c :: cs, 0, h => rfl
  | c :: cs, k + 1, h => by rw [List.drop_succ_cons, ← rowsT_get N A cs k (by simpa using h)]; rfl
theorem rowsT_drop (N : List (List Int)) (A : List Bool) : ∀ (cs : List Nat) (k : Nat), k < cs.length → rowsT N A (cs.drop k) = rowV N A (cs.drop k) :: rowsT N A (cs.drop (k + 1))
 | c :: cs, 0, h => rfl
 | c :: cs, k + 1, h => by simp only [List.drop_succ_cons]; exact rowsT_drop N A cs k (by simpa using h)
def zR : AV := .v (.slice none 0 0)
def ZL (n : Nat) : List AV := List.replicate n zR
theorem ZL_flat (n : Nat) : (List.replicate n [AV.v (.slice none 0 0)]).flatten = ZL n := by
 unfold ZL
 induction n with
 | zero => rfl
 | succ n ih => rw [List.replicate_succ, List.flatten_cons, ih]; rfl
theorem ZL_clb (n : Nat) : clbs (ZL n) = true := by unfold ZL; rw [clbs_eq]; simp [zR, go_sem]
attribute [go_sem] ZL_clb
theorem ZL_len (n : Nat) : (ZL n).length = n := by simp [ZL]
noncomputable def TB (N : List (List Int)) (A : List Bool) (cs : List Nat) (k : Nat) : List AV := ZL k ++ rowsT N A (cs.drop k)
theorem TB_clb (N : List (List Int)) (A : List Bool) (cs : List Nat) (k : Nat) : clbs (TB N A cs k) = true := by
 have h1 := ZL_clb k
 have h2 := rowsT_clb N A (cs.drop k)
 rw [clbs_eq] at h1 h2 ⊢
 unfold TB; rw [List.all_append, h1, h2]; rfl
attribute [go_sem] TB_clb
theorem TB_len {N : List (List Int)} {A : List Bool} {cs : List Nat} {k : Nat} (h : k ≤ cs.length) : (TB N A cs k).length = cs.length + 1 := by
 unfold TB; rw [List.length_append, ZL_len, rowsT_len, List.length_drop]; omega
theorem TB_get {N : List (List Int)} {A : List Bool} {cs : List Nat} {k : Nat} (h : k ≤ cs.length) : (TB N A cs k)[k]? = some (rowV N A (cs.drop k)) := by
 unfold TB; rw [List.getElem?_append_right (by rw [ZL_len]; exact Nat.le_refl _), ZL_len, Nat.sub_self, rowsT_get N A _ 0 (Nat.zero_le _), List.drop_drop]; rfl
theorem Svs.app3 {H : List AO} {σ : List Src} {F : Nat → Prop} {a b : List AV} {x y : AV} (ha : clbs a = true) (hb : clbs b = true) (h : Sv H σ F x y) : Svs H σ F (a ++ [x] ++ b) (a ++ [y] ++ b) :=
 .append (.append (.cl (.of ha)) (.consI h .nilI)) (.cl (.of hb))
theorem TB_svs {H : List AO} {σ : List Src} {F : Nat → Prop} {N : List (List Int)} {A : List Bool} {cs : List Nat} {k id : Nat} (hk : k < cs.length) (ho : H[id]? = some (.cells 1 (ints (rowOf N A (cs.drop k)))) ∧ F id) : Svs H σ F ((TB N A cs (k + 1)).take k ++ [.sl id 0 N.length] ++ (TB N A cs (k + 1)).drop (k + 1)) (TB N A cs k) := by
 have e1 : (TB N A cs (k + 1)).take k = ZL k := by
  unfold TB; rw [List.take_append_of_le_length (by rw [ZL_len]; omega)]; simp [ZL, List.take_replicate]
 have e2 : (TB N A cs (k + 1)).drop (k + 1) = rowsT N A (cs.drop (k + 1)) := by
  unfold TB; rw [List.drop_append_of_le_length (by rw [ZL_len]; exact Nat.le_refl _)]; simp [ZL]
 have e3 : TB N A cs k = ZL k ++ [rowV N A (cs.drop k)] ++ rowsT N A (cs.drop (k + 1)) := by
  unfold TB; rw [rowsT_drop N A cs k hk]; simp
 rw [e1, e2, e3]
 exact Svs.app3 (ZL_clb k) (rowsT_clb N A _) (Sv.slFE (.inl ho) rfl (Svs.eq rfl (ints_clb _)))
theorem TB_svs0 {H : List AO} {σ : List Src} {F : Nat → Prop} {N : List (List Int)} {A : List Bool} {cs : List Nat} {id mm : Nat} (hm : mm = cs.length + 1) (ho : H[id]? = some (.cells 1 (ints (rowOf N A []))) ∧ F id) : Svs H σ F ((ZL mm).take cs.length ++ [.sl id 0 N.length] ++ (ZL mm).drop (cs.length + 1)) (TB N A cs cs.length) := by
 subst hm
 have e3 : TB N A cs cs.length = ZL cs.length ++ [rowV N A []] ++ [] := by
  unfold TB; rw [List.drop_of_length_le (Nat.le_refl _), List.append_nil]; rfl
 rw [e3, show (ZL (cs.length + 1)).take cs.length = ZL cs.length by simp [ZL, List.take_replicate], show (ZL (cs.length + 1)).drop (cs.length + 1) = [] by simp [ZL]]
 exact Svs.app3 (ZL_clb _) rfl (Sv.slFE (.inl ho) rfl (Svs.eq rfl (ints_clb _)))
theorem fl_abin {c : Nat} (h : c < 4) : abin .xor (.int .i64 (c : Int)) (.int .i64 1) = some (.int .i64 (fl c : Int)) := by
 match c, h with
 | 0, _ | 1, _ | 2, _ | 3, _ => rfl
def twice (d : List Int) : List Int := d.map fun x => min (2 * x) 9
theorem twice_len (d : List Int) : (twice d).length = d.length := by simp [twice]
theorem twice_at {d : List Int} {k : Nat} (h : k < d.length) : vAt (twice d) k = min (2 * vAt d k) 9 := by
 simp [twice, vAt, List.getD_eq_getElem?_getD, h]
def S39 (cs : List Nat) (mm : Nat) (n : Nat) (d : List Int) (k : Nat) : List AV := [.any, .im cs.length (lts cs), .pt 0 0, .any, .any, .sl 1 0 mm, .sl 2 0 n, .any, .any, .any, .any, .any, .any, .any, .any, .any, .any, .any, .any, .any, .any, .any, .any, .any, .any, .any, .any, .any, .any, .im n (ints d), .v (.int .i64 n), .v (.int .i64 k), .any, .any, .any, .any, .any, .any, .any, .any, .any, .any, .any, .any, .any, .any, .any, .any, .any, .any, .any, .any, .any, .any, .any, .any, .any, .any, .any, .any, .any, .any, .any, .any, .any, .any, .any, .any, .any, .any, .any, .any, .any, .any, .any, .any, .any, .any, .any, .any, .any, .any, .any, .any, .any, .any, .any, .any, .any, .any, .any, .any, .any, .any, .any, .any, .any, .any, .any, .any, .any, .any, .any, .any, .any, .any, .any, .any, .any, .any, .any, .any, .any, .any, .any, .any, .any, .any, .any, .any, .any, .any, .any, .any, .any, .any, .any, .any, .any, .any, .any, .any, .any, .any, .any, .any, .any, .any, .any, .any, .any, .any, .any, .any, .any, .any, .any, .any, .any, .any, .any, .any, .any, .any, .any, .any, .any, .any, .any, .any, .any, .any, .any, .any, .any, .any, .any, .any, .any, .any, .any, .any, .any, .any, .any, .any, .any]
def S39a (cs : List Nat) (mm : Nat) (k : Nat) : List AV := [.any, .im cs.length (lts cs), .pt 0 0, .any, .any, .sl 1 0 mm, .any, .any, .any, .v (.int .i64 ((k : Int) - 1)), .any, .any, .any, .any, .any, .any, .any, .any, .any, .any, .any, .any, .any, .any, .any, .any, .any, .any, .any, .any, .any, .any, .any, .any, .any, .any, .any, .any, .any, .any, .any, .any, .any, .any, .any, .any, .any, .any, .any, .any, .any, .any, .any, .any, .any, .any, .any, .any, .any, .any, .any, .any, .any, .any, .any, .any, .any, .any, .any, .any, .any, .any, .any, .any, .any, .any, .any, .any, .any, .any, .any, .any, .any, .any, .any, .any, .any, .any, .any, .any, .any, .any, .any, .any, .any, .any, .any, .any, .any, .any, .any, .any, .any, .any, .any, .any, .any, .any, .any, .any, .any, .any, .any, .any, .any, .any, .any, .any, .any, .any, .any, .any, .any, .any, .any, .any, .any, .any, .any, .any, .any, .any, .any, .any, .any, .any, .any, .any, .any, .any, .any, .any, .any, .any, .any, .any, .any, .any, .any, .any, .any, .any, .any, .any, .any, .any, .any, .any, .any, .any, .any, .any, .any, .any, .any, .any, .any, .any, .any, .any, .any, .any, .any, .any, .any, .any, .any]
def S39b (cs : List Nat) (mm : Nat) (k : Nat) (N : List (List Int)) (q : Nat) : List AV := [.any, .im cs.length (lts cs), .pt 0 0, .any, .any, .sl 1 0 mm, .any, .any, .any, .v (.int .i64 k), .sl 2 0 N.length, .any, .any, .any, .any, .any, .any, .any, .any, .any, .any, .any, .any, .any, .any, .any, .any, .any, .any, .any, .any, .any, .any, .any, .any, .any, .any, .any, .any, .any, .any, .any, .any, .any, .any, .any, .any, .any, .any, .any, .any, .any, .any, .any, .any, .any, .any, .any, .any, .any, .im N.length (rows N), .v (.int .i64 N.length), .v (.int .i64 q), .any, .any, .any, .any, .any, .any, .any, .any, .any, .any, .any, .any, .any, .any, .any, .any, .any, .any, .any, .any, .any, .any, .any, .any, .any, .any, .any, .any, .any, .any, .any, .any, .any, .any, .any, .any, .any, .any, .any, .any, .any, .any, .any, .any, .any, .any, .any, .any, .any, .any, .any, .any, .any, .any, .any, .any, .any, .any, .any, .any, .any, .any, .any, .any, .any, .any, .any, .any, .any, .any, .any, .any, .any, .any, .any, .any, .any, .any, .any, .any, .any, .any, .any, .any, .any, .any, .any, .any, .any, .any, .any, .any, .any, .any, .any, .any, .any, .any, .any, .any, .any, .any, .any, .any, .any, .any, .any, .any, .any, .any, .any, .any, .any, .any]
def S39c (cs : List Nat) (mm : Nat) (k : Nat) (n : Nat) (m : Bool) : List AV := [.any, .im cs.length (lts cs), .pt 0 0, .any, .any, .sl 1 0 mm, .any, .any, .any, .v (.int .i64 k), .sl 2 0 n, .any, .any, .any, .any, .v (.bool m), .any, .any, .any, .any, .any, .any, .any, .any, .any, .any, .any, .any, .any, .any, .any, .any, .any, .any, .any, .any, .any, .any, .any, .any, .any, .any, .any, .any, .any, .any, .any, .any, .any, .any, .any, .any, .any, .any, .any, .any, .any, .any, .any, .any, .any, .any, .any, .any, .any, .any, .any, .any, .any, .any, .any, .any, .any, .any, .any, .any, .any, .any, .any, .any, .any, .any, .any, .any, .any, .any, .any, .any, .any, .any, .any, .any, .any, .any, .any, .any, .any, .any, .any, .any, .any, .any, .any, .any, .any, .any, .any, .any, .any, .any, .any, .any, .any, .any, .any, .any, .any, .any, .any, .any, .any, .any, .any, .any, .any, .any, .any, .any, .any, .any, .any, .any, .any, .any, .any, .any, .any, .any, .any, .any, .any, .any, .any, .any, .any, .any, .any, .any, .any, .any, .any, .any, .any, .any, .any, .any, .any, .any, .any, .any, .any, .any, .any, .any, .any, .any, .any, .any, .any, .any, .any, .any, .any, .any, .any, .any, .any]
def S39d (cs : List Nat) (mm : Nat) (k : Nat) (N : List (List Int)) (s : Nat × Bool × List Int) : List AV := [.any, .im cs.length (lts cs), .pt 0 0, .any, .any, .sl 1 0 mm, .any, .any, .any, .v (.int .i64 k), .sl 2 0 N.length, .any, .any, .any, .any, .v (.bool s.2.1), .any, .any, .any, .any, .any, .any, .any, .any, .any, .any, .any, .any, .any, .any, .any, .any, .any, .any, .any, .any, .any, .any, .any, .any, .any, .any, .any, .any, .any, .any, .any, .any, .any, .any, .any, .any, .any, .any, .any, .any, .any, .any, .any, .any, .any, .any, .any, .any, .any, .any, .any, .any, .any, .any, .any, .any, .any, .any, .any, .any, .any, .any, .any, .any, .any, .any, .any, .any, .any, .any, .any, .any, .any, .any, .any, .any, .any, .any, .any, .any, .any, .any, .any, .any, .any, .any, .any, .any, .any, .any, .any, .any, .any, .any, .any, .any, .any, .any, .any, .any, .any, .any, .any, .any, .any, .any, .any, .any, .any, .any, .any, .any, .any, .any, .any, .any, .any, .any, .any, .im N.length (rows N), .v (.int .i64 N.length), .v (.int .i64 s.1), .any, .any, .any, .any, .any, .any, .any, .any, .any, .any, .any, .any, .any, .any, .any, .any, .any, .any, .any, .any, .any, .any, .any, .any, .any, .any, .any, .any, .any, .any, .any, .any, .any, .any, .any, .any, .any, .any, .any]
def S39e (cs : List Nat) (mm : Nat) (k : Nat) (N : List (List Int)) (q : Nat) (row : List Int) (s : Nat × Bool × List Int) : List AV := [.any, .im cs.length (lts cs), .pt 0 0, .any, .any, .sl 1 0 mm, .any, .any, .any, .v (.int .i64 k), .sl 2 0 N.length, .any, .any, .any, .any, .v (.bool s.2.1), .v (.int .i64 q), .any, .any, .any, .any, .any, .any, .any, .any, .any, .any, .any, .any, .any, .any, .any, .any, .any, .any, .any, .any, .any, .any, .any, .any, .any, .any, .any, .any, .any, .any, .any, .any, .any, .any, .any, .any, .any, .any, .any, .any, .any, .any, .any, .any, .any, .any, .any, .any, .any, .any, .any, .any, .any, .any, .any, .any, .any, .any, .any, .any, .any, .any, .any, .any, .any, .any, .any, .any, .any, .any, .any, .any, .any, .any, .any, .any, .any, .any, .any, .any, .any, .any, .any, .any, .any, .any, .any, .any, .any, .any, .any, .any, .any, .any, .any, .any, .any, .any, .any, .any, .any, .any, .any, .any, .any, .any, .any, .any, .any, .any, .any, .any, .any, .any, .any, .any, .any, .any, .im N.length (rows N), .v (.int .i64 N.length), .v (.int .i64 q), .any, .any, .any, .any, .im row.length (ints row), .v (.int .i64 row.length), .v (.int .i64 s.1), .any, .any, .any, .any, .any, .any, .any, .any, .any, .any, .any, .any, .any, .any, .any, .any, .any, .any, .any, .any, .any, .any, .any, .any, .any, .any, .any, .any, .any, .any, .any, .any]
noncomputable def O39 (S : Int) (N : List (List Int)) (A : List Bool) (cs : List Nat) (k : Nat) (r : List Int) : List AO := [aO 4 S N A, .cells 1 (TB N A cs k), .cells 1 (ints r)]
set_option maxHeartbeats 4000000 in
theorem table39 (S : Int) (N : List (List Int)) (A : List Bool) (cs : List Nat) (h : Fit4 S N A) (hcs : ∀ c ∈ cs, c < 4) (h6 : cs.length ≤ 6) : APure Tryz.prog 39 [aV 4 S N A, .im cs.length (lts cs)] (.im (cs.length + 1) (rowsT N A cs)) := by
 refine callp39 ?_
 have hT := h.fit.tab
 have hl := h.fit.len
 have hsm := h.small
 have hn0 : 0 < N.length := by have := h.st; omega
 have bl : (base A).length = N.length := by rw [base_len]; exact hl
 obtain ⟨d, hd⟩ := Ins.exist (w := 1) (b := base A) hT bl (by decide) (base_wt0 hl)
 have c72 := distances72 S N A h
 rw [insOf_eq hT bl hd] at c72
 have e0 : rowOf N A [] = twice d := by rw [rowOf_dist h.fit, insOf_eq hT bl hd]; rfl
 have dl : d.length = N.length := by rw [hd.len, bl]
 have hdw := fun (s : Nat) hs => pre_wt (s := s) hT bl (by decide) (base_wt A) hd.pre hs
 have z0 := fillG_zero (twice d) ((twice_len d).trans dl)
 obtain ⟨mm, hm⟩ : ∃ mm, mm = cs.length + 1 := ⟨_, rfl⟩
 have w0 : IntKind.wrap .i64 ((cs.length : Int) + 1) = (mm : Int) := by rw [wrapI (by omega) (by omega)]; omega
 unfold aV at c72
 simp only [go_sem, seval, L39, aV, Int.toNat_natCast, w0, z0, ZL_flat]
 repeat' (first | ((first | ((first | refine LCall_pure (c72) (Cls.of ?_) ?_); exact cx) | refine MX_okL rfl ?_ | refine LNext_if sd ?_ | refine ZNext_if sd ?_ | refine ZY_if sd ?_ | refine And.intro okq ?_); (try simp only [go_sem, seval, Int.toNat_natCast, w0, z0, ZL_flat])) | (refine And.intro ?_ ?_))
 refine MW_loop_st (S39 cs mm N.length d) (fun k => [aO 4 S N A, .cells 1 (ZL mm), .cells 1 (ints (fillG (twice d) k))]) (fun k => k ≤ N.length) (fun k => N.length - k) 0 ?_ (Nat.zero_le _) ?_
 ·unfold aO
  exact kp [.old 0, .old 1, .old 2]
 rintro k i1
 unfold aO
 rcases Nat.lt_or_ge k N.length with hi | hi
 ·have hi' : (k : Int) < N.length := by omega
  have rl := fillG_len (R := twice d) (k := k) (by rw [twice_len]; omega)
  rw [twice_len] at rl
  have hset := fillG_set (R := twice d) (k := k) (by rw [twice_len]; omega)
  rw [twice_at (by omega)] at hset
  generalize fillG (twice d) k = r at rl hset
  have ek := vAt_some (r := d) (s := k) (by omega)
  have bk := hdw k hi
  have ws := wrapS (show k < 9223372036854775807 by omega)
  have w2 : IntKind.wrap .i64 (2 * vAt d k) = 2 * vAt d k := wrapI (by omega) (by omega)
  have m0 : (if 9 < 2 * vAt d k then 9 else 2 * vAt d k) = min (2 * vAt d k) 9 := by split <;> omega
  have set1 := ints_set r k (min (2 * vAt d k) 9) (by omega)
  simp only [go_sem, seval, L39_b0, S39, hi', ints_drop ek, Int.toNat_natCast, w2, m0, set1]
  repeat' (first | ((first | refine MX_okL rfl ?_ | refine LNext_if sd ?_ | refine ZNext_if sd ?_ | refine ZY_if sd ?_ | refine And.intro okq ?_); (try simp only [go_sem, seval, hi', ints_drop ek, Int.toNat_natCast, w2, m0, set1])) | (refine And.intro ?_ ?_))
  refine ⟨k + 1, by omega, by omega, ?_⟩
  rw [← hset]
  exact kp [.old 0, .old 1, .old 2]
 have hi' : ¬ (k : Int) < N.length := by omega
 obtain rfl : k = N.length := by omega
 have fe := fillG_end (twice d)
 rw [twice_len, dl] at fe
 have w3 : IntKind.wrap .i64 ((cs.length : Int) - 1) = (cs.length : Int) - 1 := wrapI (by omega) (by omega)
 have b3 : (cs.length : Int) < (mm : Int) := by omega
 simp only [go_sem, seval, L39_b0, S39, hi', fe, w3, Int.toNat_natCast, b3, ZL_len]
 repeat' (first | ((first | refine MX_okL rfl ?_ | refine LNext_if sd ?_ | refine ZNext_if sd ?_ | refine ZY_if sd ?_ | refine And.intro okq ?_); (try simp only [go_sem, seval, hi', w3, Int.toNat_natCast, b3, ZL_len])) | (refine And.intro ?_ ?_))
 refine MW_loop_st (S39a cs mm) (fun k => [aO 4 S N A, .cells 1 (TB N A cs k)]) (fun k => k ≤ cs.length) (fun k => k) cs.length ?_ (Nat.le_refl _) ?_
 ·unfold aO
  rw [← e0]
  (refine VS_of [.old 0, .old 1] (by decide) ?_ ?_ (by decide); all_goals (repeat' (first | exact trivial | refine And.intro ?_ ?_ | exact ⟨rfl, rfl⟩ | exact Sg.any | ((first | refine ⟨_, rfl, ?_⟩ | refine ⟨_, .inl ⟨rfl, rfl⟩, ?_⟩ | refine ⟨_, .inr rfl, ?_⟩ | refine Sg.of ?_); (repeat' (first | (exact TB_svs0 hm ⟨rfl, rfl⟩) | ((first | refine Sv.cl (Cl.of ?_) | refine Svs.cl (Cls.of ?_)); simp only [go_sem, Bool.and_self, Bool.and_true]; done) | exact Sv.pt rfl | exact Sv.mp rfl | exact Sv.nil rfl | exact Sv.em rfl | (refine Sv.slE rfl ?_ ?_ <;> (first | rfl | omega | (simp only [go_sem]; done) | (simp [go_sem]; done) | (simp [go_sem]; omega))) | ((first | refine Sv.eq ?_ ?_ | refine Svs.eq ?_ ?_) <;> (first | rfl | omega | (simp only [go_sem]; done) | (simp [go_sem]; done) | (simp [go_sem]; omega))) | exact Sv.nil0 | exact Sv.em0 | exact Sv.sl0 | ((first | refine Sv.slFE (.inl ⟨rfl, rfl⟩) ?_ (Svs.eq ?_ ?_) | refine Sv.slFE (.inr rfl) ?_ (Svs.eq ?_ ?_)) <;> (first | rfl | omega | (simp only [go_sem]; done) | (simp [go_sem]; done) | (simp [go_sem]; omega))) | exact Svs.nilI | refine Svs.consI ?_ ?_ | refine Sv.tu ?_ | refine Sv.ag ?_)); done) | rfl)))
 rintro k i1
 unfold aO
 cases k with
 | zero =>
  simp only [go_sem, seval, L39_b5, S39a]
  repeat' (first | ((first | refine MX_okL rfl ?_ | refine LNext_if sd ?_ | refine ZNext_if sd ?_ | refine ZY_if sd ?_ | refine And.intro okq ?_); (try simp only [go_sem, seval])) | (refine And.intro ?_ ?_))
  subst hm
  exact Fin_of ⟨rfl, rfl⟩ (kp [])
 | succ k =>
  have wk := wrapS (show k < 9223372036854775807 by omega)
  have wm : IntKind.wrap .i64 ((k : Int) - 1) = (k : Int) - 1 := wrapI (by omega) (by omega)
  have ek : ((k + 1 : Nat) : Int) - 1 = k := by omega
  have ht : (0 : Int) ≤ (k : Int) := by omega
  obtain ⟨c, ec, ed⟩ := dropG (l := cs) (k := k) (by omega)
  have hc := hcs c (List.mem_of_getElem? ec)
  have hcd : ∀ x ∈ c :: cs.drop (k + 1), x < 4 := by rw [← ed]; exact fun x hx => hcs x (List.mem_of_mem_drop hx)
  obtain ⟨v, hv⟩ : ∃ v, rowOf N A (cs.drop (k + 1)) = v := ⟨_, rfl⟩
  obtain ⟨hr1, hvw⟩ := row_all h.fit (cs.drop (k + 1)) (fun x hx => hcs x (List.mem_of_mem_drop hx))
  rw [hv] at hr1 hvw
  have vl : v.length = N.length := by rw [hr1.len, hl]
  have erow : rowOf N A (cs.drop k) = insOf N 2 (ahd N c v) := by rw [ed, rowOf_cons h.fit hcd, hv]
  have gB := TB_get (N := N) (A := A) (cs := cs) (k := k + 1) (by omega)
  unfold rowV at gB
  rw [hv] at gB
  have fe := fl_abin hc
  simp only [go_sem, seval, Option.some.injEq, Value.int.injEq, true_and] at fe
  have z1 := fillG_zero (ahd N c v) ((ahd_len N c v).trans vl)
  have hm2 : ((k + 1 : Nat) : Int) < mm := by omega
  have hm3 : (k : Int) < mm := by omega
  simp only [go_sem, seval, L39_b5, S39a, ek, ht, ge_iff_le, Int.toNat_natCast, z1]
  repeat' (first | ((first | refine MX_okL rfl ?_ | refine LNext_if sd ?_ | refine ZNext_if sd ?_ | refine ZY_if sd ?_ | refine And.intro okq ?_); (try simp only [go_sem, seval, ek, ht, ge_iff_le, Int.toNat_natCast, z1])) | (refine And.intro ?_ ?_))
  refine MW_loop_st (S39b cs mm k N) (fun q => O39 S N A cs (k + 1) (fillG (ahd N c v) q)) (fun q => q ≤ N.length) (fun q => N.length - q) 0 ?_ (Nat.zero_le _) ?_
  ·unfold O39 aO
   exact kp [.old 0, .old 1, .old 2]
  rintro q q1
  unfold O39 aO
  rcases Nat.lt_or_ge q N.length with hi | hi
  ·have hi' : (q : Int) < N.length := by omega
   have rl := fillG_len (R := ahd N c v) (k := q) (by rw [ahd_len]; omega)
   have hset := fillG_set (R := ahd N c v) (k := q) (by rw [ahd_len]; omega)
   rw [ahd_len] at rl
   rw [ahd_at (by omega)] at hset
   generalize fillG (ahd N c v) q = r at rl hset
   have ev := vAt_some (r := v) (s := q) (by omega)
   have bq := hvw q hi
   obtain ⟨row, a1, a2, a3⟩ := h.at' (q := q) hi hc
   obtain ⟨row2, d1, d2, d3⟩ := h.at' (q := q) hi (fl_lt hc)
   obtain rfl : row = row2 := by rw [a1] at d1; injection d1
   have b1 := hT q c hi hc
   have b2 := hT q (fl c) hi (fl_lt hc)
   have bc : (c : Int) < row.length := by omega
   have bd : ((fl c : Nat) : Int) < row.length := by have := fl_lt hc; omega
   have bk : (k : Int) < cs.length := by omega
   have evd := ints_drop ev
   have w0' : IntKind.wrap .i64 (vAt v q + 2) = vAt v q + 2 := wrapI (by omega) (by omega)
   have m0 : (if 9 < vAt v q + 2 then 9 else vAt v q + 2) = min (vAt v q + 2) 9 := by split <;> omega
   have ws := wrapS (show q < 9223372036854775807 by omega)
   have set1 : ∀ x : Int, (ints r).take q ++ [.v (.int .i64 x)] ++ (ints r).drop (q + 1) = ints (r.set q x) := fun x => ints_set r q x (by omega)
   have set2 : ∀ x y : Int, (ints (r.set q x)).take q ++ [.v (.int .i64 y)] ++ (ints (r.set q x)).drop (q + 1) = ints (r.set q y) := fun x y => by
    rw [ints_set (r.set q x) q y (by simp; omega), List.set_set]
   have get2 : ∀ x : Int, (ints (r.set q x))[q]? = some (.v (.int .i64 x)) := fun x => ints_get (by rw [List.getElem?_set_self (by omega)])
   unfold ahd1 at hset
   dsimp only at hset
   have MM : ∀ x y : Int, (if y < x then y else x) = min x y := fun x y => by split <;> omega
   by_cases t0 : 0 ≤ nx N q c
   ·obtain ⟨t, e⟩ : ∃ t : Nat, nx N q c = t := ⟨(nx N q c).toNat, by omega⟩
    rw [e] at a3 b1 hset
    rw [if_pos (show (t : Int) ≥ 0 by omega), Int.toNat_natCast] at hset
    have et := vAt_some (r := v) (s := t) (by omega)
    have ht0 : (0 : Int) ≤ (t : Int) := by omega
    have htl : (t : Int) < N.length := by omega
    have m1 : ∀ x : Int, (if vAt v t < x then vAt v t else x) = min x (vAt v t) := fun x => MM _ _
    by_cases u0 : 0 ≤ nx N q (fl c)
    ·obtain ⟨u, f⟩ : ∃ u : Nat, nx N q (fl c) = u := ⟨(nx N q (fl c)).toNat, by omega⟩
     rw [f] at d3 b2 hset
     rw [if_pos (show (u : Int) ≥ 0 by omega), Int.toNat_natCast] at hset
     have eu := vAt_some (r := v) (s := u) (by omega)
     have bu := hvw u (by omega)
     have hu0 : (0 : Int) ≤ (u : Int) := by omega
     have hul : (u : Int) < N.length := by omega
     have w1 : IntKind.wrap .i64 (vAt v u + 1) = vAt v u + 1 := wrapI (by omega) (by omega)
     have m2 : ∀ x : Int, (if vAt v u + 1 < x then vAt v u + 1 else x) = min x (vAt v u + 1) := fun x => MM _ _
     simp only [go_sem, seval, L39_b1, S39b, Int.toNat_natCast, wk, gB, hm2, rowV, ge_iff_le, hi', rows_drop a1, evd, lts_drop ec, ints_drop a3, ints_drop d3, fe, w0', m0, get2, set1, set2, bk, bc, bd, ht0, ints_drop et, m1, htl, hu0, ints_drop eu, w1, m2, hul]
     repeat' (first | ((first | (refine MW_dy dl39_19 mixedP dx39_19 ax39_19 0 ?_ ?_; exact yl) | (refine MW_dy dl39_22 mixedP dx39_22 ax39_22 0 ?_ ?_; exact yl) | refine MX_okL rfl ?_ | refine LNext_if sd ?_ | refine ZNext_if sd ?_ | refine ZY_if sd ?_ | refine And.intro okq ?_); (try simp only [go_sem, seval, l39_19, l39_22, Int.toNat_natCast, wk, gB, hm2, rowV, ge_iff_le, hi', rows_drop a1, evd, lts_drop ec, ints_drop a3, ints_drop d3, fe, w0', m0, get2, set1, set2, bk, bc, bd, ht0, ints_drop et, m1, htl, hu0, ints_drop eu, w1, m2, hul])) | (refine And.intro ?_ ?_))
     refine ⟨q + 1, by omega, by omega, ?_⟩
     rw [← hset]
     exact kp [.old 0, .old 1, .old 2]
    ·rw [if_neg (show ¬ nx N q (fl c) ≥ 0 by omega)] at hset
     simp only [go_sem, seval, L39_b1, S39b, Int.toNat_natCast, wk, gB, hm2, rowV, ge_iff_le, hi', rows_drop a1, evd, lts_drop ec, ints_drop a3, ints_drop d3, fe, w0', m0, get2, set1, set2, bk, bc, bd, ht0, ints_drop et, m1, htl, u0]
     repeat' (first | ((first | (refine MW_dy dl39_19 mixedP dx39_19 ax39_19 0 ?_ ?_; exact yl) | refine MX_okL rfl ?_ | refine LNext_if sd ?_ | refine ZNext_if sd ?_ | refine ZY_if sd ?_ | refine And.intro okq ?_); (try simp only [go_sem, seval, l39_19, Int.toNat_natCast, wk, gB, hm2, rowV, ge_iff_le, hi', rows_drop a1, evd, lts_drop ec, ints_drop a3, ints_drop d3, fe, w0', m0, get2, set1, set2, bk, bc, bd, ht0, ints_drop et, m1, htl, u0])) | (refine And.intro ?_ ?_))
     refine ⟨q + 1, by omega, by omega, ?_⟩
     rw [← hset]
     exact kp [.old 0, .old 1, .old 2]
   ·rw [if_neg (show ¬ nx N q c ≥ 0 by omega)] at hset
    by_cases u0 : 0 ≤ nx N q (fl c)
    ·obtain ⟨u, f⟩ : ∃ u : Nat, nx N q (fl c) = u := ⟨(nx N q (fl c)).toNat, by omega⟩
     rw [f] at d3 b2 hset
     rw [if_pos (show (u : Int) ≥ 0 by omega), Int.toNat_natCast] at hset
     have eu := vAt_some (r := v) (s := u) (by omega)
     have bu := hvw u (by omega)
     have hu0 : (0 : Int) ≤ (u : Int) := by omega
     have hul : (u : Int) < N.length := by omega
     have w1 : IntKind.wrap .i64 (vAt v u + 1) = vAt v u + 1 := wrapI (by omega) (by omega)
     have m2 : ∀ x : Int, (if vAt v u + 1 < x then vAt v u + 1 else x) = min x (vAt v u + 1) := fun x => MM _ _
     simp only [go_sem, seval, L39_b1, S39b, Int.toNat_natCast, wk, gB, hm2, rowV, ge_iff_le, hi', rows_drop a1, evd, lts_drop ec, ints_drop a3, ints_drop d3, fe, w0', m0, get2, set1, set2, bk, bc, bd, t0, hu0, ints_drop eu, w1, m2, hul]
     repeat' (first | ((first | (refine MW_dy dl39_22 mixedP dx39_22 ax39_22 0 ?_ ?_; exact yl) | refine MX_okL rfl ?_ | refine LNext_if sd ?_ | refine ZNext_if sd ?_ | refine ZY_if sd ?_ | refine And.intro okq ?_); (try simp only [go_sem, seval, l39_22, Int.toNat_natCast, wk, gB, hm2, rowV, ge_iff_le, hi', rows_drop a1, evd, lts_drop ec, ints_drop a3, ints_drop d3, fe, w0', m0, get2, set1, set2, bk, bc, bd, t0, hu0, ints_drop eu, w1, m2, hul])) | (refine And.intro ?_ ?_))
     refine ⟨q + 1, by omega, by omega, ?_⟩
     rw [← hset]
     exact kp [.old 0, .old 1, .old 2]
    ·rw [if_neg (show ¬ nx N q (fl c) ≥ 0 by omega)] at hset
     simp only [go_sem, seval, L39_b1, S39b, Int.toNat_natCast, wk, gB, hm2, rowV, ge_iff_le, hi', rows_drop a1, evd, lts_drop ec, ints_drop a3, ints_drop d3, fe, w0', m0, get2, set1, set2, bk, bc, bd, t0, u0]
     repeat' (first | ((first | refine MX_okL rfl ?_ | refine LNext_if sd ?_ | refine ZNext_if sd ?_ | refine ZY_if sd ?_ | refine And.intro okq ?_); (try simp only [go_sem, seval, Int.toNat_natCast, wk, gB, hm2, rowV, ge_iff_le, hi', rows_drop a1, evd, lts_drop ec, ints_drop a3, ints_drop d3, fe, w0', m0, get2, set1, set2, bk, bc, bd, t0, u0])) | (refine And.intro ?_ ?_))
     refine ⟨q + 1, by omega, by omega, ?_⟩
     rw [← hset]
     exact kp [.old 0, .old 1, .old 2]
  have al : (ahd N c v).length = N.length := by rw [ahd_len, vl]
  have awt := ahd_wt h hc vl (fun s hs => hvw s (by omega))
  have lenTB := TB_len (N := N) (A := A) (cs := cs) (k := k + 1) (by omega)
  have hi' : ¬ (q : Int) < N.length := by omega
  obtain rfl : q = N.length := by omega
  have fE := fillG_end (ahd N c v)
  rw [al] at fE
  simp only [go_sem, seval, L39_b1, S39b, hi', fE]
  repeat' (first | ((first | refine MX_okL rfl ?_ | refine LNext_if sd ?_ | refine ZNext_if sd ?_ | refine ZY_if sd ?_ | refine And.intro okq ?_); (try simp only [go_sem, seval, hi'])) | (refine And.intro ?_ ?_))
  refine MW_loop_st (fun s => S39c cs mm k N.length s.1) (fun s => O39 S N A cs (k + 1) s.2) (JP N 2 (ahd N c v)) mP (true, ahd N c v) ?_ ⟨Pre.start N 2 (ahd N c v), fun q => by cases q⟩ ?_
  ·unfold O39 aO
   exact kp [.old 0, .old 1, .old 2]
  rintro ⟨m, r0⟩ ⟨j1, j2⟩
  dsimp only at j1 j2
  unfold O39 aO
  cases m with
  | false =>
   have rl : r0.length = N.length := by rw [j1.len, al]
   have er : rowOf N A (cs.drop k) = r0 := by rw [erow, insOf_eq hT al (j2 rfl)]
   simp only [go_sem, seval, L39_b4, S39c, Int.toNat_natCast, hm3, wm]
   repeat' (first | ((first | refine MX_okL rfl ?_ | refine LNext_if sd ?_ | refine ZNext_if sd ?_ | refine ZY_if sd ?_ | refine And.intro okq ?_); (try simp only [go_sem, seval, Int.toNat_natCast, hm3, wm, lenTB])) | (refine And.intro ?_ ?_))
   refine ⟨k, by omega, by omega, ?_⟩
   rw [← er]
   (refine VS_of [.old 0, .old 1] (by decide) ?_ ?_ (by decide); all_goals (repeat' (first | exact trivial | refine And.intro ?_ ?_ | exact ⟨rfl, rfl⟩ | exact Sg.any | ((first | refine ⟨_, rfl, ?_⟩ | refine ⟨_, .inl ⟨rfl, rfl⟩, ?_⟩ | refine ⟨_, .inr rfl, ?_⟩ | refine Sg.of ?_); (repeat' (first | (exact TB_svs (by omega) ⟨rfl, rfl⟩) | ((first | refine Sv.cl (Cl.of ?_) | refine Svs.cl (Cls.of ?_)); simp only [go_sem, Bool.and_self, Bool.and_true]; done) | exact Sv.pt rfl | exact Sv.mp rfl | exact Sv.nil rfl | exact Sv.em rfl | (refine Sv.slE rfl ?_ ?_ <;> (first | rfl | omega | (simp only [go_sem]; done) | (simp [go_sem]; done) | (simp [go_sem]; omega))) | ((first | refine Sv.eq ?_ ?_ | refine Svs.eq ?_ ?_) <;> (first | rfl | omega | (simp only [go_sem]; done) | (simp [go_sem]; done) | (simp [go_sem]; omega))) | exact Sv.nil0 | exact Sv.em0 | exact Sv.sl0 | ((first | refine Sv.slFE (.inl ⟨rfl, rfl⟩) ?_ (Svs.eq ?_ ?_) | refine Sv.slFE (.inr rfl) ?_ (Svs.eq ?_ ?_)) <;> (first | rfl | omega | (simp only [go_sem]; done) | (simp [go_sem]; done) | (simp [go_sem]; omega))) | exact Svs.nilI | refine Svs.consI ?_ ?_ | refine Sv.tu ?_ | refine Sv.ag ?_)); done) | rfl)))
  | true =>
   simp only [go_sem, seval, L39_b4, S39c]
   repeat' (first | ((first | refine MX_okL rfl ?_ | refine LNext_if sd ?_ | refine ZNext_if sd ?_ | refine ZY_if sd ?_ | refine And.intro okq ?_); (try simp only [go_sem, seval])) | (refine And.intro ?_ ?_))
   refine MW_loop_st (S39d cs mm k N) (fun s => O39 S N A cs (k + 1) s.2.2) (fun s => s.1 ≤ N.length ∧ FI N 2 (ahd N c v) r0 s.2.2 s.2.1 s.1 0) (fun s => N.length - s.1) (0, false, r0) ?_ ⟨Nat.zero_le _, FI.start j1⟩ ?_
   ·unfold O39 aO
    exact kp [.old 0, .old 1, .old 2]
   rintro ⟨q, m, r⟩ ⟨i1, i2⟩
   dsimp only at i1 i2
   unfold O39 aO
   rcases Nat.lt_or_ge q N.length with hq | hq
   ·have hq' : (q : Int) < N.length := by omega
    obtain ⟨row, a1, _⟩ := dropG hq
    have a2 := (h.rows row (List.mem_of_getElem? a1)).1
    simp only [go_sem, seval, L39_b3, S39d, hq', rows_drop a1, Int.toNat_natCast]
    repeat' (first | ((first | refine MX_okL rfl ?_ | refine LNext_if sd ?_ | refine ZNext_if sd ?_ | refine ZY_if sd ?_ | refine And.intro okq ?_); (try simp only [go_sem, seval, hq', rows_drop a1, Int.toNat_natCast])) | (refine And.intro ?_ ?_))
    refine MW_loop_st (S39e cs mm k N q row) (fun s => O39 S N A cs (k + 1) s.2.2) (fun s => s.1 ≤ 4 ∧ FI N 2 (ahd N c v) r0 s.2.2 s.2.1 q s.1) (fun s => 4 - s.1) (0, m, r) ?_ ⟨Nat.zero_le _, i2⟩ ?_
    ·unfold O39 aO
     exact kp [.old 0, .old 1, .old 2]
    rintro ⟨y, m2, r2⟩ ⟨k1, k2⟩
    dsimp only at k1 k2
    unfold O39 aO
    rcases Nat.lt_or_ge y 4 with hy | hy
    ·have hy' : (y : Int) < row.length := by omega
     obtain ⟨row', a1', _, a3⟩ := h.at' hq hy
     obtain rfl : row = row' := by rw [a1] at a1'; injection a1'
     have hrl : r2.length = N.length := by rw [k2.len, al]
     have hb := hT q y hq hy
     have ws := wrapS (show y < 9223372036854775807 by omega)
     by_cases t0 : 0 ≤ nx N q y
     ·obtain ⟨t, e⟩ : ∃ t : Nat, nx N q y = t := ⟨(nx N q y).toNat, by omega⟩
      rw [e] at a3 hb
      have et := vAt_some (r := r2) (s := t) (by omega)
      have eq := vAt_some (r := r2) (s := q) (by omega)
      have bt := pre_wt hT al (by decide) awt k2.pre (s := t) (by omega)
      have w2 : IntKind.wrap .i64 (vAt r2 t + 2) = vAt r2 t + 2 := wrapI (by omega) (by omega)
      have ht0 : (0 : Int) ≤ (t : Int) := by omega
      have htl : (t : Int) < N.length := by omega
      by_cases hlt : vAt r2 t + 2 < vAt r2 q
      ·have e2 := ints_set r2 q (vAt r2 t + 2) (by omega)
       simp only [go_sem, seval, L39_b2, S39e, hy', ge_iff_le, ht0, ints_drop a3, ints_get et, ints_get eq, w2, hlt, htl, hq', Int.toNat_natCast]
       repeat' (first | ((first | refine MW_still dl39_33 mixedP dx39_33 ?_ | refine MX_okL rfl ?_ | refine LNext_if sd ?_ | refine ZNext_if sd ?_ | refine ZY_if sd ?_ | refine And.intro okq ?_); (try simp only [go_sem, seval, l39_33, hy', ge_iff_le, ht0, ints_drop a3, ints_get et, ints_get eq, w2, hlt, htl, hq', Int.toNat_natCast, e2])) | (refine And.intro ?_ ?_))
       refine ⟨(y + 1, true, r2.set q (vAt r2 t + 2)), by dsimp only; omega, ⟨by dsimp only; omega, k2.upd hT al (by decide) (fun s hs => (awt s hs).1) hq hy e hlt⟩, ?_⟩
       exact kp [.old 0, .old 1, .old 2]
      ·simp only [go_sem, seval, L39_b2, S39e, hy', ge_iff_le, ht0, ints_drop a3, ints_get et, ints_get eq, w2, hlt, htl, hq', Int.toNat_natCast]
       repeat' (first | ((first | refine MW_still dl39_33 mixedP dx39_33 ?_ | refine MX_okL rfl ?_ | refine LNext_if sd ?_ | refine ZNext_if sd ?_ | refine ZY_if sd ?_ | refine And.intro okq ?_); (try simp only [go_sem, seval, l39_33, hy', ge_iff_le, ht0, ints_drop a3, ints_get et, ints_get eq, w2, hlt, htl, hq', Int.toNat_natCast])) | (refine And.intro ?_ ?_))
       refine ⟨(y + 1, m2, r2), by dsimp only; omega, ⟨by dsimp only; omega, k2.skip fun t' e' => ?_⟩, ?_⟩
       ·obtain rfl : t = t' := by omega
        exact hlt
       ·exact kp [.old 0, .old 1, .old 2]
     ·simp only [go_sem, seval, L39_b2, S39e, hy', ge_iff_le, ints_drop a3, t0, Int.toNat_natCast]
      repeat' (first | ((first | refine MW_still dl39_33 mixedP dx39_33 ?_ | refine MX_okL rfl ?_ | refine LNext_if sd ?_ | refine ZNext_if sd ?_ | refine ZY_if sd ?_ | refine And.intro okq ?_); (try simp only [go_sem, seval, l39_33, hy', ge_iff_le, ints_drop a3, t0, Int.toNat_natCast])) | (refine And.intro ?_ ?_))
      refine ⟨(y + 1, m2, r2), by dsimp only; omega, ⟨by dsimp only; omega, k2.skip fun t' e' => by omega⟩, ?_⟩
      exact kp [.old 0, .old 1, .old 2]
    ·have hy' : ¬ (4 : Int) < row.length := by omega
     obtain rfl : y = 4 := by omega
     simp only [go_sem, seval, L39_b2, S39e, hy', Int.cast_ofNat_Int]
     repeat' (first | ((first | refine MX_okL rfl ?_ | refine LNext_if sd ?_ | refine ZNext_if sd ?_ | refine ZY_if sd ?_ | refine And.intro okq ?_); (try simp only [go_sem, seval, hy', Int.cast_ofNat_Int])) | (refine And.intro ?_ ?_))
     refine ⟨(q + 1, m2, r2), by dsimp only; omega, ⟨by dsimp only; omega, k2.row⟩, ?_⟩
     (have kr0 := wrapS (show q < 9223372036854775807 by omega); exact kp [.old 0, .old 1, .old 2])
   ·have hq' : ¬ (q : Int) < N.length := by omega
    obtain rfl : q = N.length := by omega
    simp only [go_sem, seval, L39_b3, S39d, hq']
    repeat' (first | ((first | refine MX_okL rfl ?_ | refine LNext_if sd ?_ | refine ZNext_if sd ?_ | refine ZY_if sd ?_ | refine And.intro okq ?_); (try simp only [go_sem, seval, hq'])) | (refine And.intro ?_ ?_))
    refine ⟨(m, r), ?_, ⟨i2.pre, fun hm => ?_⟩, ?_⟩
    ·unfold mP
     dsimp only
     cases m with
     | false => have := (i2.no rfl).1; subst this; simp
     | true => have := i2.yes rfl; simp; omega
    ·dsimp only at hm
     subst hm
     exact i2.done al
    ·exact kp [.old 0, .old 1, .old 2]
end Go.Proofs.YtcjckmnhlfbdlaaGreatDoor
namespace Go.Proofs.YtcjckmnhlfbdlaaGreatDoor
open Go Go.Abs Go.Rep Go.Ne
theorem TB_set {N : List (List Int)} {A : List Bool} {cs : List Nat} {k : Nat} (hk : k < cs.length) : (TB N A cs (k + 1)).take k ++ [rowV N A (cs.drop k)] ++ (TB N A cs (k + 1)).drop (k + 1) = TB N A cs k := by
 have e1 : (TB N A cs (k + 1)).take k = ZL k := by
  unfold TB; rw [List.take_append_of_le_length (by rw [ZL_len]; omega)]; simp [ZL, List.take_replicate]
 have e2 : (TB N A cs (k + 1)).drop (k + 1) = rowsT N A (cs.drop (k + 1)) := by
  unfold TB; rw [List.drop_append_of_le_length (by rw [ZL_len]; exact Nat.le_refl _)]; simp [ZL]
 rw [e1, e2]
 unfold TB; rw [rowsT_drop N A cs k hk]; simp
theorem TB_set0 {N : List (List Int)} {A : List Bool} {cs : List Nat} {mm : Nat} (hm : mm = cs.length + 1) : (ZL mm).take cs.length ++ [rowV N A []] ++ (ZL mm).drop (cs.length + 1) = TB N A cs cs.length := by
 subst hm
 rw [show (ZL (cs.length + 1)).take cs.length = ZL cs.length by simp [ZL, List.take_replicate], show (ZL (cs.length + 1)).drop (cs.length + 1) = [] by simp [ZL]]
 unfold TB; rw [List.drop_of_length_le (Nat.le_refl _), List.append_nil]; rfl
theorem rowV_clb (N : List (List Int)) (A : List Bool) (cs : List Nat) : (rowV N A cs).clb = true := by
 simp only [rowV, go_sem, Bool.and_self, Bool.and_true]
attribute [go_sem] rowV_clb
def S23 (cs : List Nat) (mm : Nat) (k : Nat) : List AV := [.any, .im cs.length (lts cs), .pt 0 0, .any, .any, .sl 1 0 mm, .v (.int .i64 ((k : Int) - 1)), .any, .any, .any, .any, .any, .any, .any, .any, .any, .any, .any, .any, .any, .any, .any, .any, .any, .any, .any, .any, .any, .any, .any, .any, .any, .any, .any, .any, .any, .any, .any, .any]
set_option maxHeartbeats 4000000 in
theorem tables23 (S : Int) (N : List (List Int)) (A : List Bool) (cs : List Nat) (h : Fit4 S N A) (hcs : ∀ c ∈ cs, c < 4) (h6 : cs.length ≤ 6) : APure Tryz.prog 23 [aV 4 S N A, .im cs.length (lts cs)] (.im (cs.length + 1) (rowsT N A cs)) := by
 refine callp23 ?_
 have hl := h.fit.len
 obtain ⟨mm, hm⟩ : ∃ mm, mm = cs.length + 1 := ⟨_, rfl⟩
 have w0 : IntKind.wrap .i64 ((cs.length : Int) + 1) = (mm : Int) := by rw [wrapI (by omega) (by omega)]; omega
 have w3 : IntKind.wrap .i64 ((cs.length : Int) - 1) = (cs.length : Int) - 1 := wrapI (by omega) (by omega)
 have b3 : (cs.length : Int) < (mm : Int) := by omega
 have c42 := ends42 S N A h
 have ts := TB_set0 (N := N) (A := A) hm
 unfold rowV at ts
 unfold aV at c42
 simp only [go_sem, seval, L23, aV, Int.toNat_natCast, w0, w3, b3, ZL_flat, ZL_len]
 repeat' (first | ((first | ((first | refine LCall_pure (c42) (Cls.of ?_) ?_); exact cx) | refine MX_okL rfl ?_ | refine LNext_if sd ?_ | refine ZNext_if sd ?_ | refine ZY_if sd ?_ | refine And.intro okq ?_); (try simp only [go_sem, seval, Int.toNat_natCast, w0, w3, b3, ZL_flat, ZL_len, ts])) | (refine And.intro ?_ ?_))
 refine MW_loop_st (S23 cs mm) (fun k => [aO 4 S N A, .cells 1 (TB N A cs k)]) (fun k => k ≤ cs.length) (fun k => k) cs.length ?_ (Nat.le_refl _) ?_
 ·unfold aO
  exact kp [.old 0, .old 1]
 rintro k i1
 unfold aO
 cases k with
 | zero =>
  simp only [go_sem, seval, L23_b0, S23]
  repeat' (first | ((first | refine MX_okL rfl ?_ | refine LNext_if sd ?_ | refine ZNext_if sd ?_ | refine ZY_if sd ?_ | refine And.intro okq ?_); (try simp only [go_sem, seval])) | (refine And.intro ?_ ?_))
  subst hm
  exact Fin_of ⟨rfl, rfl⟩ (kp [])
 | succ k =>
  have wk := wrapS (show k < 9223372036854775807 by omega)
  have wm : IntKind.wrap .i64 ((k : Int) - 1) = (k : Int) - 1 := wrapI (by omega) (by omega)
  have ek : ((k + 1 : Nat) : Int) - 1 = k := by omega
  have ht : (0 : Int) ≤ (k : Int) := by omega
  obtain ⟨c, ec, ed⟩ := dropG (l := cs) (k := k) (by omega)
  have hc := hcs c (List.mem_of_getElem? ec)
  have hcd : ∀ x ∈ c :: cs.drop (k + 1), x < 4 := by rw [← ed]; exact fun x hx => hcs x (List.mem_of_mem_drop hx)
  obtain ⟨v, hv⟩ : ∃ v, rowOf N A (cs.drop (k + 1)) = v := ⟨_, rfl⟩
  obtain ⟨hr1, hvw⟩ := row_all h.fit (cs.drop (k + 1)) (fun x hx => hcs x (List.mem_of_mem_drop hx))
  rw [hv] at hr1 hvw
  have vl : v.length = N.length := by rw [hr1.len, hl]
  have erow : rowOf N A (cs.drop k) = insOf N 2 (ahd N c v) := by rw [ed, rowOf_cons h.fit hcd, hv]
  have gB := TB_get (N := N) (A := A) (cs := cs) (k := k + 1) (by omega)
  have lenTB := TB_len (N := N) (A := A) (cs := cs) (k := k + 1) (by omega)
  have ts := TB_set (N := N) (A := A) (cs := cs) (k := k) (by omega)
  have c43 := ahead43 S N A c v h hc vl (fun s hs => hvw s (by omega))
  unfold rowV at gB ts
  rw [hv, ← vl] at gB
  rw [erow, ← vl] at ts
  unfold aV at c43
  have hm2 : ((k + 1 : Nat) : Int) < mm := by omega
  have hm3 : (k : Int) < mm := by omega
  have bk : (k : Int) < cs.length := by omega
  simp only [go_sem, seval, L23_b0, S23, ek, ht, ge_iff_le, Int.toNat_natCast, wk, wm, hm2, hm3, bk, lenTB, gB, lts_drop ec]
  repeat' (first | ((first | (refine MW_dy dl23_6 mixedP dx23_6 ax23_6 0 ?_ ?_; exact yl) | (refine ZC_pure (LCl_cl (c43) ?_ ?_) ?_ ?_; iterate 3 exact cx) | refine MX_okL rfl ?_ | refine LNext_if sd ?_ | refine ZNext_if sd ?_ | refine ZY_if sd ?_ | refine And.intro okq ?_); (try simp only [go_sem, seval, l23_6, ek, ht, ge_iff_le, Int.toNat_natCast, wk, wm, hm2, hm3, bk, lenTB, gB, lts_drop ec, ts])) | (refine And.intro ?_ ?_))
  refine ⟨k, by omega, by omega, ?_⟩
  exact kp [.old 0, .old 1]
end Go.Proofs.YtcjckmnhlfbdlaaGreatDoor
namespace Go.Proofs.YtcjckmnhlfbdlaaGreatDoor
open Go Go.Abs Go.Rep Go.Ne
def fV : Option (List Ch) → AV
 | none => .v (.slice none 0 0)
 | some L => .im 1 (lls [L])
theorem fV_clb (g : Option (List Ch)) : (fV g).clb = true := by
 cases g with
 | none => rfl
 | some L => simp only [fV, go_sem, Bool.and_self, Bool.and_true]
attribute [go_sem] fV_clb
noncomputable def xC (S : Int) (N : List (List Int)) (A : List Bool) (ws : List Nat) (g : Option (List Ch)) : List AV := [.v (.int .i64 4), .v (.int .i64 S), .im N.length (rows N), .im A.length (bls A), .im ws.length (lts ws), .im (ws.length + 1) (rowsT N A ws), .v (.int .i64 1), fV g]
theorem xC_clb (S : Int) (N : List (List Int)) (A : List Bool) (ws : List Nat) (g : Option (List Ch)) : clbs (xC S N A ws g) = true := by
 simp only [xC, go_sem, Bool.and_self, Bool.and_true]
theorem rowsT_at (N : List (List Int)) (A : List Bool) {cs : List Nat} {k : Nat} (h : k ≤ cs.length) : ∃ l, (rowsT N A cs).drop k = rowV N A (cs.drop k) :: l := by
 have h1 := rowsT_get N A cs k h
 have h2 : k < (rowsT N A cs).length := by rw [rowsT_len]; omega
 refine ⟨_, (List.drop_eq_getElem_cons h2).trans (congrArg (· :: _) ?_)⟩
 rw [List.getElem?_eq_getElem h2] at h1
 injection h1
theorem weight40 (S : Int) (N : List (List Int)) (A : List Bool) (ws : List Nat) (g : Option (List Ch)) (h : Fit4 S N A) (hws : ∀ c ∈ ws, c < 4) (h6 : ws.length ≤ 6) (i : Nat) (t : Int) (hi : i ≤ ws.length) (ht : t < N.length) : APure Tryz.prog 40 [.ip (xC S N A ws g), .v (.int .i64 i), .v (.int .i64 t)] (.v (.int .i64 (W N A (ws.drop i) t))) := by
 refine callp40 ?_
 by_cases t0 : t < 0
 ·rw [W_neg t0]
  simp only [go_sem, seval, L40, xC, t0]
  repeat' (first | ((first | refine MX_okL rfl ?_ | refine LNext_if sd ?_ | refine ZNext_if sd ?_ | refine ZY_if sd ?_ | refine And.intro okq ?_); (try simp only [go_sem, seval, t0])) | (refine And.intro ?_ ?_))
  exact Fin_of ⟨rfl, rfl⟩ (kp [])
 ·obtain ⟨q, rfl⟩ : ∃ q : Nat, t = q := ⟨t.toNat, by omega⟩
  rw [W_nat]
  have hr := (row_all h.fit (ws.drop i) (fun x hx => hws x (List.mem_of_mem_drop hx))).1
  have rl : (rowOf N A (ws.drop i)).length = N.length := by rw [hr.len, h.fit.len]
  have er := vAt_some (r := rowOf N A (ws.drop i)) (s := q) (by omega)
  obtain ⟨l, el⟩ := rowsT_at N A hi
  unfold rowV at el
  have h1 : ¬ (i : Int) > ws.length := by omega
  have h2 : (i : Int) < ((ws.length + 1 : Nat) : Int) := by omega
  simp only [go_sem, seval, L40, xC, t0, h1, Int.toNat_natCast, el, ints_drop er, h2, ht, rowsT_len]
  repeat' (first | ((first | refine MX_okL rfl ?_ | refine LNext_if sd ?_ | refine ZNext_if sd ?_ | refine ZY_if sd ?_ | refine And.intro okq ?_); (try simp only [go_sem, seval, t0, h1, Int.toNat_natCast, el, ints_drop er, h2, ht, rowsT_len])) | (refine And.intro ?_ ?_))
  exact Fin_of ⟨rfl, rfl⟩ (kp [])
theorem list41_some (S : Int) (N : List (List Int)) (A : List Bool) (ws : List Nat) (L : List Ch) (i q : Nat) (w : Int) (so : List Ch) : AFn Tryz.prog 41 1 [.pt 0 0, .v (.int .i64 i), .v (.int .i64 q), .v (.int .i64 w), .im so.length (chs so)] [.cells 1 (xC S N A ws (some L))] (fun v Ho => v = .tu [] ∧ Ho = [.cells 1 (xC S N A ws (some L))]) := by
 refine callm41 ?_
 simp only [go_sem, seval, L41, xC, fV]
 repeat' (first | ((first | refine MW_still dl41_1 mixedP dx41_1 ?_ | refine MX_okL rfl ?_ | refine LNext_if sd ?_ | refine ZNext_if sd ?_ | refine ZY_if sd ?_ | refine And.intro okq ?_); (try simp only [go_sem, seval, l41_1, fV])) | (refine And.intro ?_ ?_))
 exact Fin_of ⟨rfl, rfl⟩ (kp [.old 0])
end Go.Proofs.YtcjckmnhlfbdlaaGreatDoor
namespace Go.Abs
open Go
section
variable {P : Program} {k N : Nat} {An : List (List Nat)} {Q : List AV → List AO → Prop} {os : List LOp} {dst : Option Tmp} {g : List AV} {H : List AO} {acc : List Fo} {n : FuncId} {args : List AV} {r : AV}
theorem ZC_fn0 {args1 : List AV} {Hi Hr : List AO} {k' : Nat} (h : AFn P n k' args1 Hi (fun v Ho => v = r ∧ Ho = Hr)) (ices : List (Nat × AO)) (ids F : List Nat) (hnd : ids.Nodup) (hin : ∀ id ∈ ids, id < N) (hk : k' ≤ ids.length)
 (hi : ∀ H2 : List AO, H2.length = N → (∀ id ∈ F, H2[id]? = H[id]?) → IceOK ices H2 ∧ Obs (apE ices H2) (ids.map .old) (fun _ => False) (ids.map .old) Hi ∧ Svs (apE ices H2) (ids.map .old) (fun _ => False) args args1)
 (ho : Hr.drop k' = [])
 (hC : DY P k N An Q os (put g dst ((r.ren (tau ids k' N)).ren (mv N []))) (apE ((ices ++ updE (tau ids k' N) k' ids Hr).map (fun p => (p.1, p.2.ren (mv N [])))) H)
  (⟨F, (ices ++ updE (tau ids k' N) k' ids Hr).map (fun p => (p.1, p.2.ren (mv N []))), []⟩ :: acc)) : ZC P k N An Q os dst g H acc n args := by
 have h1 := LCl_fn (N := N) (H := H) (F := F) h ices ids hnd hin hk hi
 rw [ho] at h1
 exact ZC_of h1 (fun s hs2 => by simp at hs2) (by simpa using hC)
end
end Go.Abs
namespace Go.Proofs.YtcjckmnhlfbdlaaGreatDoor
open Go Go.Abs Go.Rep Go.Ne
attribute [go_sem] xC_clb
theorem cloneO73 (l : List Ch) (hl : l.length ≤ 1000000) : AFn Tryz.prog 73 0 [.im l.length (chs l)] [] (fun v Ho => v = .sl 0 0 l.length ∧ Ho = [.cells 3 (chs l)]) := by
 refine callm73 ?_
 simp only [go_sem, seval, L73]
 repeat' (first | ((first | refine MX_okL rfl ?_ | refine LNext_if sd ?_ | refine ZNext_if sd ?_ | refine ZY_if sd ?_ | refine And.intro okq ?_); (try simp only [go_sem, seval])) | (refine And.intro ?_ ?_))
 ·intro h
  obtain rfl : l = [] := List.eq_nil_of_length_eq_zero (by omega)
  exact Fin_of ⟨rfl, rfl⟩ (kp [.new 3])
 ·exact Fin_of ⟨rfl, rfl⟩ (kp [.old 1])
def LI (S : Int) (N : List (List Int)) (A : List Bool) (ws : List Nat) (f : Nat) : Prop := ∀ (i q w : Nat) (so : List Ch) (g : Option (List Ch)), i ≤ ws.length → q < N.length → W N A (ws.drop i) q = w → w < 9 → w + (ws.length - i) < f → so.length + f ≤ 100 →
 AFn Tryz.prog 41 1 [.pt 0 0, .v (.int .i64 i), .v (.int .i64 q), .v (.int .i64 w), .im so.length (chs so)] [.cells 1 (xC S N A ws g)] (fun v Ho => v = .tu [] ∧ Ho = [.cells 1 (xC S N A ws (g.or (some (so ++ bestF N A f i (ws.drop i) q w))))])
noncomputable def tryF (N : List (List Int)) (A : List Bool) (ws : List Nat) (f : Nat) (so : List Ch) (w : Int) (c : Ch) (to : Nat) (t cost : Int) (g : Option (List Ch)) : Option (List Ch) :=
 if cost ≤ w ∧ W N A (ws.drop to) t = w - cost then g.or (some (so ++ c :: bestF N A f to (ws.drop to) t.toNat (w - cost))) else g
def chV (c : Ch) : AV := .ag [.v (.int .i64 c.k), .v (.int .i64 c.a), .v (.int .i64 c.c)]
theorem Rfs_co {H : List AO} {v r : AV} {vs rs : List AV} (h : Rf H v r) (k : Rfs H vs rs) : Rfs H (v :: vs) (r :: rs) := by
 simp only [Rfs]; exact ⟨r, rs, rfl, h, k⟩
theorem Rfs_nil {H : List AO} : Rfs H [] [] := by simp only [Rfs]
theorem borrowX {H : List AO} {S : Int} {N : List (List Int)} {A : List Bool} {ws : List Nat} {g : Option (List Ch)} {a b : Value} (h : H[0]? = some (.cells 1 (xC S N A ws g))) : Rfs H [.pt 0 0, .v a, .v b] [.ip (xC S N A ws g), .v a, .v b] :=
 Rfs_co (Rf.pt (.inl h) (by simp [xC]) (Rfs.cls (Cls.of (xC_clb S N A ws g)))) (Rfs_co (Rf.cl (Cl.v _)) (Rfs_co (Rf.cl (Cl.v _)) Rfs_nil))
set_option maxHeartbeats 2000000 in
theorem try74 (S : Int) (N : List (List Int)) (A : List Bool) (ws : List Nat) (f : Nat) (h : Fit4 S N A) (hws : ∀ c ∈ ws, c < 4) (h6 : ws.length ≤ 6) (ih : LI S N A ws f) (g : Option (List Ch)) (c : Ch) (to : Nat) (t : Int) (cost w : Nat) (ci : Int) (hci : ci = cost) (so : List Ch) (hto : to ≤ ws.length) (ht : -1 ≤ t ∧ t < N.length) (hc0 : 0 < cost) (hc2 : cost ≤ 2) (hw : w < 9) (hf : cost ≤ w → w - cost + (ws.length - to) < f) (hs : so.length + 1 + f ≤ 100) :
 AFn Tryz.prog 74 4 [chV c, .v (.int .i64 to), .v (.int .i64 t), .v (.int .i64 ci), .pt 2 0, .pt 1 0, .pt 3 0] [.cells 1 (xC S N A ws g), .cells 1 [.pt 0 0], .cells 1 [.v (.int .i64 w)], .cells 1 [.im so.length (chs so)]]
  (fun v Ho => v = .tu [] ∧ Ho = [.cells 1 (xC S N A ws (tryF N A ws f so w c to t ci g)), .cells 1 [.pt 0 0], .cells 1 [.v (.int .i64 w)], .cells 1 [.im so.length (chs so)]]) := by
 subst hci
 have c40 := weight40 S N A ws g h hws h6 to t hto ht.2
 refine callm74 ?_
 by_cases hcw : (cost : Int) ≤ w
 ·have ws1 : IntKind.wrap .i64 ((w : Int) - cost) = ((w - cost : Nat) : Int) := by rw [wrapI (by omega) (by omega)]; omega
  by_cases hW : W N A (ws.drop to) t = ((w - cost : Nat) : Int)
  ·have e : tryF N A ws f so w c to t cost g = g.or (some (so ++ c :: bestF N A f to (ws.drop to) t.toNat ((w - cost : Nat) : Int))) := by
    unfold tryF; rw [if_pos ⟨hcw, by rw [hW]; omega⟩, show ((w - cost : Nat) : Int) = w - cost by omega]
   rw [e]
   have t0 : ¬ t < 0 := fun q => by rw [W_neg q] at hW; omega
   obtain ⟨q, rfl⟩ : ∃ q : Nat, t = q := ⟨t.toNat, by omega⟩
   have cr := ih to q (w - cost) (so ++ [c]) g hto (by omega) hW (by omega) (hf (by omega)) (by simp; omega)
   have c73 := cloneO73 so (by omega)
   have sn := chs_snoc so c
   rw [List.append_assoc] at cr
   simp only [go_sem, seval, L74, hcw, chV]
   repeat' (first | ((first | (refine ZCall_borrow (borrowX rfl) c40 rfl ?_) | refine MW_still dl74_1 mixedP dx74_1 ?_ | refine MX_okL rfl ?_ | refine LNext_if sd ?_ | refine ZNext_if sd ?_ | refine ZY_if sd ?_ | refine And.intro okq ?_); (try simp only [go_sem, seval, l74_1, hcw, ws1, hW, beq_self_eq_true])) | (refine And.intro ?_ ?_))
   refine MW_dy dl74_2 mixedP dx74_2 ax74_2 4 ?_ ?_
   ·simp only [go_sem, List.length_cons, List.length_nil, Nat.reduceAdd, Nat.reduceLeDiff]; done
   simp only [go_sem, seval, l74_2, hcw, ws1]
   repeat' (first | ((first | refine MX_okL rfl ?_ | refine LNext_if sd ?_ | refine ZNext_if sd ?_ | refine ZY_if sd ?_ | refine And.intro okq ?_); (try simp only [go_sem, seval, l74_2, ws1])) | (refine And.intro ?_ ?_))
   (refine ZC_new (c73) (by simp only [go_sem, Bool.and_self, Bool.and_true]) (by simp only [go_sem, List.length_cons, List.length_nil, Nat.reduceAdd, Nat.reduceLT]; done) ?_; simp only [go_sem, seval, chs_len])
   repeat' (first | ((first | refine MX_okL rfl ?_ | refine LNext_if sd ?_ | refine ZNext_if sd ?_ | refine ZY_if sd ?_ | refine And.intro okq ?_); (try simp only [go_sem, seval, ws1, chs_len, sn])) | (refine And.intro ?_ ?_))
   have el : (so ++ [c]).length = so.length + 1 := by simp
   (refine ZC_fn0 (cr) [(7, .ice 3 (chs (so ++ [c])))] [0] [0, 7] (by decide) (by decide) (by decide) ?_ rfl ?_; (focus (intro H2 hl hF; (have e7 : (apE [(7, .ice 3 (chs (so ++ [c])))] H2)[7]? = some (.ice 3 (chs (so ++ [c]))) := by simp [apE_cons, apE_nil, List.getElem?_set, *]); refine ⟨?_, ?_, ?_⟩; (focus ((refine And.intro ?_ ?_; (first | exact hF 7 (by decide) | (rw [List.getElem?_set_ne (by decide)]; exact hF 7 (by decide)))); exact trivial)); (focus ((refine And.intro ⟨_, (show (apE [(7, .ice 3 (chs (so ++ [c])))] H2)[0]? = H2[0]? by simp [apE_cons, apE_nil, List.getElem?_set, *]).trans (hF 0 (by decide)), ?_⟩ ?_; (first | (focus (refine Svs.cl (Cls.of ?_); simp only [go_sem, Bool.and_self, Bool.and_true]; done)) | (focus (repeat' (first | ((first | refine Sv.cl (Cl.of ?_) | refine Svs.cl (Cls.of ?_)); simp only [go_sem, Bool.and_self, Bool.and_true]; done) | exact Sv.pt rfl | exact Sv.mp rfl | exact Sv.nil rfl | exact Sv.em rfl | (refine Sv.slE rfl ?_ ?_ <;> (first | rfl | omega | (simp only [el]; done) | (simp only [go_sem, el]; done) | (simp [el]; done) | (simp [el]; omega))) | ((first | refine Sv.eq ?_ ?_ | refine Svs.eq ?_ ?_) <;> (first | rfl | omega | (simp only [el]; done) | (simp only [go_sem, el]; done) | (simp [el]; done) | (simp [el]; omega))) | exact Sv.nil0 | exact Sv.em0 | exact Sv.sl0 | ((first | refine Sv.slFE (.inr rfl) ?_ (Svs.eq ?_ ?_) | refine Sv.slFE (.inr (by assumption)) ?_ (Svs.eq ?_ ?_)) <;> (first | rfl | omega | (simp only [el]; done) | (simp only [go_sem, el]; done) | (simp [el]; done) | (simp [el]; omega))) | exact Svs.nilI | refine Svs.consI ?_ ?_ | refine Sv.tu ?_ | refine Sv.ag ?_))))); exact trivial)); (repeat' (first | ((first | refine Sv.cl (Cl.of ?_) | refine Svs.cl (Cls.of ?_)); simp only [go_sem, Bool.and_self, Bool.and_true]; done) | exact Sv.pt rfl | exact Sv.mp rfl | exact Sv.nil rfl | exact Sv.em rfl | (refine Sv.slE rfl ?_ ?_ <;> (first | rfl | omega | (simp only [el]; done) | (simp only [go_sem, el]; done) | (simp [el]; done) | (simp [el]; omega))) | ((first | refine Sv.eq ?_ ?_ | refine Svs.eq ?_ ?_) <;> (first | rfl | omega | (simp only [el]; done) | (simp only [go_sem, el]; done) | (simp [el]; done) | (simp [el]; omega))) | exact Sv.nil0 | exact Sv.em0 | exact Sv.sl0 | ((first | refine Sv.slFE (.inr rfl) ?_ (Svs.eq ?_ ?_) | refine Sv.slFE (.inr (by assumption)) ?_ (Svs.eq ?_ ?_)) <;> (first | rfl | omega | (simp only [el]; done) | (simp only [go_sem, el]; done) | (simp [el]; done) | (simp [el]; omega))) | exact Svs.nilI | refine Svs.consI ?_ ?_ | refine Sv.tu ?_ | refine Sv.ag ?_)); done)); simp only [go_sem, seval, tau, List.map_cons, List.map_nil, List.drop_zero, List.drop_succ_cons, List.drop_nil, Nat.not_lt_zero, Nat.sub_zero, List.cons_append, List.nil_append, el])
   repeat' (first | ((first | refine MX_okL rfl ?_ | refine LNext_if sd ?_ | refine ZNext_if sd ?_ | refine ZY_if sd ?_ | refine And.intro okq ?_); (try simp only [go_sem, seval])) | (refine And.intro ?_ ?_))
   exact Fin_of ⟨rfl, rfl⟩ (kp [.old 0, .old 1, .old 2, .old 3])
  ·have e : tryF N A ws f so w c to t cost g = g := by
    unfold tryF; rw [if_neg]; rintro ⟨_, q⟩; omega
   rw [e]
   have hW2 : (W N A (ws.drop to) t == ((w - cost : Nat) : Int)) = false := by rw [beq_eq_false_iff_ne]; exact hW
   simp only [go_sem, seval, L74, hcw, chV]
   repeat' (first | ((first | (refine ZCall_borrow (borrowX rfl) c40 rfl ?_) | refine MW_still dl74_1 mixedP dx74_1 ?_ | refine MX_okL rfl ?_ | refine LNext_if sd ?_ | refine ZNext_if sd ?_ | refine ZY_if sd ?_ | refine And.intro okq ?_); (try simp only [go_sem, seval, l74_1, hcw, ws1, hW2])) | (refine And.intro ?_ ?_))
   exact Fin_of ⟨rfl, rfl⟩ (kp [.old 0, .old 1, .old 2, .old 3])
 ·have e : tryF N A ws f so w c to t cost g = g := by
   unfold tryF; rw [if_neg]; rintro ⟨q, _⟩; omega
  rw [e]
  simp only [go_sem, seval, L74, hcw, chV]
  repeat' (first | ((first | refine MW_still dl74_1 mixedP dx74_1 ?_ | refine MX_okL rfl ?_ | refine LNext_if sd ?_ | refine ZNext_if sd ?_ | refine ZY_if sd ?_ | refine And.intro okq ?_); (try simp only [go_sem, seval, l74_1, hcw])) | (refine And.intro ?_ ?_))
  exact Fin_of ⟨rfl, rfl⟩ (kp [.old 0, .old 1, .old 2, .old 3])
end Go.Proofs.YtcjckmnhlfbdlaaGreatDoor
namespace Go.Proofs.YtcjckmnhlfbdlaaGreatDoor
open Go Go.Abs Go.Rep Go.Ne
section
variable {N : List (List Int)} {A : List Bool} {ws : List Nat} {f i q : Nat} {so : List Ch} {w : Int}
noncomputable def trysF (N : List (List Int)) (A : List Bool) (ws : List Nat) (f i q : Nat) (so : List Ch) (w : Int) (g : Option (List Ch)) (k : Nat) : Option (List Ch) := (List.range k).foldl (fun g (c : Nat) => tryF N A ws f so w ⟨2, i, c⟩ i (nx N q c) 2 g) g
theorem trysF_succ (g : Option (List Ch)) (k : Nat) : trysF N A ws f i q so w g (k + 1) = tryF N A ws f so w ⟨2, i, k⟩ i (nx N q k) 2 (trysF N A ws f i q so w g k) := by
 unfold trysF; rw [List.range_succ, List.foldl_append]; rfl
theorem trysF_eq (g : Option (List Ch)) (k : Nat) : trysF N A ws f i q so w g k = g.or (((List.range k).find? fun c => decide (2 ≤ w ∧ W N A (ws.drop i) (nx N q c) = w - 2)).map fun c => so ++ ⟨2, i, c⟩ :: bestF N A f i (ws.drop i) (nx N q c).toNat (w - 2)) := by
 induction k with
 | zero => simp [trysF]
 | succ k ih =>
  rw [trysF_succ, ih, List.range_succ, List.find?_append]
  unfold tryF
  cases hf : (List.range k).find? fun c => decide (2 ≤ w ∧ W N A (ws.drop i) (nx N q c) = w - 2) with
  | some c => cases g <;> simp
  | none =>
   by_cases h : 2 ≤ w ∧ W N A (ws.drop i) (nx N q k) = w - 2
   ·cases g <;> simp [h]
   ·rw [if_neg h]
    cases g <;> simp [h]
theorem trysF_four (g : Option (List Ch)) : trysF N A ws f i q so w g 4 = g.or ((insC N A (ws.drop i) q w).map fun c => so ++ ⟨2, i, c⟩ :: bestF N A f i (ws.drop i) (nx N q c).toNat (w - 2)) := trysF_eq g 4
theorem fin_nil (h : Fit N A) (hc : ∀ x ∈ ws, x < 4) (hd : ws.drop i = []) (hq : q < N.length) (hw : W N A (ws.drop i) q = w) (h9 : w < 9) (h0 : ¬ (w = 0 ∧ A.getD q false = true)) : trysF N A ws f i q so w none 4 = some (so ++ bestF N A (f + 1) i (ws.drop i) q w) := by
 rw [trysF_four, hd]
 rw [hd] at hw
 simp only [bestF]
 rw [if_neg h0]
 cases hi : insC N A [] q w with
 | some c => simp
 | none =>
  exfalso
  rcases W_step h (cs := []) (by simp) hq (by omega) with ⟨c, h4, hn, e⟩ | ⟨e1, e2⟩
  ·have hb := W_bound h (cs := []) (by simp) (t := nx N q c) (h.tab q c hq h4).2
   exact insC_none hi h4 ⟨by omega, by omega⟩
  ·exact h0 ⟨by omega, e2⟩
theorem fin_cons (h : Fit N A) (hc : ∀ x ∈ ws, x < 4) {c : Nat} (hd : ws.drop i = c :: ws.drop (i + 1)) (hq : q < N.length) (hw : W N A (ws.drop i) q = w) (h9 : w < 9) :
 (if W N A (ws.drop (i + 1)) (nx N q c) = w then (tryF N A ws f so w ⟨3, i, 0⟩ (i + 1) q 2 (trysF N A ws f i q so w (tryF N A ws f so w ⟨1, i, fl c⟩ (i + 1) (nx N q (fl c)) 1 none) 4)).or (some (so ++ bestF N A f (i + 1) (ws.drop (i + 1)) (nx N q c).toNat w))
  else tryF N A ws f so w ⟨3, i, 0⟩ (i + 1) q 2 (trysF N A ws f i q so w (tryF N A ws f so w ⟨1, i, fl c⟩ (i + 1) (nx N q (fl c)) 1 none) 4)) = some (so ++ bestF N A (f + 1) i (ws.drop i) q w) := by
 have hcs : ∀ x ∈ ws.drop i, x < 4 := fun x hx => hc x (List.mem_of_mem_drop hx)
 rw [trysF_four, hd]
 rw [hd] at hw hcs
 generalize hcs' : ws.drop (i + 1) = cs at *
 have st := W_step h hcs hq (by omega)
 have hw0 : 0 ≤ w := by rw [← hw]; exact (W_bound h hcs (t := (q : Int)) (by omega)).1
 have hni := @insC_none N A (c :: cs) q w
 simp only [bestF]
 unfold tryF
 rw [hcs']
 by_cases c1 : 1 ≤ w ∧ W N A cs (nx N q (fl c)) = w - 1
 ·rw [if_pos c1, if_pos c1]
  simp
 ·rw [if_neg c1, if_neg c1]
  cases hi : insC N A (c :: cs) q w with
  | some c' => simp
  | none =>
   by_cases c3 : 2 ≤ w ∧ W N A cs q = w - 2
   ·simp [c3]
   ·by_cases c4 : W N A cs (nx N q c) = w
    ·simp [c3, c4]
    ·exfalso
     rcases st with ⟨y, h4, hn, e⟩ | ⟨hn, e⟩ | e | ⟨hn, e⟩
     ·have hb := W_bound h hcs (t := nx N q y) (h.tab q y hq h4).2
      exact hni hi h4 ⟨by omega, by omega⟩
     ·have hb := W_bound h (cs := cs) (fun x hx => hcs x (List.mem_cons_of_mem _ hx)) (t := nx N q (fl c)) (h.tab q (fl c) hq (fl_lt (hcs c (List.mem_cons_self ..)))).2
      exact c1 ⟨by omega, by omega⟩
     ·have hb := W_bound h (cs := cs) (fun x hx => hcs x (List.mem_cons_of_mem _ hx)) (t := (q : Int)) (by omega)
      exact c3 ⟨by omega, by omega⟩
     ·exact c4 (by omega)
end
end Go.Proofs.YtcjckmnhlfbdlaaGreatDoor
