/- Part 41 of the texts that lead to repairNearestCard_holds. No condition. -/
import Derived.Test.YtcjckmnhlfbdlaaGreatDoorH39
import Derived.Test.YtcjckmnhlfbdlaaGreatDoorH40
set_option linter.all false
set_option maxRecDepth 100000
namespace Go.Proofs.YtcjckmnhlfbdlaaGreatDoor
open Go Go.Abs Go.Rep Go.Ne
def badL (c : Int) : Bool := decide (c < 0 ∨ 3 < c)
theorem wrong38 (c : Int) : APure Tryz.prog 38 [.v (.int .i64 c)] (.v (.bool (badL c))) := by
 refine callp38 ?_
 unfold badL
 by_cases h0 : c < 0
 ·simp only [go_sem, seval, L38, h0]
  exact Fin_of ⟨rfl, rfl⟩ (kp [])
 ·simp only [go_sem, seval, L38, h0]
  exact Fin_of ⟨rfl, rfl⟩ (kp [])
def badS (n : Nat) (x : Int) : Bool := decide (x < -1 ∨ (n : Int) ≤ x)
theorem valid37 (n : Nat) (c : Int) : APure Tryz.prog 37 [.v (.int .i64 c), .ip [.v (.int .i64 n)]] (.v (.bool (badS n c))) := by
 refine callp37 ?_
 unfold badS
 by_cases h0 : c < -1
 ·simp only [go_sem, seval, L37, h0]
  exact Fin_of ⟨rfl, rfl⟩ (kp [])
 ·simp only [go_sem, seval, L37, h0]
  repeat' (first | ((first | refine MX_okL rfl ?_ | refine LNext_if sd ?_ | refine ZNext_if sd ?_ | refine ZY_if sd ?_ | refine And.intro okq ?_); (try simp only [go_sem, seval, h0])) | (refine And.intro ?_ ?_))
  exact Fin_of ⟨rfl, rfl⟩ (kp [])
def idxP {α : Type} (p : α → Bool) : List α → Int → Int
 | [], _ => -1
 | b :: l, k => if p b then k else idxP p l (k + 1)
theorem idxP_iff {α : Type} (p : α → Bool) : ∀ (l : List α) (k : Int), 0 ≤ k → (0 ≤ idxP p l k ↔ l.any p = true) := by
 intro l
 induction l with
 | nil => intro k h; simp [idxP]
 | cons b l ih =>
  intro k h
  by_cases hb : p b = true
  ·simp [idxP, hb, h]
  ·have := ih (k + 1) (by omega)
   simp only [idxP, if_neg hb, List.any_cons, this]
   simp [hb]
theorem idxP_any {α : Type} (p : α → Bool) (l : List α) (k : Int) (h : 0 ≤ k) : decide (0 ≤ idxP p l k) = l.any p := by
 rw [Bool.eq_iff_iff, decide_eq_true_eq]; exact idxP_iff p l k h
def S71 (f : FuncId) (caps : List AV) (l : List Int) (k : Nat) : List AV := [.im l.length (ints l), .fn (.func f) [] caps, .any, .any, .any, .any, .any, .v (.int .i64 l.length), .v (.int .i64 k), .any, .any, .any, .any, .any, .any, .any, .any, .any, .any]
theorem index71 (f : FuncId) (caps : List AV) (hcl : clbs caps = true) (p : Int → Bool) (hp : ∀ c, APure Tryz.prog f (.v (.int .i64 c) :: caps) (.v (.bool (p c)))) (l : List Int) (hl : l.length < 1000000) :
 APure Tryz.prog 71 [.im l.length (ints l), .fn (.func f) [] caps] (.v (.int .i64 (idxP p l 0))) := by
 refine callp71 ?_
 simp only [go_sem, seval, L71]
 repeat' (first | ((first | refine MX_okL rfl ?_ | refine LNext_if sd ?_ | refine ZNext_if sd ?_ | refine ZY_if sd ?_ | refine And.intro okq ?_); (try simp only [go_sem, seval])) | (refine And.intro ?_ ?_))
 refine MW_loop_st (S71 f caps l) (fun _ => []) (fun k => k ≤ l.length ∧ idxP p l 0 = idxP p (l.drop k) k) (fun k => l.length - k) 0 ?_ ⟨Nat.zero_le _, by simp⟩ ?_
 ·exact kp []
 ·rintro k ⟨i1, i2⟩
  rcases Nat.lt_or_ge k l.length with hi | hi
  ·obtain ⟨x, hx, hx'⟩ := dropG hi
   have hi' : (k : Int) < l.length := by omega
   simp only [go_sem, seval, L71_b0, S71, hi', ints_drop hx, Int.toNat_natCast, hcl]
   repeat' (first
    | ((first | (refine LCall_pure (hp x) (Cls.of (by simp only [go_sem, hcl, Bool.and_self])) ?_) | ((first | refine LNext_if ?_ ?_ | refine ZNext_if ?_ ?_ | refine ZY_if ?_ ?_); (first | omega | exact True.intro | (simp only [go_sem, List.length_map, List.length_cons, List.length_nil, List.length_append, List.length_replicate, List.length_drop, List.length_take, List.length_set, Nat.reduceAdd, Nat.reduceMul, true_and, and_true]; omega) | (refine And.intro ?_ ?_ <;> first | omega | exact True.intro | (simp only [List.length_map, List.length_cons, List.length_nil, List.length_append, List.length_replicate, List.length_drop, List.length_take, List.length_set]; omega)))) | (refine And.intro ?_ ?_; (show okA _ _ _ _ = true); kernel_rfl) | refine MX_ok (l := .seq _ _) ?_ | refine MX_ok (l := .reg _) ?_ | refine MX_ok (l := .cond _ _ _) ?_ | refine MX_ok (l := .block _ _) ?_ | refine MX_ok (l := .ret) ?_ | refine MX_ok (l := .skip) ?_); (try simp only [go_sem, seval, ints_drop hx, Int.toNat_natCast, hcl]))
    | ((first | refine MCond_split ?_ ?_ | refine NCond_split ?_ ?_ | refine LGuard_split ?_ ?_ | refine ZG_split ?_ ?_) <;> (intro hc; (try simp only [go_sem, seval, hc, ints_drop hx, Int.toNat_natCast, hcl]); (try simp only [decide_eq_true_eq, decide_eq_false_iff_not, Bool.not_eq_true', Bool.not_eq_false', Bool.not_eq_true, Bool.not_eq_false, beq_iff_eq, bne_iff_ne, ne_eq, beq_eq_false_iff_ne, bne_eq_false_iff_eq, Int.not_lt, Int.not_le, gt_iff_lt, ge_iff_le, Decidable.not_not] at hc)))
    | (refine And.intro ?_ ?_))
   ·rw [i2, hx']
    refine Fin_of ⟨rfl, rfl⟩ ?_; (refine VS_of [] (by decide) ?_ ?_ (by decide); all_goals (repeat' (first | exact trivial | refine And.intro ?_ ?_ | exact ⟨rfl, rfl⟩ | exact Sg.any | ((first | refine ⟨_, rfl, ?_⟩ | refine ⟨_, .inl ⟨rfl, rfl⟩, ?_⟩ | refine ⟨_, .inr rfl, ?_⟩ | refine Sg.of ?_); (repeat' (first | ((first | refine Sv.cl (Cl.of ?_) | refine Svs.cl (Cls.of ?_)); simp only [go_sem, Bool.and_self, Bool.and_true]; done) | exact Sv.pt rfl | exact Sv.mp rfl | exact Sv.nil rfl | exact Sv.em rfl | (refine Sv.slE rfl ?_ ?_ <;> (first | rfl | omega | (simp only [idxP, hc, if_true]; done) | (simp only [go_sem, idxP, hc, if_true]; done) | (simp [idxP, hc, if_true]; done) | (simp [idxP, hc, if_true]; omega))) | ((first | refine Sv.eq ?_ ?_ | refine Svs.eq ?_ ?_) <;> (first | rfl | omega | (simp only [idxP, hc, if_true]; done) | (simp only [go_sem, idxP, hc, if_true]; done) | (simp [idxP, hc, if_true]; done) | (simp [idxP, hc, if_true]; omega))) | exact Sv.nil0 | exact Sv.em0 | exact Sv.sl0 | ((first | refine Sv.slFE (.inl ⟨rfl, rfl⟩) ?_ (Svs.eq ?_ ?_) | refine Sv.slFE (.inr rfl) ?_ (Svs.eq ?_ ?_)) <;> (first | rfl | omega | (simp only [idxP, hc, if_true]; done) | (simp only [go_sem, idxP, hc, if_true]; done) | (simp [idxP, hc, if_true]; done) | (simp [idxP, hc, if_true]; omega))) | exact Svs.nilI | refine Svs.consI ?_ ?_ | refine Sv.tu ?_ | refine Sv.ag ?_)); done) | rfl)))
   ·refine ⟨k + 1, by omega, ⟨by omega, ?_⟩, ?_⟩
    ·rw [i2, hx']; simp [idxP, hc]
    ·(have kr0 := wrapS (show k < 9223372036854775807 by omega); exact kp [])
  ·have hi' : ¬ (k : Int) < l.length := by omega
   rw [List.drop_of_length_le hi] at i2
   rw [i2]
   simp only [go_sem, seval, L71_b0, S71, hi']
   repeat' (first | ((first | refine MX_okL rfl ?_ | refine LNext_if sd ?_ | refine ZNext_if sd ?_ | refine ZY_if sd ?_ | refine And.intro okq ?_); (try simp only [go_sem, seval])) | (refine And.intro ?_ ?_))
   exact Fin_of ⟨rfl, rfl⟩ (kp [])
theorem contains36 (f : FuncId) (caps : List AV) (hcl : clbs caps = true) (p : Int → Bool) (hp : ∀ c, APure Tryz.prog f (.v (.int .i64 c) :: caps) (.v (.bool (p c)))) (l : List Int) (hl : l.length < 1000000) :
 APure Tryz.prog 36 [.im l.length (ints l), .fn (.func f) [] caps] (.v (.bool (l.any p))) := by
 refine callp36 ?_
 simp only [go_sem, seval, L36, hcl]
 repeat' (first | ((first | (refine LCall_pure (index71 f caps hcl p hp l hl) (Cls.of (by simp only [go_sem, hcl, Bool.and_self])) ?_) | refine MX_okL rfl ?_ | refine LNext_if sd ?_ | refine ZNext_if sd ?_ | refine ZY_if sd ?_ | refine And.intro okq ?_); (try simp only [go_sem, seval, hcl])) | (refine And.intro ?_ ?_))
 (have kr0 := idxP_any p l 0 (by omega); exact Fin_of ⟨rfl, rfl⟩ (kp []))
theorem wrong19 (l : List Int) (hl : l.length < 1000000) : APure Tryz.prog 19 [.im l.length (ints l)] (.v (.bool (l.any badL))) := by
 refine callp19 ?_
 simp only [go_sem, seval, L19]
 repeat' (first | ((first | ((first | refine LCall_pure (contains36 38 [] rfl badL wrong38 l hl) (Cls.of ?_) ?_); exact cx) | refine MX_okL rfl ?_ | refine LNext_if sd ?_ | refine ZNext_if sd ?_ | refine ZY_if sd ?_ | refine And.intro okq ?_); (try simp only [go_sem, seval])) | (refine And.intro ?_ ?_))
 exact Fin_of ⟨rfl, rfl⟩ (kp [])
def okR (L : Int) (n : Nat) (r : List Int) : Bool := decide ((r.length : Int) = L) && !r.any (badS n)
def okH (L S : Int) (n a : Nat) : Bool := decide (1 ≤ L ∧ L ≤ 8 ∧ n ≤ 400 ∧ a = n ∧ ((n = 0 ∧ S = -1) ∨ (0 ≤ S ∧ S < n)))
def vE (L S : Int) (N : List (List Int)) (A : List Bool) : Int := if (okH L S N.length A.length && N.all (okR L N.length)) = true then 0 else 1
theorem vE_head {L S : Int} {N : List (List Int)} {A : List Bool} (h : ¬ (1 ≤ L ∧ L ≤ 8 ∧ N.length ≤ 400 ∧ A.length = N.length ∧ ((N.length = 0 ∧ S = -1) ∨ (0 ≤ S ∧ S < N.length)))) : vE L S N A = 1 := by
 unfold vE okH; rw [decide_eq_false h]; rfl
theorem vE_row {L S : Int} {N : List (List Int)} {A : List Bool} {r : List Int} (hm : r ∈ N) (h : okR L N.length r = false) : vE L S N A = 1 := by
 unfold vE
 rw [if_neg]
 intro q
 rw [Bool.and_eq_true, List.all_eq_true] at q
 rw [q.2 r hm] at h; cases h
theorem vE_ok {L S : Int} {N : List (List Int)} {A : List Bool} (h : 1 ≤ L ∧ L ≤ 8 ∧ N.length ≤ 400 ∧ A.length = N.length ∧ ((N.length = 0 ∧ S = -1) ∨ (0 ≤ S ∧ S < N.length))) (h2 : N.all (okR L N.length) = true) : vE L S N A = 0 := by
 unfold vE okH; rw [decide_eq_true h, h2]; rfl
def J18 (L : Int) (N : List (List Int)) (k : Nat) : Prop := k ≤ N.length ∧ ∀ r ∈ N.take k, okR L N.length r = true
theorem J18_next {L : Int} {N : List (List Int)} {k : Nat} {r : List Int} (h : J18 L N k) (hr : N[k]? = some r) (ho : okR L N.length r = true) : J18 L N (k + 1) := by
 have hk := (List.getElem?_eq_some_iff.1 hr).1
 refine ⟨by omega, fun x hx => ?_⟩
 rw [List.take_add_one, hr, List.mem_append] at hx
 rcases hx with hx | hx
 ·exact h.2 x hx
 ·simp at hx; subst hx; exact ho
theorem J18_end {L : Int} {N : List (List Int)} {k : Nat} (h : J18 L N k) (hk : N.length ≤ k) : N.all (okR L N.length) = true := by
 rw [List.all_eq_true]
 intro r hr
 refine h.2 r ?_
 rw [List.take_of_length_le hk]; exact hr
def S18 (N : List (List Int)) (k : Nat) : List AV := [.any, .pt 0 0, .any, .ip [.v (.int .i64 N.length)], .any, .any, .any, .any, .any, .any, .any, .any, .any, .any, .any, .any, .any, .any, .any, .any, .any, .any, .any, .any, .any, .any, .any, .any, .any, .any, .any, .any, .any, .any, .any, .any, .any, .any, .any, .any, .any, .any, .any, .any, .any, .any, .any, .im N.length (rows N), .v (.int .i64 N.length), .v (.int .i64 k), .any, .any, .any, .any, .any, .any, .any, .any, .any, .any, .any, .any, .any, .any]
set_option maxHeartbeats 2000000 in
theorem valid18 (L S : Int) (N : List (List Int)) (A : List Bool) : APure Tryz.prog 18 [aV L S N A] (.v (.int .i64 (vE L S N A))) := by
 refine callp18 ?_
 by_cases h1 : L < 1
 ·rw [vE_head (by omega)]
  simp only [go_sem, seval, L18, aV, h1]
  repeat' (first | ((first | refine MX_okL rfl ?_ | refine LNext_if sd ?_ | refine ZNext_if sd ?_ | refine ZY_if sd ?_ | refine And.intro okq ?_); (try simp only [go_sem, seval, h1])) | (refine And.intro ?_ ?_))
  exact Fin_of ⟨rfl, rfl⟩ (kp [])
 by_cases h2 : 8 < L
 ·rw [vE_head (by omega)]
  simp only [go_sem, seval, L18, aV, h1, h2, gt_iff_lt]
  repeat' (first | ((first | refine MX_okL rfl ?_ | refine LNext_if sd ?_ | refine ZNext_if sd ?_ | refine ZY_if sd ?_ | refine And.intro okq ?_); (try simp only [go_sem, seval, h1, h2, gt_iff_lt])) | (refine And.intro ?_ ?_))
  exact Fin_of ⟨rfl, rfl⟩ (kp [])
 by_cases h3 : (400 : Int) < N.length
 ·rw [vE_head (by omega)]
  simp only [go_sem, seval, L18, aV, h1, h2, h3, gt_iff_lt]
  repeat' (first | ((first | refine MX_okL rfl ?_ | refine LNext_if sd ?_ | refine ZNext_if sd ?_ | refine ZY_if sd ?_ | refine And.intro okq ?_); (try simp only [go_sem, seval, h1, h2, h3, gt_iff_lt])) | (refine And.intro ?_ ?_))
  exact Fin_of ⟨rfl, rfl⟩ (kp [])
 by_cases h4 : A.length = N.length
 ·have h4' : ((A.length : Int) != (N.length : Int)) = false := by simp [h4]
  have hS : ∀ {K : Prop}, ((S < 0 → N.length = 0 ∧ S = -1) → (0 ≤ S → S < N.length) → K) → (¬ ((N.length = 0 ∧ S = -1) ∨ (0 ≤ S ∧ S < N.length)) → K) → K := fun {K} k1 k2 => by
   by_cases hh : (N.length = 0 ∧ S = -1) ∨ (0 ≤ S ∧ S < N.length)
   ·exact k1 (by omega) (by omega)
   ·exact k2 hh
  refine hS (fun s1 s2 => ?_) fun hh => ?_
  ·have J0 : J18 L N 0 := ⟨Nat.zero_le _, fun r hr => by simp at hr⟩
   have fin : ∀ k, J18 L N k → N.length ≤ k → vE L S N A = 0 := fun k hJ hk => vE_ok (by omega) (J18_end hJ hk)
   by_cases g1 : S < 0
   ·obtain ⟨g2, rfl⟩ := s1 g1
    have g3 : ¬ (0 : Int) < N.length := by omega
    have g4 : ¬ (N.length : Int) ≤ -1 := by omega
    rw [fin 0 J0 (by omega)]
    simp only [go_sem, seval, L18, aV, h1, h2, h3, h4', gt_iff_lt, ge_iff_le, g3, g4]
    repeat' (first | ((first | refine MX_okL rfl ?_ | refine LNext_if sd ?_ | refine ZNext_if sd ?_ | refine ZY_if sd ?_ | refine And.intro okq ?_); (try simp only [go_sem, seval, h1, h2, h3, h4', gt_iff_lt, ge_iff_le, g3, g4])) | (refine And.intro ?_ ?_))
    refine MW_loop_st (S18 N) (fun _ => [.cells 1 [.v (.int .i64 L), .v (.int .i64 (-1)), .im N.length (rows N), .im A.length (bls A)]]) (fun _ => True) (fun _ => 0) 0 ?_ trivial ?_
    ·(refine VS_of [.old 0] (by decide) ?_ ?_ (by decide); all_goals (repeat' (first | exact trivial | refine And.intro ?_ ?_ | exact ⟨rfl, rfl⟩ | exact Sg.any | ((first | refine ⟨_, rfl, ?_⟩ | refine ⟨_, .inl ⟨rfl, rfl⟩, ?_⟩ | refine ⟨_, .inr rfl, ?_⟩ | refine Sg.of ?_); (repeat' (first | (refine Sv.ptF (.inl ⟨rfl, rfl⟩) (by simp) (Svs.cl (Cls.of ?_)) <;> simp only [go_sem, Bool.and_self, Bool.and_true]) | ((first | refine Sv.cl (Cl.of ?_) | refine Svs.cl (Cls.of ?_)); simp only [go_sem, Bool.and_self, Bool.and_true]; done) | exact Sv.pt rfl | exact Sv.mp rfl | exact Sv.nil rfl | exact Sv.em rfl | (refine Sv.slE rfl ?_ ?_ <;> (first | rfl | omega | (simp only [go_sem]; done) | (simp [go_sem]; done) | (simp [go_sem]; omega))) | ((first | refine Sv.eq ?_ ?_ | refine Svs.eq ?_ ?_) <;> (first | rfl | omega | (simp only [go_sem]; done) | (simp [go_sem]; done) | (simp [go_sem]; omega))) | exact Sv.nil0 | exact Sv.em0 | exact Sv.sl0 | ((first | refine Sv.slFE (.inl ⟨rfl, rfl⟩) ?_ (Svs.eq ?_ ?_) | refine Sv.slFE (.inr rfl) ?_ (Svs.eq ?_ ?_)) <;> (first | rfl | omega | (simp only [go_sem]; done) | (simp [go_sem]; done) | (simp [go_sem]; omega))) | exact Svs.nilI | refine Svs.consI ?_ ?_ | refine Sv.tu ?_ | refine Sv.ag ?_)); done) | rfl)))
    ·rintro k _
     have hi' : ¬ (k : Int) < N.length := by omega
     simp only [go_sem, seval, L18_b0, S18, hi']
     repeat' (first | ((first | refine MX_okL rfl ?_ | refine LNext_if sd ?_ | refine ZNext_if sd ?_ | refine ZY_if sd ?_ | refine And.intro okq ?_); (try simp only [go_sem, seval])) | (refine And.intro ?_ ?_))
     exact Fin_of ⟨rfl, rfl⟩ (kp [])
   ·have g2 : ¬ (N.length : Int) ≤ S := by omega
    simp only [go_sem, seval, L18, aV, h1, h2, h3, h4', gt_iff_lt, ge_iff_le, g1, g2]
    repeat' (first | ((first | refine MX_okL rfl ?_ | refine LNext_if sd ?_ | refine ZNext_if sd ?_ | refine ZY_if sd ?_ | refine And.intro okq ?_); (try simp only [go_sem, seval, h1, h2, h3, h4', gt_iff_lt, ge_iff_le, g1, g2])) | (refine And.intro ?_ ?_))
    refine MW_loop_st (S18 N) (fun _ => [.cells 1 [.v (.int .i64 L), .v (.int .i64 S), .im N.length (rows N), .im A.length (bls A)]]) (J18 L N) (fun k => N.length - k) 0 ?_ J0 ?_
    ·(refine VS_of [.old 0] (by decide) ?_ ?_ (by decide); all_goals (repeat' (first | exact trivial | refine And.intro ?_ ?_ | exact ⟨rfl, rfl⟩ | exact Sg.any | ((first | refine ⟨_, rfl, ?_⟩ | refine ⟨_, .inl ⟨rfl, rfl⟩, ?_⟩ | refine ⟨_, .inr rfl, ?_⟩ | refine Sg.of ?_); (repeat' (first | (refine Sv.ptF (.inl ⟨rfl, rfl⟩) (by simp) (Svs.cl (Cls.of ?_)) <;> simp only [go_sem, Bool.and_self, Bool.and_true]) | ((first | refine Sv.cl (Cl.of ?_) | refine Svs.cl (Cls.of ?_)); simp only [go_sem, Bool.and_self, Bool.and_true]; done) | exact Sv.pt rfl | exact Sv.mp rfl | exact Sv.nil rfl | exact Sv.em rfl | (refine Sv.slE rfl ?_ ?_ <;> (first | rfl | omega | (simp only [go_sem]; done) | (simp [go_sem]; done) | (simp [go_sem]; omega))) | ((first | refine Sv.eq ?_ ?_ | refine Svs.eq ?_ ?_) <;> (first | rfl | omega | (simp only [go_sem]; done) | (simp [go_sem]; done) | (simp [go_sem]; omega))) | exact Sv.nil0 | exact Sv.em0 | exact Sv.sl0 | ((first | refine Sv.slFE (.inl ⟨rfl, rfl⟩) ?_ (Svs.eq ?_ ?_) | refine Sv.slFE (.inr rfl) ?_ (Svs.eq ?_ ?_)) <;> (first | rfl | omega | (simp only [go_sem]; done) | (simp [go_sem]; done) | (simp [go_sem]; omega))) | exact Svs.nilI | refine Svs.consI ?_ ?_ | refine Sv.tu ?_ | refine Sv.ag ?_)); done) | rfl)))
    ·rintro k hJ
     rcases Nat.lt_or_ge k N.length with hi | hi
     ·obtain ⟨r, hr, _⟩ := dropG hi
      have hi' : (k : Int) < N.length := by omega
      have hm := List.mem_of_getElem? hr
      by_cases k1 : (r.length : Int) = L
      ·have k1' : ((r.length : Int) != L) = false := by simp [k1]
       have c36 := contains36 37 [.ip [.v (.int .i64 N.length)]] (by simp only [go_sem, Bool.and_self]) (badS N.length) (valid37 N.length) r (by omega)
       cases k2 : r.any (badS N.length) with
       | true =>
        rw [vE_row hm (by unfold okR; rw [k2]; simp)]
        rw [k2] at c36
        simp only [go_sem, seval, L18_b0, S18, hi', rows_drop hr, Int.toNat_natCast, k1']
        repeat' (first | ((first | ((first | refine LCall_pure (c36) (Cls.of ?_) ?_); exact cx) | refine MX_okL rfl ?_ | refine LNext_if sd ?_ | refine ZNext_if sd ?_ | refine ZY_if sd ?_ | refine And.intro okq ?_); (try simp only [go_sem, seval, hi', rows_drop hr, Int.toNat_natCast, k1'])) | (refine And.intro ?_ ?_))
        exact Fin_of ⟨rfl, rfl⟩ (kp [])
       | false =>
        rw [k2] at c36
        simp only [go_sem, seval, L18_b0, S18, hi', rows_drop hr, Int.toNat_natCast, k1']
        repeat' (first | ((first | ((first | refine LCall_pure (c36) (Cls.of ?_) ?_); exact cx) | refine MX_okL rfl ?_ | refine LNext_if sd ?_ | refine ZNext_if sd ?_ | refine ZY_if sd ?_ | refine And.intro okq ?_); (try simp only [go_sem, seval, hi', rows_drop hr, Int.toNat_natCast, k1'])) | (refine And.intro ?_ ?_))
        refine ⟨k + 1, by omega, J18_next hJ hr (by unfold okR; rw [k2, decide_eq_true k1]; rfl), ?_⟩
        (have kr0 := wrapS (show k < 9223372036854775807 by omega); exact kp [.old 0])
      ·have k1' : ((r.length : Int) != L) = true := by simp; exact k1
       rw [vE_row hm (by unfold okR; rw [decide_eq_false k1]; rfl)]
       simp only [go_sem, seval, L18_b0, S18, hi', rows_drop hr, Int.toNat_natCast, k1']
       repeat' (first | ((first | refine MX_okL rfl ?_ | refine LNext_if sd ?_ | refine ZNext_if sd ?_ | refine ZY_if sd ?_ | refine And.intro okq ?_); (try simp only [go_sem, seval, hi', rows_drop hr, Int.toNat_natCast, k1'])) | (refine And.intro ?_ ?_))
       exact Fin_of ⟨rfl, rfl⟩ (kp [])
     ·have hi' : ¬ (k : Int) < N.length := by omega
      rw [fin k hJ hi]
      simp only [go_sem, seval, L18_b0, S18, hi']
      repeat' (first | ((first | refine MX_okL rfl ?_ | refine LNext_if sd ?_ | refine ZNext_if sd ?_ | refine ZY_if sd ?_ | refine And.intro okq ?_); (try simp only [go_sem, seval])) | (refine And.intro ?_ ?_))
      exact Fin_of ⟨rfl, rfl⟩ (kp [])
  ·rw [vE_head (by omega)]
   by_cases g1 : S < 0
   ·by_cases g2 : (0 : Int) < N.length
    ·simp only [go_sem, seval, L18, aV, h1, h2, h3, h4', gt_iff_lt, g1, g2]
     repeat' (first | ((first | refine MX_okL rfl ?_ | refine LNext_if sd ?_ | refine ZNext_if sd ?_ | refine ZY_if sd ?_ | refine And.intro okq ?_); (try simp only [go_sem, seval, h1, h2, h3, h4', gt_iff_lt, g1, g2])) | (refine And.intro ?_ ?_))
     exact Fin_of ⟨rfl, rfl⟩ (kp [])
    ·have g3 : (S != -1) = true := by simp; omega
     simp only [go_sem, seval, L18, aV, h1, h2, h3, h4', gt_iff_lt, g1, g2, g3]
     repeat' (first | ((first | refine MX_okL rfl ?_ | refine LNext_if sd ?_ | refine ZNext_if sd ?_ | refine ZY_if sd ?_ | refine And.intro okq ?_); (try simp only [go_sem, seval, h1, h2, h3, h4', gt_iff_lt, g1, g2, g3])) | (refine And.intro ?_ ?_))
     exact Fin_of ⟨rfl, rfl⟩ (kp [])
   ·have g2 : (N.length : Int) ≤ S := by omega
    simp only [go_sem, seval, L18, aV, h1, h2, h3, h4', gt_iff_lt, ge_iff_le, g1, g2]
    repeat' (first | ((first | refine MX_okL rfl ?_ | refine LNext_if sd ?_ | refine ZNext_if sd ?_ | refine ZY_if sd ?_ | refine And.intro okq ?_); (try simp only [go_sem, seval, h1, h2, h3, h4', gt_iff_lt, ge_iff_le, g1, g2])) | (refine And.intro ?_ ?_))
    exact Fin_of ⟨rfl, rfl⟩ (kp [])
 ·have h4' : ((A.length : Int) != (N.length : Int)) = true := by simp; omega
  rw [vE_head (by omega)]
  simp only [go_sem, seval, L18, aV, h1, h2, h3, h4', gt_iff_lt]
  repeat' (first | ((first | refine MX_okL rfl ?_ | refine LNext_if sd ?_ | refine ZNext_if sd ?_ | refine ZY_if sd ?_ | refine And.intro okq ?_); (try simp only [go_sem, seval, h1, h2, h3, h4', gt_iff_lt])) | (refine And.intro ?_ ?_))
  exact Fin_of ⟨rfl, rfl⟩ (kp [])
end Go.Proofs.YtcjckmnhlfbdlaaGreatDoor
namespace Go.Proofs.YtcjckmnhlfbdlaaGreatDoor
open Go Go.Abs Go.Rep Go.Ne
def aO (L S : Int) (N : List (List Int)) (A : List Bool) : AO := .cells 1 [.v (.int .i64 L), .v (.int .i64 S), .im N.length (rows N), .im A.length (bls A)]
def J21 (n : Nat) (r : List Int) (c : Nat) : Prop := c ≤ r.length ∧ (r.take c).any (badS n) = false
theorem J21_next {n : Nat} {r : List Int} {c : Nat} {x : Int} (h : J21 n r c) (hx : r[c]? = some x) (hb : badS n x = false) : J21 n r (c + 1) := by
 have hk := (List.getElem?_eq_some_iff.1 hx).1
 refine ⟨by omega, ?_⟩
 rw [List.take_add_one, hx, List.any_append, h.2]
 simp [hb]
theorem J21_bad {n : Nat} {r : List Int} {c : Nat} {x : Int} (hx : r[c]? = some x) (hb : badS n x = true) : r.any (badS n) = true := List.any_eq_true.2 ⟨x, List.mem_of_getElem? hx, hb⟩
theorem J21_end {n : Nat} {r : List Int} {c : Nat} (h : J21 n r c) (hk : r.length ≤ c) : r.any (badS n) = false := by
 have := h.2
 rwa [List.take_of_length_le hk] at this
def S21a (N : List (List Int)) (i : Nat) : List AV := [.any, .pt 0 0, .any, .v (.int .i64 N.length), .v (.int .i64 i), .any, .any, .any, .any, .any, .any, .any, .any, .any, .any, .any, .any, .any, .any, .any, .any, .any, .any, .any, .any, .any, .any, .any, .any, .any, .any, .any, .any, .any, .any, .any, .any, .any, .any, .any, .any, .any, .any, .any, .any, .any, .any, .any, .any, .any, .any, .any, .any, .any, .any, .any, .any, .any, .any, .any, .any, .any, .any, .any, .any, .any, .any, .any, .any, .any, .any, .any, .any, .any, .any, .any, .any, .any, .any, .any, .any, .any, .any, .any, .any, .any, .any, .any, .any, .any, .any]
def S21b (N : List (List Int)) (i c : Nat) : List AV := [.any, .pt 0 0, .any, .v (.int .i64 N.length), .v (.int .i64 i), .v (.int .i64 c), .any, .any, .any, .any, .any, .any, .any, .any, .any, .any, .any, .any, .any, .any, .any, .any, .any, .any, .any, .any, .any, .any, .any, .any, .any, .any, .any, .any, .any, .any, .any, .any, .any, .any, .any, .any, .any, .any, .any, .any, .any, .any, .any, .any, .any, .any, .any, .any, .any, .any, .any, .any, .any, .any, .any, .any, .any, .any, .any, .any, .any, .any, .any, .any, .any, .any, .any, .any, .any, .any, .any, .any, .any, .any, .any, .any, .any, .any, .any, .any, .any, .any, .any, .any, .any]
set_option maxHeartbeats 2000000 in
theorem valid21 (L S : Int) (N : List (List Int)) (A : List Bool) : APure Tryz.prog 21 [aV L S N A] (.v (.int .i64 (vE L S N A))) := by
 refine callp21 ?_
 by_cases h1 : L < 1
 ·rw [vE_head (by omega)]
  simp only [go_sem, seval, L21, aV, h1]
  repeat' (first | ((first | refine MX_okL rfl ?_ | refine LNext_if sd ?_ | refine ZNext_if sd ?_ | refine ZY_if sd ?_ | refine And.intro okq ?_); (try simp only [go_sem, seval, h1])) | (refine And.intro ?_ ?_))
  exact Fin_of ⟨rfl, rfl⟩ (kp [])
 by_cases h2 : 8 < L
 ·rw [vE_head (by omega)]
  simp only [go_sem, seval, L21, aV, h1, h2, gt_iff_lt]
  repeat' (first | ((first | refine MX_okL rfl ?_ | refine LNext_if sd ?_ | refine ZNext_if sd ?_ | refine ZY_if sd ?_ | refine And.intro okq ?_); (try simp only [go_sem, seval, h1, h2, gt_iff_lt])) | (refine And.intro ?_ ?_))
  exact Fin_of ⟨rfl, rfl⟩ (kp [])
 by_cases h3 : (400 : Int) < N.length
 ·rw [vE_head (by omega)]
  simp only [go_sem, seval, L21, aV, h1, h2, h3, gt_iff_lt]
  repeat' (first | ((first | refine MX_okL rfl ?_ | refine LNext_if sd ?_ | refine ZNext_if sd ?_ | refine ZY_if sd ?_ | refine And.intro okq ?_); (try simp only [go_sem, seval, h1, h2, h3, gt_iff_lt])) | (refine And.intro ?_ ?_))
  exact Fin_of ⟨rfl, rfl⟩ (kp [])
 by_cases h4 : A.length = N.length
 ·have h4' : ((A.length : Int) != (N.length : Int)) = false := by simp [h4]
  have J0 : J18 L N 0 := ⟨Nat.zero_le _, fun r hr => by simp at hr⟩
  by_cases g0 : N.length = 0
  ·have g0' : ((N.length : Int) == 0) = true := by simp [g0]
   by_cases g1 : S = -1
   ·subst g1
    have g2 : ¬ (0 : Int) < N.length := by omega
    rw [vE_ok (by omega) (J18_end J0 (by omega))]
    simp only [go_sem, seval, L21, aV, h1, h2, h3, h4', gt_iff_lt, ge_iff_le, g0', g2]
    repeat' (first | ((first | refine MX_okL rfl ?_ | refine LNext_if sd ?_ | refine ZNext_if sd ?_ | refine ZY_if sd ?_ | refine And.intro okq ?_); (try simp only [go_sem, seval, h1, h2, h3, h4', gt_iff_lt, ge_iff_le, g0', g2])) | (refine And.intro ?_ ?_))
    refine MW_loop_st (S21a N) (fun _ => [aO L (-1) N A]) (fun _ => True) (fun _ => 0) 0 ?_ trivial ?_
    ·unfold aO
     exact kp [.old 0]
    ·rintro k _
     have hi' : ¬ (k : Int) < N.length := by omega
     simp only [go_sem, seval, L21_b1, S21a, hi']
     repeat' (first | ((first | refine MX_okL rfl ?_ | refine LNext_if sd ?_ | refine ZNext_if sd ?_ | refine ZY_if sd ?_ | refine And.intro okq ?_); (try simp only [go_sem, seval])) | (refine And.intro ?_ ?_))
     exact Fin_of ⟨rfl, rfl⟩ (kp [])
   ·have g1' : (S != -1) = true := by simp; exact g1
    rw [vE_head (by omega)]
    simp only [go_sem, seval, L21, aV, h1, h2, h3, h4', gt_iff_lt, ge_iff_le, g0', g1']
    repeat' (first | ((first | refine MX_okL rfl ?_ | refine LNext_if sd ?_ | refine ZNext_if sd ?_ | refine ZY_if sd ?_ | refine And.intro okq ?_); (try simp only [go_sem, seval, h1, h2, h3, h4', gt_iff_lt, ge_iff_le, g0', g1'])) | (refine And.intro ?_ ?_))
    exact Fin_of ⟨rfl, rfl⟩ (kp [])
  ·have g0' : ((N.length : Int) == 0) = false := by rw [beq_eq_false_iff_ne]; omega
   have g2 : (0 : Int) < N.length := by omega
   by_cases g1 : S < 0
   ·rw [vE_head (by omega)]
    simp only [go_sem, seval, L21, aV, h1, h2, h3, h4', gt_iff_lt, ge_iff_le, g0', g1, g2]
    repeat' (first | ((first | refine MX_okL rfl ?_ | refine LNext_if sd ?_ | refine ZNext_if sd ?_ | refine ZY_if sd ?_ | refine And.intro okq ?_); (try simp only [go_sem, seval, h1, h2, h3, h4', gt_iff_lt, ge_iff_le, g0', g1, g2])) | (refine And.intro ?_ ?_))
    exact Fin_of ⟨rfl, rfl⟩ (kp [])
   by_cases g3 : (N.length : Int) ≤ S
   ·rw [vE_head (by omega)]
    simp only [go_sem, seval, L21, aV, h1, h2, h3, h4', gt_iff_lt, ge_iff_le, g0', g1, g2, g3]
    repeat' (first | ((first | refine MX_okL rfl ?_ | refine LNext_if sd ?_ | refine ZNext_if sd ?_ | refine ZY_if sd ?_ | refine And.intro okq ?_); (try simp only [go_sem, seval, h1, h2, h3, h4', gt_iff_lt, ge_iff_le, g0', g1, g2, g3])) | (refine And.intro ?_ ?_))
    exact Fin_of ⟨rfl, rfl⟩ (kp [])
   have fin : ∀ k, J18 L N k → N.length ≤ k → vE L S N A = 0 := fun k hJ hk => vE_ok (by omega) (J18_end hJ hk)
   simp only [go_sem, seval, L21, aV, h1, h2, h3, h4', gt_iff_lt, ge_iff_le, g0', g1, g2, g3]
   repeat' (first | ((first | refine MX_okL rfl ?_ | refine LNext_if sd ?_ | refine ZNext_if sd ?_ | refine ZY_if sd ?_ | refine And.intro okq ?_); (try simp only [go_sem, seval, h1, h2, h3, h4', gt_iff_lt, ge_iff_le, g0', g1, g2, g3])) | (refine And.intro ?_ ?_))
   refine MW_loop_st (S21a N) (fun _ => [aO L S N A]) (J18 L N) (fun k => N.length - k) 0 ?_ J0 ?_
   ·unfold aO
    exact kp [.old 0]
   ·rintro i hJ
    unfold aO
    rcases Nat.lt_or_ge i N.length with hi | hi
    ·obtain ⟨r, hr, _⟩ := dropG hi
     have hi' : (i : Int) < N.length := by omega
     have hm := List.mem_of_getElem? hr
     by_cases k1 : (r.length : Int) = L
     ·have k1' : ((r.length : Int) != L) = false := by simp [k1]
      simp only [go_sem, seval, L21_b1, S21a, hi', rows_drop hr, Int.toNat_natCast, k1']
      repeat' (first | ((first | refine MW_still dl21_9 mixedP dx21_9 ?_ | refine MX_okL rfl ?_ | refine LNext_if sd ?_ | refine ZNext_if sd ?_ | refine ZY_if sd ?_ | refine And.intro okq ?_); (try simp only [go_sem, seval, l21_9, hi', rows_drop hr, Int.toNat_natCast, k1'])) | (refine And.intro ?_ ?_))
      refine MW_loop_st (S21b N i) (fun _ => [aO L S N A]) (J21 N.length r) (fun c => r.length - c) 0 ?_ ⟨Nat.zero_le _, rfl⟩ ?_
      ·unfold aO
       exact kp [.old 0]
      ·rintro c hc
       unfold aO
       rcases Nat.lt_or_ge c r.length with hcl | hcl
       ·obtain ⟨x, hx, _⟩ := dropG hcl
        have hc' : (c : Int) < L := by omega
        have hc2 : (c : Int) < r.length := by omega
        by_cases b1 : x < -1
        ·rw [vE_row hm (by unfold okR; rw [J21_bad hx (by unfold badS; simp [b1])]; simp)]
         simp only [go_sem, seval, L21_b0, S21b, hc', hi', rows_drop hr, ints_drop hx, Int.toNat_natCast, b1, hc2]
         repeat' (first | ((first | refine MX_okL rfl ?_ | refine LNext_if sd ?_ | refine ZNext_if sd ?_ | refine ZY_if sd ?_ | refine And.intro okq ?_); (try simp only [go_sem, seval, hc', hi', rows_drop hr, ints_drop hx, Int.toNat_natCast, b1, hc2])) | (refine And.intro ?_ ?_))
         exact Fin_of ⟨rfl, rfl⟩ (kp [])
        by_cases b2 : (N.length : Int) ≤ x
        ·rw [vE_row hm (by unfold okR; rw [J21_bad hx (by unfold badS; simp [b2])]; simp)]
         simp only [go_sem, seval, L21_b0, S21b, hc', hi', rows_drop hr, ints_drop hx, Int.toNat_natCast, b1, b2, ge_iff_le, hc2]
         repeat' (first | ((first | refine MX_okL rfl ?_ | refine LNext_if sd ?_ | refine ZNext_if sd ?_ | refine ZY_if sd ?_ | refine And.intro okq ?_); (try simp only [go_sem, seval, hc', hi', rows_drop hr, ints_drop hx, Int.toNat_natCast, b1, b2, ge_iff_le, hc2])) | (refine And.intro ?_ ?_))
         exact Fin_of ⟨rfl, rfl⟩ (kp [])
        simp only [go_sem, seval, L21_b0, S21b, hc', hi', rows_drop hr, ints_drop hx, Int.toNat_natCast, b1, b2, ge_iff_le, hc2]
        repeat' (first | ((first | refine MX_okL rfl ?_ | refine LNext_if sd ?_ | refine ZNext_if sd ?_ | refine ZY_if sd ?_ | refine And.intro okq ?_); (try simp only [go_sem, seval, hc', hi', rows_drop hr, ints_drop hx, Int.toNat_natCast, b1, b2, ge_iff_le, hc2])) | (refine And.intro ?_ ?_))
        refine ⟨c + 1, by omega, J21_next hc hx (by unfold badS; simp; omega), ?_⟩
        (have kr0 := wrapS (show c < 9223372036854775807 by omega); exact kp [.old 0])
       ·have hc' : ¬ (c : Int) < L := by omega
        simp only [go_sem, seval, L21_b0, S21b, hc']
        repeat' (first | ((first | refine MX_okL rfl ?_ | refine LNext_if sd ?_ | refine ZNext_if sd ?_ | refine ZY_if sd ?_ | refine And.intro okq ?_); (try simp only [go_sem, seval, hc'])) | (refine And.intro ?_ ?_))
        refine ⟨i + 1, by omega, J18_next hJ hr (by unfold okR; rw [J21_end hc hcl, decide_eq_true k1]; rfl), ?_⟩
        (have kr0 := wrapS (show i < 9223372036854775807 by omega); exact kp [.old 0])
     ·have k1' : ((r.length : Int) != L) = true := by simp; exact k1
      rw [vE_row hm (by unfold okR; rw [decide_eq_false k1]; rfl)]
      simp only [go_sem, seval, L21_b1, S21a, hi', rows_drop hr, Int.toNat_natCast, k1']
      repeat' (first | ((first | refine MW_still dl21_9 mixedP dx21_9 ?_ | refine MX_okL rfl ?_ | refine LNext_if sd ?_ | refine ZNext_if sd ?_ | refine ZY_if sd ?_ | refine And.intro okq ?_); (try simp only [go_sem, seval, l21_9, hi', rows_drop hr, Int.toNat_natCast, k1'])) | (refine And.intro ?_ ?_))
      exact Fin_of ⟨rfl, rfl⟩ (kp [])
    ·have hi' : ¬ (i : Int) < N.length := by omega
     rw [fin i hJ hi]
     simp only [go_sem, seval, L21_b1, S21a, hi']
     repeat' (first | ((first | refine MX_okL rfl ?_ | refine LNext_if sd ?_ | refine ZNext_if sd ?_ | refine ZY_if sd ?_ | refine And.intro okq ?_); (try simp only [go_sem, seval, hi'])) | (refine And.intro ?_ ?_))
     exact Fin_of ⟨rfl, rfl⟩ (kp [])
 ·have h4' : ((A.length : Int) != (N.length : Int)) = true := by simp; omega
  rw [vE_head (by omega)]
  simp only [go_sem, seval, L21, aV, h1, h2, h3, h4', gt_iff_lt]
  repeat' (first | ((first | refine MX_okL rfl ?_ | refine LNext_if sd ?_ | refine ZNext_if sd ?_ | refine ZY_if sd ?_ | refine And.intro okq ?_); (try simp only [go_sem, seval, h1, h2, h3, h4', gt_iff_lt])) | (refine And.intro ?_ ?_))
  exact Fin_of ⟨rfl, rfl⟩ (kp [])
end Go.Proofs.YtcjckmnhlfbdlaaGreatDoor
namespace Go.Proofs.YtcjckmnhlfbdlaaGreatDoor
open Go Go.Abs Go.Rep Go.Ne
def cells (N : List (List Int)) (k : Nat) : Int := (N.take k).foldl (fun a r => IntKind.wrap .i64 (a + (r.length : Int))) 0
theorem cells_next {N : List (List Int)} {k : Nat} {r : List Int} (h : N[k]? = some r) : IntKind.wrap .i64 (cells N k + (r.length : Int)) = cells N (k + 1) := by
 unfold cells; rw [List.take_add_one, h]; simp
def fewF (N : List (List Int)) (A : List Bool) : Bool := decide (N.length ≤ 410 ∧ A.length ≤ 420 ∧ cells N N.length ≤ 1700)
def S5 (N : List (List Int)) (k : Nat) : List AV := [.any, .pt 0 0, .any, .v (.int .i64 (cells N k)), .v (.int .i64 k), .any, .any, .any, .any, .any, .any, .any, .any, .any, .any, .any, .any, .any, .any, .any, .any, .any, .any, .any, .any, .any, .any, .any, .any, .any, .any, .any]
set_option maxHeartbeats 1000000 in
theorem few5 (L S : Int) (N : List (List Int)) (A : List Bool) : APure Tryz.prog 5 [aV L S N A] (.v (.bool (fewF N A))) := by
 refine callp5 ?_
 by_cases h1 : (410 : Int) < N.length
 ·have e : fewF N A = false := by unfold fewF; exact decide_eq_false (by omega)
  rw [e]
  simp only [go_sem, seval, L5, aV, h1, gt_iff_lt]
  repeat' (first | ((first | refine MX_okL rfl ?_ | refine LNext_if sd ?_ | refine ZNext_if sd ?_ | refine ZY_if sd ?_ | refine And.intro okq ?_); (try simp only [go_sem, seval, h1, gt_iff_lt])) | (refine And.intro ?_ ?_))
  exact Fin_of ⟨rfl, rfl⟩ (kp [])
 by_cases h2 : (420 : Int) < A.length
 ·have e : fewF N A = false := by unfold fewF; exact decide_eq_false (by omega)
  rw [e]
  simp only [go_sem, seval, L5, aV, h1, h2, gt_iff_lt]
  repeat' (first | ((first | refine MX_okL rfl ?_ | refine LNext_if sd ?_ | refine ZNext_if sd ?_ | refine ZY_if sd ?_ | refine And.intro okq ?_); (try simp only [go_sem, seval, h1, h2, gt_iff_lt])) | (refine And.intro ?_ ?_))
  exact Fin_of ⟨rfl, rfl⟩ (kp [])
 simp only [go_sem, seval, L5, aV, h1, h2, gt_iff_lt]
 repeat' (first | ((first | refine MX_okL rfl ?_ | refine LNext_if sd ?_ | refine ZNext_if sd ?_ | refine ZY_if sd ?_ | refine And.intro okq ?_); (try simp only [go_sem, seval, h1, h2, gt_iff_lt])) | (refine And.intro ?_ ?_))
 refine MW_loop_st (S5 N) (fun _ => [aO L S N A]) (fun k => k ≤ N.length) (fun k => N.length - k) 0 ?_ (Nat.zero_le _) ?_
 ·unfold aO
  exact kp [.old 0]
 ·rintro k i1
  unfold aO
  rcases Nat.lt_or_ge k N.length with hi | hi
  ·obtain ⟨r, hr, _⟩ := dropG hi
   have hi' : (k : Int) < N.length := by omega
   have hw := cells_next hr
   simp only [go_sem, seval, L5_b0, S5, hi', rows_drop hr, Int.toNat_natCast, hw]
   repeat' (first | ((first | refine MX_okL rfl ?_ | refine LNext_if sd ?_ | refine ZNext_if sd ?_ | refine ZY_if sd ?_ | refine And.intro okq ?_); (try simp only [go_sem, seval, hi', rows_drop hr, Int.toNat_natCast, hw])) | (refine And.intro ?_ ?_))
   refine ⟨k + 1, by omega, by omega, ?_⟩
   (have kr0 := wrapS (show k < 9223372036854775807 by omega); exact kp [.old 0])
  ·have hi' : ¬ (k : Int) < N.length := by omega
   obtain rfl : k = N.length := by omega
   have e : fewF N A = decide (cells N N.length ≤ 1700) := by
    unfold fewF; rw [decide_eq_decide]; omega
   rw [e]
   simp only [go_sem, seval, L5_b0, S5, hi']
   repeat' (first | ((first | refine MX_okL rfl ?_ | refine LNext_if sd ?_ | refine ZNext_if sd ?_ | refine ZY_if sd ?_ | refine And.intro okq ?_); (try simp only [go_sem, seval])) | (refine And.intro ?_ ?_))
   exact Fin_of ⟨rfl, rfl⟩ (kp [])
def runF (L S : Int) (N : List (List Int)) (A : List Bool) (l : List Int) : Int := if vE L S N A = 0 then l.foldl (nextF L N) S else -1
theorem vE_facts {L S : Int} {N : List (List Int)} {A : List Bool} (h : vE L S N A = 0) : (1 ≤ L ∧ L ≤ 8 ∧ N.length ≤ 400 ∧ A.length = N.length ∧ ((N.length = 0 ∧ S = -1) ∨ (0 ≤ S ∧ S < N.length))) ∧ ∀ r ∈ N, (r.length : Int) = L ∧ ∀ x ∈ r, -1 ≤ x ∧ x < N.length := by
 unfold vE at h
 split at h
 ·rename_i q
  rw [Bool.and_eq_true, List.all_eq_true] at q
  refine ⟨of_decide_eq_true q.1, fun r hr => ?_⟩
  have := q.2 r hr
  unfold okR at this
  rw [Bool.and_eq_true, decide_eq_true_eq, Bool.not_eq_true', List.any_eq_false] at this
  refine ⟨this.1, fun x hx => ?_⟩
  have := this.2 x hx
  unfold badS at this
  simp at this
  omega
 ·omega
theorem nextF_bound {L : Int} {N : List (List Int)} (h : ∀ r ∈ N, (r.length : Int) = L ∧ ∀ x ∈ r, -1 ≤ x ∧ x < N.length) {s c : Int} (hs : s < N.length) : -1 ≤ nextF L N s c ∧ nextF L N s c < N.length := by
 unfold nextF
 split
 ·omega
 ·rename_i hh
  obtain ⟨r, hr, _⟩ := dropG (l := N) (k := s.toNat) (by omega)
  have h1 := h r (List.mem_of_getElem? hr)
  obtain ⟨x, hx, _⟩ := dropG (l := r) (k := c.toNat) (by omega)
  have h2 := h1.2 x (List.mem_of_getElem? hx)
  simp [List.getD_eq_getElem?_getD, hr, hx]
  exact h2
theorem run_bound {L : Int} {N : List (List Int)} (h : ∀ r ∈ N, (r.length : Int) = L ∧ ∀ x ∈ r, -1 ≤ x ∧ x < N.length) : ∀ (l : List Int) (s : Int), s < N.length → l.foldl (nextF L N) s < N.length
 | [], s, hs => hs
 | c :: l, s, hs => run_bound h l _ (nextF_bound h hs).2
def S28 (L S : Int) (N : List (List Int)) (l : List Int) (k : Nat) : List AV := [.any, .any, .pt 0 0, .any, .any, .v (.int .i64 ((l.take k).foldl (nextF L N) S)), .any, .any, .any, .any, .any, .any, .any, .im l.length (ints l), .v (.int .i64 l.length), .v (.int .i64 k), .any, .any, .any, .any, .any, .any, .any, .any, .any]
set_option maxHeartbeats 1000000 in
theorem run28 (L S : Int) (N : List (List Int)) (A : List Bool) (l : List Int) (hl : l.length ≤ 1000000) : APure Tryz.prog 28 [aV L S N A, .im l.length (ints l)] (.v (.int .i64 (runF L S N A l))) := by
 refine callp28 ?_
 have c18 := valid18 L S N A
 unfold aV at c18
 unfold runF
 by_cases hv : vE L S N A = 0
 ·rw [if_pos hv]
  obtain ⟨f1, f2⟩ := vE_facts hv
  rw [hv] at c18
  simp only [go_sem, seval, L28, aV]
  repeat' (first | ((first | ((first | refine LCall_pure (c18) (Cls.of ?_) ?_); exact cx) | refine MX_okL rfl ?_ | refine LNext_if sd ?_ | refine ZNext_if sd ?_ | refine ZY_if sd ?_ | refine And.intro okq ?_); (try simp only [go_sem, seval])) | (refine And.intro ?_ ?_))
  refine MW_loop_st (S28 L S N l) (fun _ => [aO L S N A]) (fun k => k ≤ l.length) (fun k => l.length - k) 0 ?_ (Nat.zero_le _) ?_
  ·unfold aO
   exact kp [.old 0]
  ·rintro k i1
   unfold aO
   rcases Nat.lt_or_ge k l.length with hi | hi
   ·obtain ⟨x, hx, _⟩ := dropG hi
    have hi' : (k : Int) < l.length := by omega
    have hs := run_bound f2 (l.take k) S (by omega)
    have e : (l.take (k + 1)).foldl (nextF L N) S = nextF L N ((l.take k).foldl (nextF L N) S) x := by
     rw [List.take_add_one, hx]; simp
    have c47 := next47 L S N A ((l.take k).foldl (nextF L N) S) x hs (fun r hr => (f2 r hr).1)
    rw [← e] at c47
    unfold aV at c47
    simp only [go_sem, seval, L28_b0, S28, hi', ints_drop hx, Int.toNat_natCast]
    repeat' (first | ((first | ((first | refine LCall_pure (c47) (Cls.of ?_) ?_); exact cx) | refine MX_okL rfl ?_ | refine LNext_if sd ?_ | refine ZNext_if sd ?_ | refine ZY_if sd ?_ | refine And.intro okq ?_); (try simp only [go_sem, seval, hi', ints_drop hx, Int.toNat_natCast])) | (refine And.intro ?_ ?_))
    refine ⟨k + 1, by omega, by omega, ?_⟩
    (have kr0 := wrapS (show k < 9223372036854775807 by omega); exact kp [.old 0])
   ·have hi' : ¬ (k : Int) < l.length := by omega
    have e : l.take k = l := List.take_of_length_le hi
    simp only [go_sem, seval, L28_b0, S28, hi', e]
    repeat' (first | ((first | refine MX_okL rfl ?_ | refine LNext_if sd ?_ | refine ZNext_if sd ?_ | refine ZY_if sd ?_ | refine And.intro okq ?_); (try simp only [go_sem, seval])) | (refine And.intro ?_ ?_))
    exact Fin_of ⟨rfl, rfl⟩ (kp [])
 ·rw [if_neg hv]
  have hv' : (vE L S N A != 0) = true := by simp [hv]
  simp only [go_sem, seval, L28, aV, hv']
  repeat' (first | ((first | ((first | refine LCall_pure (c18) (Cls.of ?_) ?_); exact cx) | refine MX_okL rfl ?_ | refine LNext_if sd ?_ | refine ZNext_if sd ?_ | refine ZY_if sd ?_ | refine And.intro okq ?_); (try simp only [go_sem, seval, hv'])) | (refine And.intro ?_ ?_))
  exact Fin_of ⟨rfl, rfl⟩ (kp [])
def acF (L S : Int) (N : List (List Int)) (A : List Bool) (l : List Int) : Bool := decide (vE L S N A = 0) && acc A (runF L S N A l)
set_option maxHeartbeats 1000000 in
theorem accepts11 (L S : Int) (N : List (List Int)) (A : List Bool) (l : List Int) (hl : l.length ≤ 1000000) : APure Tryz.prog 11 [aV L S N A, .im l.length (ints l)] (.v (.bool (acF L S N A l))) := by
 refine callp11 ?_
 have c18 := valid18 L S N A
 have c28 := run28 L S N A l hl
 unfold acF
 by_cases hv : vE L S N A = 0
 ·obtain ⟨f1, f2⟩ := vE_facts hv
  have hs : runF L S N A l < A.length := by
   unfold runF; rw [if_pos hv, f1.2.2.2.1]; exact run_bound f2 l S (by omega)
  have c27 := ends27 L S N A (runF L S N A l) hs
  rw [decide_eq_true hv, Bool.true_and]
  rw [hv] at c18
  unfold aV at c18 c27 c28
  simp only [go_sem, seval, L11, aV]
  repeat' (first
   | ((first | (refine ZC_pure (LCl_cl (c18) ?_ ?_) ?_ ?_; iterate 3 (simp only [go_sem, Bool.and_self, Bool.and_true])) | (refine ZC_pure (LCl_cl (c28) ?_ ?_) ?_ ?_; iterate 3 (simp only [go_sem, Bool.and_self, Bool.and_true])) | (refine ZC_pure (LCl_cl (c27) ?_ ?_) ?_ ?_; iterate 3 (simp only [go_sem, Bool.and_self, Bool.and_true])) | (refine MW_dy dl11_1 mixedP dx11_1 ax11_1 1 ?_ ?_; (first | exact Nat.zero_le _ | (simp only [go_sem, List.length_cons, List.length_nil, Nat.reduceAdd, Nat.reduceLeDiff]; done) | (simp only [go_sem]; omega))) | ((first | refine LNext_if ?_ ?_ | refine ZNext_if ?_ ?_ | refine ZY_if ?_ ?_); (first | omega | exact True.intro | (simp only [go_sem, List.length_map, List.length_cons, List.length_nil, List.length_append, List.length_replicate, List.length_drop, List.length_take, List.length_set, Nat.reduceAdd, Nat.reduceMul, true_and, and_true]; omega) | (refine And.intro ?_ ?_ <;> first | omega | exact True.intro | (simp only [List.length_map, List.length_cons, List.length_nil, List.length_append, List.length_replicate, List.length_drop, List.length_take, List.length_set]; omega)))) | (refine And.intro ?_ ?_; (show okA _ _ _ _ = true); kernel_rfl) | refine MX_ok (l := .seq _ _) ?_ | refine MX_ok (l := .reg _) ?_ | refine MX_ok (l := .cond _ _ _) ?_ | refine MX_ok (l := .block _ _) ?_ | refine MX_ok (l := .ret) ?_ | refine MX_ok (l := .skip) ?_); (try simp only [go_sem, seval, l11_1]))
   | ((first | refine MCond_split ?_ ?_ | refine NCond_split ?_ ?_ | refine LGuard_split ?_ ?_ | refine ZG_split ?_ ?_) <;> (intro hc; (try simp only [go_sem, seval, hc, l11_1]); (try simp only [decide_eq_true_eq, decide_eq_false_iff_not, Bool.not_eq_true', Bool.not_eq_false', Bool.not_eq_true, Bool.not_eq_false, beq_iff_eq, bne_iff_ne, ne_eq, beq_eq_false_iff_ne, bne_eq_false_iff_eq, Int.not_lt, Int.not_le, gt_iff_lt, ge_iff_le, Decidable.not_not] at hc)))
   | (refine And.intro ?_ ?_))
  exact Fin_of ⟨rfl, rfl⟩ (kp [])
 ·have hv' : (vE L S N A == 0) = false := by simp [hv]
  rw [decide_eq_false hv, Bool.false_and]
  unfold aV at c18
  simp only [go_sem, seval, L11, aV, hv']
  repeat' (first
   | ((first | (refine ZC_pure (LCl_cl (c18) ?_ ?_) ?_ ?_; iterate 3 (simp only [go_sem, Bool.and_self, Bool.and_true])) | (refine MW_dy dl11_1 mixedP dx11_1 ax11_1 1 ?_ ?_; (first | exact Nat.zero_le _ | (simp only [go_sem, List.length_cons, List.length_nil, Nat.reduceAdd, Nat.reduceLeDiff]; done) | (simp only [go_sem]; omega))) | ((first | refine LNext_if ?_ ?_ | refine ZNext_if ?_ ?_ | refine ZY_if ?_ ?_); (first | omega | exact True.intro | (simp only [go_sem, List.length_map, List.length_cons, List.length_nil, List.length_append, List.length_replicate, List.length_drop, List.length_take, List.length_set, Nat.reduceAdd, Nat.reduceMul, true_and, and_true]; omega) | (refine And.intro ?_ ?_ <;> first | omega | exact True.intro | (simp only [List.length_map, List.length_cons, List.length_nil, List.length_append, List.length_replicate, List.length_drop, List.length_take, List.length_set]; omega)))) | (refine And.intro ?_ ?_; (show okA _ _ _ _ = true); kernel_rfl) | refine MX_ok (l := .seq _ _) ?_ | refine MX_ok (l := .reg _) ?_ | refine MX_ok (l := .cond _ _ _) ?_ | refine MX_ok (l := .block _ _) ?_ | refine MX_ok (l := .ret) ?_ | refine MX_ok (l := .skip) ?_); (try simp only [go_sem, seval, l11_1, hv']))
   | ((first | refine MCond_split ?_ ?_ | refine NCond_split ?_ ?_ | refine LGuard_split ?_ ?_ | refine ZG_split ?_ ?_) <;> (intro hc; (try simp only [go_sem, seval, hc, l11_1, hv']); (try simp only [decide_eq_true_eq, decide_eq_false_iff_not, Bool.not_eq_true', Bool.not_eq_false', Bool.not_eq_true, Bool.not_eq_false, beq_iff_eq, bne_iff_ne, ne_eq, beq_eq_false_iff_ne, bne_eq_false_iff_eq, Int.not_lt, Int.not_le, gt_iff_lt, ge_iff_le, Decidable.not_not] at hc)))
   | (refine And.intro ?_ ?_))
  exact Fin_of ⟨rfl, rfl⟩ (kp [])
end Go.Proofs.YtcjckmnhlfbdlaaGreatDoor
namespace Go.Ne
open Go Go.Rep
noncomputable def insOf (N : List (List Int)) (w : Int) (b : List Int) : List Int := by
 classical exact if h : ∃ r, Ins N w b r then h.choose else []
theorem insOf_eq {N : List (List Int)} {w : Int} {b r : List Int} (hN : Tab N) (hb : b.length = N.length) (h : Ins N w b r) : insOf N w b = r := by
 unfold insOf
 have hex : ∃ r, Ins N w b r := ⟨r, h⟩
 rw [dif_pos hex]
 exact Ins.unique hN hb hex.choose_spec h
theorem rowOf_nil {N : List (List Int)} {A : List Bool} (h : Fit N A) : rowOf N A [] = insOf N 2 (base A) := by
 have h1 := (row_all h [] (fun _ hc => by cases hc)).1
 exact (insOf_eq h.tab (by rw [base_len, h.len]) h1).symm
theorem rowOf_cons {N : List (List Int)} {A : List Bool} (h : Fit N A) {c : Nat} {cs : List Nat} (hc : ∀ x ∈ c :: cs, x < 4) : rowOf N A (c :: cs) = insOf N 2 (ahd N c (rowOf N A cs)) := by
 obtain ⟨v, h1, h2⟩ := (row_all h (c :: cs) hc).1
 have e := rowOf_eq h.tab h.len h1
 rw [e]
 exact (insOf_eq h.tab (by rw [ahd_len, h1.len, h.len]) h2).symm
theorem rowOf_dist {N : List (List Int)} {A : List Bool} (h : Fit N A) : rowOf N A [] = (insOf N 1 (base A)).map fun x => min (2 * x) 9 := by
 have b0 : ∀ s, s < (base A).length → 0 ≤ vAt (base A) s := fun s hs => by
  rw [base_len] at hs; rw [base_at hs]; split <;> simp
 obtain ⟨d, hd⟩ := Ins.exist (w := 1) h.tab (by rw [base_len]; exact h.len) (by decide) b0
 rw [insOf_eq h.tab (by rw [base_len, h.len]) hd]
 exact rowOf_eq h.tab h.len (isRow_dist h.tab h.len hd)
def Closed (N : List (List Int)) (w : Int) (r : List Int) (q j : Nat) : Prop := ∀ s c t : Nat, s < N.length → (s < q ∨ (s = q ∧ c < j)) → c < 4 → nx N s c = (t : Int) → ¬ vAt r t + w < vAt r s
structure FI (N : List (List Int)) (w : Int) (b r0 r : List Int) (more : Bool) (q j : Nat) : Prop where
  pre : Pre N w b r
  no : more = false → r = r0 ∧ Closed N w r q j
  yes : more = true → meas r < meas r0
section
variable {N : List (List Int)} {w : Int} {b r0 r : List Int} {more : Bool} {q j : Nat}
theorem FI.start (h : Pre N w b r) : FI N w b r r false 0 0 := ⟨h, fun _ => ⟨rfl, fun s c t hs h => by omega⟩, (fun h => by cases h)⟩
theorem FI.skip (h : FI N w b r0 r more q j) (hn : ∀ t : Nat, nx N q j = (t : Int) → ¬ vAt r t + w < vAt r q) : FI N w b r0 r more q (j + 1) :=
 ⟨h.pre, fun hm => ⟨(h.no hm).1, fun s c t hs hl hc e => by
  rcases hl with hl | ⟨rfl, hl⟩
  ·exact (h.no hm).2 s c t hs (.inl hl) hc e
  ·by_cases hcj : c = j
   ·subst hcj; exact hn t e
   ·exact (h.no hm).2 s c t hs (.inr ⟨rfl, by omega⟩) hc e⟩, h.yes⟩
theorem FI.upd (hN : Tab N) (hb : b.length = N.length) (hw : 0 ≤ w) (h0 : ∀ s, s < b.length → 0 ≤ vAt b s) (h : FI N w b r0 r more q j) {t : Nat} (hq : q < N.length) (hj : j < 4) (e : nx N q j = (t : Int)) (hlt : vAt r t + w < vAt r q) : FI N w b r0 (r.set q (vAt r t + w)) true q (j + 1) := by
 have ht := hN q j hq hj
 have hm := meas_set (r := r) (s := q) (x := vAt r t + w) (by rw [h.pre.len]; omega) (by have := h.pre.nonneg hN hb hw h0 (s := t) (by omega); omega) hlt
 refine ⟨h.pre.relax hN hb hq hj e hlt, (fun hh => by cases hh), fun _ => ?_⟩
 cases more with
 | true => have := h.yes rfl; omega
 | false => have := (h.no rfl).1; subst this; exact hm
theorem FI.row (h : FI N w b r0 r more q 4) : FI N w b r0 r more (q + 1) 0 :=
 ⟨h.pre, fun hm => ⟨(h.no hm).1, fun s c t hs hl hc e => (h.no hm).2 s c t hs (by omega) hc e⟩, h.yes⟩
theorem FI.done (hb : b.length = N.length) (h : FI N w b r0 r false N.length 0) : Ins N w b r := h.pre.ins fun s t c hs hc e => (h.no rfl).2 s c t (by omega) (.inl (by omega)) hc e
theorem FI.len (h : FI N w b r0 r more q j) : r.length = b.length := h.pre.len
end
theorem nx_get {N : List (List Int)} {q c : Nat} {r : List Int} {x : Int} (h : N[q]? = some r) (h2 : r[c]? = some x) : nx N q c = x := by simp [nx, List.getD_eq_getElem?_getD, h, h2]
end Go.Ne
namespace Go.Proofs.YtcjckmnhlfbdlaaGreatDoor
open Go Go.Abs Go.Rep Go.Ne
structure Fit4 (S : Int) (N : List (List Int)) (A : List Bool) : Prop where
  fit : Fit N A
  rows : ∀ r ∈ N, r.length = 4 ∧ ∀ x ∈ r, -1 ≤ x ∧ x < N.length
  st : 0 ≤ S ∧ S < N.length
  small : N.length ≤ 400
theorem fit_of {S : Int} {N : List (List Int)} {A : List Bool} (h : vE 4 S N A = 0) (hS : 0 ≤ S) : Fit4 S N A := by
 obtain ⟨f1, f2⟩ := vE_facts h
 have hr : ∀ r ∈ N, r.length = 4 ∧ ∀ x ∈ r, -1 ≤ x ∧ x < N.length := fun r hr => ⟨by have := (f2 r hr).1; omega, (f2 r hr).2⟩
 refine ⟨⟨fun q c hq hc => ?_, f1.2.2.2.1⟩, hr, by omega, by omega⟩
 obtain ⟨r, hq', _⟩ := dropG hq
 have h1 := hr r (List.mem_of_getElem? hq')
 obtain ⟨x, hx, _⟩ := dropG (l := r) (k := c) (by omega)
 rw [nx_get hq' hx]
 exact h1.2 x (List.mem_of_getElem? hx)
theorem Fit4.at' {S : Int} {N : List (List Int)} {A : List Bool} (h : Fit4 S N A) {q c : Nat} (hq : q < N.length) (hc : c < 4) : ∃ r, N[q]? = some r ∧ r.length = 4 ∧ r[c]? = some (nx N q c) := by
 obtain ⟨r, hq', _⟩ := dropG hq
 have h1 := h.rows r (List.mem_of_getElem? hq')
 obtain ⟨x, hx, _⟩ := dropG (l := r) (k := c) (by omega)
 exact ⟨r, hq', h1.1, by rw [nx_get hq' hx]; exact hx⟩
theorem vAt_some {r : List Int} {s : Nat} (h : s < r.length) : r[s]? = some (vAt r s) := by
 simp [vAt, List.getD_eq_getElem?_getD, List.getElem?_eq_getElem h]
def Wt (v : List Int) : Prop := ∀ s, s < v.length → 0 ≤ vAt v s ∧ vAt v s ≤ 9
theorem pre_wt {N : List (List Int)} {w : Int} {b r : List Int} (hN : Tab N) (hb : b.length = N.length) (hw : 0 ≤ w) (h : Wt b) (p : Pre N w b r) {s : Nat} (hs : s < N.length) : 0 ≤ vAt r s ∧ vAt r s ≤ 9 := by
 have h1 := p.nonneg hN hb hw (fun s hs => (h s hs).1) (s := s) (by omega)
 have h2 := p.le s (by omega)
 have h3 := (h s (by omega)).2
 omega
def JP (N : List (List Int)) (w : Int) (b : List Int) (s : Bool × List Int) : Prop := Pre N w b s.2 ∧ (s.1 = false → Ins N w b s.2)
def mP (s : Bool × List Int) : Nat := 2 * meas s.2 + (if s.1 then 1 else 0)
def S75 (n : Nat) (m : Bool) : List AV := [.any, .any, .pt 0 0, .any, .any, .sl 1 0 n, .v (.bool m), .any, .any, .any, .any, .any, .any, .any, .any, .any, .any, .any, .any, .any, .any, .any, .any, .any, .any, .any, .any, .any, .any, .any, .any, .any, .any, .any, .any, .any, .any, .any, .any, .any, .any, .any, .any, .any, .any, .any, .any, .any, .any, .any, .any]
def S75a (n : Nat) (s : Nat × Bool × List Int) : List AV := [.any, .any, .pt 0 0, .any, .any, .sl 1 0 n, .v (.bool s.2.1), .v (.int .i64 s.1), .any, .any, .any, .any, .any, .any, .any, .any, .any, .any, .any, .any, .any, .any, .any, .any, .any, .any, .any, .any, .any, .any, .any, .any, .any, .any, .any, .any, .any, .any, .any, .any, .any, .any, .any, .any, .any, .any, .any, .any, .any, .any, .any]
def S75b (n q : Nat) (s : Nat × Bool × List Int) : List AV := [.any, .any, .pt 0 0, .any, .any, .sl 1 0 n, .v (.bool s.2.1), .v (.int .i64 q), .v (.int .i64 s.1), .any, .any, .any, .any, .any, .any, .any, .any, .any, .any, .any, .any, .any, .any, .any, .any, .any, .any, .any, .any, .any, .any, .any, .any, .any, .any, .any, .any, .any, .any, .any, .any, .any, .any, .any, .any, .any, .any, .any, .any, .any, .any]
def O75 (S : Int) (N : List (List Int)) (A : List Bool) (r : List Int) : List AO := [aO 4 S N A, .cells 1 (ints r)]
set_option maxHeartbeats 2000000 in
theorem inserted75 (S : Int) (N : List (List Int)) (A : List Bool) (v : List Int) (h : Fit4 S N A) (hv : v.length = N.length) (hw : Wt v) : APure Tryz.prog 75 [aV 4 S N A, .im v.length (ints v)] (.im v.length (ints (insOf N 2 v))) := by
 refine callp75 ?_
 have hT := h.fit.tab
 have hsm := h.small
 have hn0 : 0 < N.length := by have := h.st; omega
 have v0 : ¬ v.length = 0 := by omega
 simp only [go_sem, seval, L75, aV, v0]
 repeat' (first | ((first | refine MX_okL rfl ?_ | refine LNext_if sd ?_ | refine ZNext_if sd ?_ | refine ZY_if sd ?_ | refine And.intro okq ?_); (try simp only [go_sem, seval, v0])) | (refine And.intro ?_ ?_))
 refine MW_loop_st (fun s => S75 v.length s.1) (fun s => O75 S N A s.2) (JP N 2 v) mP (true, v) ?_ ⟨Pre.start N 2 v, fun q => by cases q⟩ ?_
 ·unfold O75 aO
  exact kp [.old 0, .old 2]
 rintro ⟨m, r0⟩ ⟨j1, j2⟩
 dsimp only at j1 j2
 unfold O75 aO
 cases m with
 | false =>
  rw [insOf_eq hT hv (j2 rfl)]
  simp only [go_sem, seval, L75_b2, S75]
  repeat' (first | ((first | refine MX_okL rfl ?_ | refine LNext_if sd ?_ | refine ZNext_if sd ?_ | refine ZY_if sd ?_ | refine And.intro okq ?_); (try simp only [go_sem, seval])) | (refine And.intro ?_ ?_))
  exact Fin_of ⟨rfl, rfl⟩ (kp [])
 | true =>
  simp only [go_sem, seval, L75_b2, S75]
  repeat' (first | ((first | refine MX_okL rfl ?_ | refine LNext_if sd ?_ | refine ZNext_if sd ?_ | refine ZY_if sd ?_ | refine And.intro okq ?_); (try simp only [go_sem, seval])) | (refine And.intro ?_ ?_))
  refine MW_loop_st (S75a v.length) (fun s => O75 S N A s.2.2) (fun s => s.1 ≤ N.length ∧ FI N 2 v r0 s.2.2 s.2.1 s.1 0) (fun s => N.length - s.1) (0, false, r0) ?_ ⟨Nat.zero_le _, FI.start j1⟩ ?_
  ·unfold O75 aO
   exact kp [.old 0, .old 1]
  rintro ⟨q, m, r⟩ ⟨i1, i2⟩
  dsimp only at i1 i2
  unfold O75 aO
  rcases Nat.lt_or_ge q N.length with hq | hq
  ·have hq' : (q : Int) < v.length := by omega
   simp only [go_sem, seval, L75_b1, S75a, hq']
   repeat' (first | ((first | refine MX_okL rfl ?_ | refine LNext_if sd ?_ | refine ZNext_if sd ?_ | refine ZY_if sd ?_ | refine And.intro okq ?_); (try simp only [go_sem, seval, hq'])) | (refine And.intro ?_ ?_))
   refine MW_loop_st (S75b v.length q) (fun s => O75 S N A s.2.2) (fun s => s.1 ≤ 4 ∧ FI N 2 v r0 s.2.2 s.2.1 q s.1) (fun s => 4 - s.1) (0, m, r) ?_ ⟨Nat.zero_le _, i2⟩ ?_
   ·unfold O75 aO
    exact kp [.old 0, .old 1]
   rintro ⟨c, m2, r2⟩ ⟨k1, k2⟩
   dsimp only at k1 k2
   unfold O75 aO
   rcases Nat.lt_or_ge c 4 with hc | hc
   ·have hc' : (c : Int) < 4 := by omega
    obtain ⟨row, a1, a2, a3⟩ := h.at' hq hc
    have c44 := step44 4 S N A q c a1 a3
    unfold aV at c44
    have hrl : r2.length = N.length := by rw [k2.len, hv]
    have hb := hT q c hq hc
    by_cases t0 : 0 ≤ nx N q c
    ·obtain ⟨t, e⟩ : ∃ t : Nat, nx N q c = t := ⟨(nx N q c).toNat, by omega⟩
     rw [e] at c44 hb
     have et := vAt_some (r := r2) (s := t) (by omega)
     have eq := vAt_some (r := r2) (s := q) (by omega)
     have bt := pre_wt hT hv (by decide) hw k2.pre (s := t) (by omega)
     have w2 : IntKind.wrap .i64 (vAt r2 t + 2) = vAt r2 t + 2 := wrapI (by omega) (by omega)
     have ht0 : (0 : Int) ≤ (t : Int) := by omega
     have htl : (t : Int) < v.length := by omega
     by_cases hlt : vAt r2 t + 2 < vAt r2 q
     ·have e2 := ints_set r2 q (vAt r2 t + 2) (by omega)
      simp only [go_sem, seval, L75_b0, S75b, hc', ge_iff_le, ht0, ints_get et, ints_get eq, w2, hlt, htl, hq', Int.toNat_natCast]
      repeat' (first | ((first | ((first | refine LCall_pure (c44) (Cls.of ?_) ?_); exact cx) | refine MW_still dl75_12 mixedP dx75_12 ?_ | refine MX_okL rfl ?_ | refine LNext_if sd ?_ | refine ZNext_if sd ?_ | refine ZY_if sd ?_ | refine And.intro okq ?_); (try simp only [go_sem, seval, l75_12, hc', ge_iff_le, ht0, ints_get et, ints_get eq, w2, hlt, htl, hq', Int.toNat_natCast, e2])) | (refine And.intro ?_ ?_))
      refine ⟨(c + 1, true, r2.set q (vAt r2 t + 2)), by dsimp only; omega, ⟨by dsimp only; omega, k2.upd hT hv (by decide) (fun s hs => (hw s hs).1) hq hc e hlt⟩, ?_⟩
      (have kr0 := wrapS (show c < 9223372036854775807 by omega); exact kp [.old 0, .old 1])
     ·simp only [go_sem, seval, L75_b0, S75b, hc', ge_iff_le, ht0, ints_get et, ints_get eq, w2, hlt, htl, hq', Int.toNat_natCast]
      repeat' (first | ((first | ((first | refine LCall_pure (c44) (Cls.of ?_) ?_); exact cx) | refine MW_still dl75_12 mixedP dx75_12 ?_ | refine MX_okL rfl ?_ | refine LNext_if sd ?_ | refine ZNext_if sd ?_ | refine ZY_if sd ?_ | refine And.intro okq ?_); (try simp only [go_sem, seval, l75_12, hc', ge_iff_le, ht0, ints_get et, ints_get eq, w2, hlt, htl, hq', Int.toNat_natCast])) | (refine And.intro ?_ ?_))
      refine ⟨(c + 1, m2, r2), by dsimp only; omega, ⟨by dsimp only; omega, k2.skip fun t' e' => ?_⟩, ?_⟩
      ·obtain rfl : t = t' := by omega
       exact hlt
      ·(have kr0 := wrapS (show c < 9223372036854775807 by omega); exact kp [.old 0, .old 1])
    ·simp only [go_sem, seval, L75_b0, S75b, hc', ge_iff_le, t0]
     repeat' (first | ((first | ((first | refine LCall_pure (c44) (Cls.of ?_) ?_); exact cx) | refine MW_still dl75_12 mixedP dx75_12 ?_ | refine MX_okL rfl ?_ | refine LNext_if sd ?_ | refine ZNext_if sd ?_ | refine ZY_if sd ?_ | refine And.intro okq ?_); (try simp only [go_sem, seval, l75_12, hc', ge_iff_le, t0])) | (refine And.intro ?_ ?_))
     refine ⟨(c + 1, m2, r2), by dsimp only; omega, ⟨by dsimp only; omega, k2.skip fun t' e' => by omega⟩, ?_⟩
     (have kr0 := wrapS (show c < 9223372036854775807 by omega); exact kp [.old 0, .old 1])
   ·have hc' : ¬ (c : Int) < 4 := by omega
    obtain rfl : c = 4 := by omega
    simp only [go_sem, seval, L75_b0, S75b, hc']
    repeat' (first | ((first | refine MX_okL rfl ?_ | refine LNext_if sd ?_ | refine ZNext_if sd ?_ | refine ZY_if sd ?_ | refine And.intro okq ?_); (try simp only [go_sem, seval, hc'])) | (refine And.intro ?_ ?_))
    refine ⟨(q + 1, m2, r2), by dsimp only; omega, ⟨by dsimp only; omega, k2.row⟩, ?_⟩
    (have kr0 := wrapS (show q < 9223372036854775807 by omega); exact kp [.old 0, .old 1])
  ·have hq' : ¬ (q : Int) < v.length := by omega
   obtain rfl : q = N.length := by omega
   simp only [go_sem, seval, L75_b1, S75a, hq']
   repeat' (first | ((first | refine MX_okL rfl ?_ | refine LNext_if sd ?_ | refine ZNext_if sd ?_ | refine ZY_if sd ?_ | refine And.intro okq ?_); (try simp only [go_sem, seval, hq'])) | (refine And.intro ?_ ?_))
   refine ⟨(m, r), ?_, ⟨i2.pre, fun hm => ?_⟩, ?_⟩
   ·unfold mP
    dsimp only
    cases m with
    | false => have := (i2.no rfl).1; subst this; simp
    | true => have := i2.yes rfl; simp; omega
   ·dsimp only at hm
    subst hm
    exact i2.done hv
   ·exact kp [.old 0, .old 1]
end Go.Proofs.YtcjckmnhlfbdlaaGreatDoor
namespace Go.Proofs.YtcjckmnhlfbdlaaGreatDoor
open Go Go.Abs Go.Rep Go.Ne
theorem base_wt (A : List Bool) : Wt (base A) := fun s hs => by
 rw [base_len] at hs; rw [base_at hs]; split <;> simp
theorem base_next {A : List Bool} {k : Nat} {b : Bool} (h : A[k]? = some b) : base (A.take (k + 1)) = base (A.take k) ++ [if b then 0 else 9] := by
 unfold base; rw [List.take_add_one, h]; simp
def S42 (k : Nat) : List AV := [.any, .pt 0 0, .any, .sl 1 0 k, .v (.int .i64 k), .any, .any, .any, .any, .any, .any, .any, .any, .any, .any, .any, .any, .any, .any, .any, .any, .any, .any, .any, .any, .any]
set_option maxHeartbeats 1000000 in
theorem ends42 (S : Int) (N : List (List Int)) (A : List Bool) (h : Fit4 S N A) : APure Tryz.prog 42 [aV 4 S N A] (.im N.length (ints (rowOf N A []))) := by
 refine callp42 ?_
 have hl := h.fit.len
 have hsm := h.small
 simp only [go_sem, seval, L42, aV]
 repeat' (first | ((first | refine MX_okL rfl ?_ | refine LNext_if sd ?_ | refine ZNext_if sd ?_ | refine ZY_if sd ?_ | refine And.intro okq ?_); (try simp only [go_sem, seval])) | (refine And.intro ?_ ?_))
 refine MW_loop_st S42 (fun k => [aO 4 S N A, .cells 1 (ints (base (A.take k)))]) (fun k => k ≤ N.length) (fun k => N.length - k) 0 ?_ (Nat.zero_le _) ?_
 ·unfold aO
  exact kp [.old 0, .new 1]
 ·rintro k i1
  unfold aO
  have bl : (base (A.take k)).length = k := by rw [base_len, List.length_take]; omega
  rcases Nat.lt_or_ge k N.length with hi | hi
  ·obtain ⟨b, hb, _⟩ := dropG (l := A) (k := k) (by omega)
   have hi' : (k : Int) < N.length := by omega
   have hi2 : (k : Int) < A.length := by omega
   have e := base_next hb
   cases b with
   | true =>
    have e2 : ints (base (A.take k)) ++ [.v (.int .i64 0)] = ints (base (A.take (k + 1))) := by rw [e]; exact ints_snoc _ _
    simp only [go_sem, seval, L42_b0, S42, hi', hi2, bls_drop hb, Int.toNat_natCast]
    repeat' (first | ((first | refine MX_okL rfl ?_ | refine LNext_if sd ?_ | refine ZNext_if sd ?_ | refine ZY_if sd ?_ | refine And.intro okq ?_); (try simp only [go_sem, seval, hi', hi2, bls_drop hb, Int.toNat_natCast, e2])) | (refine And.intro ?_ ?_))
    refine ⟨k + 1, by omega, by omega, ?_⟩
    (have kr0 := wrapS (show k < 9223372036854775807 by omega); exact kp [.old 0, .old 3])
   | false =>
    have e2 : ints (base (A.take k)) ++ [.v (.int .i64 9)] = ints (base (A.take (k + 1))) := by rw [e]; exact ints_snoc _ _
    simp only [go_sem, seval, L42_b0, S42, hi', hi2, bls_drop hb, Int.toNat_natCast]
    repeat' (first | ((first | refine MX_okL rfl ?_ | refine LNext_if sd ?_ | refine ZNext_if sd ?_ | refine ZY_if sd ?_ | refine And.intro okq ?_); (try simp only [go_sem, seval, hi', hi2, bls_drop hb, Int.toNat_natCast, e2])) | (refine And.intro ?_ ?_))
    refine ⟨k + 1, by omega, by omega, ?_⟩
    (have kr0 := wrapS (show k < 9223372036854775807 by omega); exact kp [.old 0, .old 3])
  ·have hi' : ¬ (k : Int) < N.length := by omega
   obtain rfl : k = N.length := by omega
   have e : A.take N.length = A := List.take_of_length_le (by omega)
   have c75 := inserted75 S N A (base A) h (by rw [base_len, hl]) (base_wt A)
   rw [← rowOf_nil h.fit, base_len, hl] at c75
   unfold aV at c75
   simp only [go_sem, seval, L42_b0, S42, hi', e]
   repeat' (first
    | ((first | ((first | refine LNext_if ?_ ?_ | refine ZNext_if ?_ ?_ | refine ZY_if ?_ ?_); (first | omega | exact True.intro | (simp only [go_sem, List.length_map, List.length_cons, List.length_nil, List.length_append, List.length_replicate, List.length_drop, List.length_take, List.length_set, Nat.reduceAdd, Nat.reduceMul, true_and, and_true]; omega) | (refine And.intro ?_ ?_ <;> first | omega | exact True.intro | (simp only [List.length_map, List.length_cons, List.length_nil, List.length_append, List.length_replicate, List.length_drop, List.length_take, List.length_set]; omega)))) | (refine And.intro ?_ ?_; (show okA _ _ _ _ = true); kernel_rfl) | refine NX_go (l := .seq _ _) ?_ | refine NX_go (l := .reg _) ?_ | refine NX_go (l := .cond _ _ _) ?_ | refine NX_go (l := .block _ _) ?_ | refine NX_go (l := .ret) ?_ | refine NX_go (l := .skip) ?_); (try simp only [go_sem, seval, hi']))
    | ((first | refine LGuard_split ?_ ?_ | refine ZG_split ?_ ?_) <;> (intro hc; (try simp only [go_sem, seval, hc, hi']); (try simp only [decide_eq_true_eq, decide_eq_false_iff_not, Bool.not_eq_true', Bool.not_eq_false', Bool.not_eq_true, Bool.not_eq_false, beq_iff_eq, bne_iff_ne, ne_eq, beq_eq_false_iff_ne, bne_eq_false_iff_eq, Int.not_lt, Int.not_le, gt_iff_lt, ge_iff_le, Decidable.not_not] at hc)))
    | (refine And.intro ?_ ?_))
   refine LCall_ice 1 rfl (LCall_put c75 ?_ ?_ ?_)
   ·simp only [go_sem, Bool.and_self, Bool.and_true]
   ·refine Svs.consI (Sv.cl (Cl.of ?_)) (Svs.consI (Sv.slFE (.inr rfl) rfl (Svs.eq rfl ?_)) Svs.nilI)
    ·simp only [go_sem, Bool.and_self, Bool.and_true]
    ·exact ints_clb _
   simp only [go_sem, seval]
   repeat' (first | ((first | refine MX_okL rfl ?_ | refine LNext_if sd ?_ | refine ZNext_if sd ?_ | refine ZY_if sd ?_ | refine And.intro okq ?_); (try simp only [go_sem, seval])) | (refine And.intro ?_ ?_))
   exact Fin_of ⟨rfl, rfl⟩ (kp [])
theorem ahd_wt {S : Int} {N : List (List Int)} {A : List Bool} (h : Fit4 S N A) {c : Nat} (hc : c < 4) {v : List Int} (hv : v.length = N.length) (hw : Wt v) : Wt (ahd N c v) := fun s hs => by
 rw [ahd_len] at hs
 rw [ahd_at hs]
 unfold ahd1
 have q1 := hw s (by omega)
 have q2 := h.fit.tab s c (by omega) hc
 have q3 := h.fit.tab s (fl c) (by omega) (fl_lt hc)
 dsimp only
 have p1 : nx N s c ≥ 0 → 0 ≤ vAt v (nx N s c).toNat := fun q => (hw _ (by omega)).1
 have p2 : nx N s (fl c) ≥ 0 → 0 ≤ vAt v (nx N s (fl c)).toNat := fun q => (hw _ (by omega)).1
 split <;> split
 ·rename_i a b; have := p1 b; have := p2 a; omega
 ·rename_i a b; have := p2 a; omega
 ·rename_i a b; have := p1 b; omega
 ·omega
theorem fl_eq {c : Nat} (h : c < 4) : IntKind.i64.wrap ((BitVec.ofInt 64 (c : Int) ^^^ 1#64).toNat : Int) = (fl c : Int) := by
 match c, h with
 | 0, _ | 1, _ | 2, _ | 3, _ => decide
def fillG (R : List Int) (k : Nat) : List Int := R.take k ++ List.replicate (R.length - k) 0
theorem fillG_len {R : List Int} {k : Nat} (h : k ≤ R.length) : (fillG R k).length = R.length := by
 unfold fillG; rw [List.length_append, List.length_take, List.length_replicate]; omega
theorem fillG_set {R : List Int} {k : Nat} (h : k < R.length) : (fillG R k).set k (vAt R k) = fillG R (k + 1) := by
 have h1 : (R.take k).length = k := by rw [List.length_take]; omega
 unfold fillG
 rw [List.set_append_right _ _ (by omega), h1, Nat.sub_self, List.take_add_one, vAt_some h, show R.length - k = (R.length - (k + 1)) + 1 by omega, List.replicate_succ]
 simp
theorem fillG_end (R : List Int) : fillG R R.length = R := by
 unfold fillG; rw [List.take_of_length_le (Nat.le_refl _), Nat.sub_self]; simp
theorem fillG_zero (R : List Int) {n : Nat} (h : R.length = n) : (List.replicate n [AV.v (Value.int IntKind.i64 0)]).flatten = ints (fillG R 0) := by
 subst h
 unfold fillG
 rw [List.take_zero, List.nil_append, Nat.sub_zero]
 induction R.length with
 | zero => rfl
 | succ n ih => rw [List.replicate_succ, List.flatten_cons, ih]; rfl
def S43 (n : Nat) (c : Nat) (v : List Int) (k : Nat) : List AV := [.any, .v (.int .i64 c), .im v.length (ints v), .pt 0 0, .any, .any, .any, .sl 1 0 v.length, .v (.int .i64 k), .any, .any, .any, .any, .any, .any, .any, .any, .any, .any, .any, .any, .any, .any, .any, .any, .any, .any, .any, .any, .any, .any, .any, .any, .any, .any, .any, .any, .any, .any, .any, .any, .any, .any, .any, .any, .any, .any, .any, .any, .any, .any, .any, .any, .any, .any, .any, .any, .any, .any, .any, .any, .any, .any, .any, .any, .any, .any, .any, .any, .any]
set_option maxHeartbeats 2000000 in
theorem ahead43 (S : Int) (N : List (List Int)) (A : List Bool) (c : Nat) (v : List Int) (h : Fit4 S N A) (hc : c < 4) (hv : v.length = N.length) (hw : Wt v) : APure Tryz.prog 43 [aV 4 S N A, .v (.int .i64 c), .im v.length (ints v)] (.im v.length (ints (insOf N 2 (ahd N c v)))) := by
 refine callp43 ?_
 have hT := h.fit.tab
 have hsm := h.small
 have hn0 : 0 < N.length := by have := h.st; omega
 have z0 := fillG_zero (ahd N c v) (ahd_len N c v)
 simp only [go_sem, seval, L43, aV, Int.toNat_natCast, z0]
 repeat' (first | ((first | refine MX_okL rfl ?_ | refine LNext_if sd ?_ | refine ZNext_if sd ?_ | refine ZY_if sd ?_ | refine And.intro okq ?_); (try simp only [go_sem, seval, Int.toNat_natCast, z0])) | (refine And.intro ?_ ?_))
 refine MW_loop_st (S43 v.length c v) (fun k => [aO 4 S N A, .cells 1 (ints (fillG (ahd N c v) k))]) (fun k => k ≤ v.length) (fun k => v.length - k) 0 ?_ (Nat.zero_le _) ?_
 ·unfold aO
  exact kp [.old 0, .old 1]
 rintro k i1
 unfold aO
 rcases Nat.lt_or_ge k v.length with hi | hi
 ·have hi' : (k : Int) < v.length := by omega
  have rl := fillG_len (R := ahd N c v) (k := k) (by rw [ahd_len]; exact i1)
  rw [ahd_len] at rl
  have hset := fillG_set (R := ahd N c v) (k := k) (by rw [ahd_len]; exact hi)
  rw [ahd_at hi] at hset
  generalize fillG (ahd N c v) k = r at rl hset
  have ek := vAt_some hi
  have bk := hw k hi
  obtain ⟨row, a1, a2, a3⟩ := h.at' (q := k) (by omega) hc
  obtain ⟨row2, d1, d2, d3⟩ := h.at' (q := k) (by omega) (fl_lt hc)
  have c1 := step44 4 S N A k c a1 a3
  have c2 := step44 4 S N A k (fl c) d1 d3
  have b1 := hT k c (by omega) hc
  have b2 := hT k (fl c) (by omega) (fl_lt hc)
  unfold aV at c1 c2
  rw [← fl_eq hc] at c2
  have w0 : IntKind.wrap .i64 (2 + vAt v k) = 2 + vAt v k := wrapI (by omega) (by omega)
  have m0 : (if 2 + vAt v k < 9 then 2 + vAt v k else 9) = min (vAt v k + 2) 9 := by split <;> omega
  have ws := wrapS (show k < 9223372036854775807 by omega)
  have set1 : ∀ x : Int, (ints r).take k ++ [.v (.int .i64 x)] ++ (ints r).drop (k + 1) = ints (r.set k x) := fun x => ints_set r k x (by omega)
  have set2 : ∀ x y : Int, (ints (r.set k x)).take k ++ [.v (.int .i64 y)] ++ (ints (r.set k x)).drop (k + 1) = ints (r.set k y) := fun x y => by
   rw [ints_set (r.set k x) k y (by simp; omega), List.set_set]
  have get2 : ∀ x : Int, (ints (r.set k x))[k]? = some (.v (.int .i64 x)) := fun x => ints_get (by rw [List.getElem?_set_self (by omega)])
  unfold ahd1 at hset
  dsimp only at hset
  have M : ∀ x y : Int, (if y < x then y else x) = min x y := fun x y => by split <;> omega
  by_cases t0 : 0 ≤ nx N k c
  ·obtain ⟨t, e⟩ : ∃ t : Nat, nx N k c = t := ⟨(nx N k c).toNat, by omega⟩
   rw [e] at c1 b1 hset
   rw [if_pos (show (t : Int) ≥ 0 by omega), Int.toNat_natCast] at hset
   have et := vAt_some (r := v) (s := t) (by omega)
   have ht0 : (0 : Int) ≤ (t : Int) := by omega
   have htl : (t : Int) < v.length := by omega
   have m1 : ∀ x : Int, (if vAt v t < x then vAt v t else x) = min x (vAt v t) := fun x => M _ _
   by_cases u0 : 0 ≤ nx N k (fl c)
   ·obtain ⟨u, f⟩ : ∃ u : Nat, nx N k (fl c) = u := ⟨(nx N k (fl c)).toNat, by omega⟩
    rw [f] at c2 b2 hset
    rw [if_pos (show (u : Int) ≥ 0 by omega), Int.toNat_natCast] at hset
    have eu := vAt_some (r := v) (s := u) (by omega)
    have bu := hw u (by omega)
    have hu0 : (0 : Int) ≤ (u : Int) := by omega
    have hul : (u : Int) < v.length := by omega
    have w1 : IntKind.wrap .i64 (1 + vAt v u) = 1 + vAt v u := wrapI (by omega) (by omega)
    have m2 : ∀ x : Int, (if 1 + vAt v u < x then 1 + vAt v u else x) = min x (vAt v u + 1) := fun x => by rw [M]; omega
    simp only [go_sem, seval, L43_b0, S43, ge_iff_le, ints_drop ek, w0, m0, Int.toNat_natCast, get2, set1, set2, hi', ht0, ints_drop et, m1, htl, hu0, ints_drop eu, w1, m2, hul]
    repeat' (first | ((first | ((first | refine LCall_pure (c1) (Cls.of ?_) ?_ | refine LCall_pure (c2) (Cls.of ?_) ?_); exact cx) | (refine MW_dy dl43_8 mixedP dx43_8 ax43_8 0 ?_ ?_; exact yl) | (refine MW_dy dl43_11 mixedP dx43_11 ax43_11 0 ?_ ?_; exact yl) | refine MX_okL rfl ?_ | refine LNext_if sd ?_ | refine ZNext_if sd ?_ | refine ZY_if sd ?_ | refine And.intro okq ?_); (try simp only [go_sem, seval, l43_8, l43_11, ge_iff_le, ints_drop ek, w0, m0, Int.toNat_natCast, get2, set1, set2, hi', ht0, ints_drop et, m1, htl, hu0, ints_drop eu, w1, m2, hul])) | (refine And.intro ?_ ?_))
    refine ⟨k + 1, by omega, by omega, ?_⟩
    rw [← hset]
    exact kp [.old 0, .old 1]
   ·rw [if_neg (show ¬ nx N k (fl c) ≥ 0 by omega)] at hset
    simp only [go_sem, seval, L43_b0, S43, ge_iff_le, ints_drop ek, w0, m0, Int.toNat_natCast, get2, set1, set2, hi', ht0, ints_drop et, m1, htl, u0]
    repeat' (first | ((first | ((first | refine LCall_pure (c1) (Cls.of ?_) ?_ | refine LCall_pure (c2) (Cls.of ?_) ?_); exact cx) | (refine MW_dy dl43_8 mixedP dx43_8 ax43_8 0 ?_ ?_; exact yl) | refine MX_okL rfl ?_ | refine LNext_if sd ?_ | refine ZNext_if sd ?_ | refine ZY_if sd ?_ | refine And.intro okq ?_); (try simp only [go_sem, seval, l43_8, ge_iff_le, ints_drop ek, w0, m0, Int.toNat_natCast, get2, set1, set2, hi', ht0, ints_drop et, m1, htl, u0])) | (refine And.intro ?_ ?_))
    refine ⟨k + 1, by omega, by omega, ?_⟩
    rw [← hset]
    exact kp [.old 0, .old 1]
  ·rw [if_neg (show ¬ nx N k c ≥ 0 by omega)] at hset
   by_cases u0 : 0 ≤ nx N k (fl c)
   ·obtain ⟨u, f⟩ : ∃ u : Nat, nx N k (fl c) = u := ⟨(nx N k (fl c)).toNat, by omega⟩
    rw [f] at c2 b2 hset
    rw [if_pos (show (u : Int) ≥ 0 by omega), Int.toNat_natCast] at hset
    have eu := vAt_some (r := v) (s := u) (by omega)
    have bu := hw u (by omega)
    have hu0 : (0 : Int) ≤ (u : Int) := by omega
    have hul : (u : Int) < v.length := by omega
    have w1 : IntKind.wrap .i64 (1 + vAt v u) = 1 + vAt v u := wrapI (by omega) (by omega)
    have m2 : ∀ x : Int, (if 1 + vAt v u < x then 1 + vAt v u else x) = min x (vAt v u + 1) := fun x => by rw [M]; omega
    simp only [go_sem, seval, L43_b0, S43, ge_iff_le, ints_drop ek, w0, m0, Int.toNat_natCast, get2, set1, set2, hi', t0, hu0, ints_drop eu, w1, m2, hul]
    repeat' (first | ((first | ((first | refine LCall_pure (c1) (Cls.of ?_) ?_ | refine LCall_pure (c2) (Cls.of ?_) ?_); exact cx) | (refine MW_dy dl43_11 mixedP dx43_11 ax43_11 0 ?_ ?_; exact yl) | refine MX_okL rfl ?_ | refine LNext_if sd ?_ | refine ZNext_if sd ?_ | refine ZY_if sd ?_ | refine And.intro okq ?_); (try simp only [go_sem, seval, l43_11, ge_iff_le, ints_drop ek, w0, m0, Int.toNat_natCast, get2, set1, set2, hi', t0, hu0, ints_drop eu, w1, m2, hul])) | (refine And.intro ?_ ?_))
    refine ⟨k + 1, by omega, by omega, ?_⟩
    rw [← hset]
    exact kp [.old 0, .old 1]
   ·rw [if_neg (show ¬ nx N k (fl c) ≥ 0 by omega)] at hset
    simp only [go_sem, seval, L43_b0, S43, ge_iff_le, ints_drop ek, w0, m0, Int.toNat_natCast, get2, set1, set2, hi', t0, u0]
    repeat' (first | ((first | ((first | refine LCall_pure (c1) (Cls.of ?_) ?_ | refine LCall_pure (c2) (Cls.of ?_) ?_); exact cx) | refine MX_okL rfl ?_ | refine LNext_if sd ?_ | refine ZNext_if sd ?_ | refine ZY_if sd ?_ | refine And.intro okq ?_); (try simp only [go_sem, seval, ge_iff_le, ints_drop ek, w0, m0, Int.toNat_natCast, get2, set1, set2, hi', t0, u0])) | (refine And.intro ?_ ?_))
    refine ⟨k + 1, by omega, by omega, ?_⟩
    rw [← hset]
    exact kp [.old 0, .old 1]
 ·have hi' : ¬ (k : Int) < v.length := by omega
  obtain rfl : k = v.length := by omega
  have c75 := inserted75 S N A (ahd N c v) h (by rw [ahd_len, hv]) (ahd_wt h hc hv hw)
  rw [ahd_len] at c75
  unfold aV at c75
  have fe := fillG_end (ahd N c v)
  rw [ahd_len] at fe
  simp only [go_sem, seval, L43_b0, S43, hi', fe]
  repeat' (first
   | ((first | ((first | refine LNext_if ?_ ?_ | refine ZNext_if ?_ ?_ | refine ZY_if ?_ ?_); (first | omega | exact True.intro | (simp only [go_sem, List.length_map, List.length_cons, List.length_nil, List.length_append, List.length_replicate, List.length_drop, List.length_take, List.length_set, Nat.reduceAdd, Nat.reduceMul, true_and, and_true]; omega) | (refine And.intro ?_ ?_ <;> first | omega | exact True.intro | (simp only [List.length_map, List.length_cons, List.length_nil, List.length_append, List.length_replicate, List.length_drop, List.length_take, List.length_set]; omega)))) | (refine And.intro ?_ ?_; (show okA _ _ _ _ = true); kernel_rfl) | refine NX_go (l := .seq _ _) ?_ | refine NX_go (l := .reg _) ?_ | refine NX_go (l := .cond _ _ _) ?_ | refine NX_go (l := .block _ _) ?_ | refine NX_go (l := .ret) ?_ | refine NX_go (l := .skip) ?_); (try simp only [go_sem, seval, hi']))
   | ((first | refine LGuard_split ?_ ?_ | refine ZG_split ?_ ?_) <;> (intro hc; (try simp only [go_sem, seval, hc, hi']); (try simp only [decide_eq_true_eq, decide_eq_false_iff_not, Bool.not_eq_true', Bool.not_eq_false', Bool.not_eq_true, Bool.not_eq_false, beq_iff_eq, bne_iff_ne, ne_eq, beq_eq_false_iff_ne, bne_eq_false_iff_eq, Int.not_lt, Int.not_le, gt_iff_lt, ge_iff_le, Decidable.not_not] at hc)))
   | (refine And.intro ?_ ?_))
  refine LCall_ice 1 rfl (LCall_put c75 ?_ ?_ ?_)
  ·simp only [go_sem, Bool.and_self, Bool.and_true]
  ·refine Svs.consI (Sv.cl (Cl.of ?_)) (Svs.consI (Sv.slFE (.inr rfl) rfl (Svs.eq rfl ?_)) Svs.nilI)
   ·simp only [go_sem, Bool.and_self, Bool.and_true]
   ·exact ints_clb _
  simp only [go_sem, seval]
  repeat' (first | ((first | refine MX_okL rfl ?_ | refine LNext_if sd ?_ | refine ZNext_if sd ?_ | refine ZY_if sd ?_ | refine And.intro okq ?_); (try simp only [go_sem, seval])) | (refine And.intro ?_ ?_))
  exact Fin_of ⟨rfl, rfl⟩ (kp [])
end Go.Proofs.YtcjckmnhlfbdlaaGreatDoor
