/- Part 19 of the texts that lead to gapFill_holds, gapSpace_holds, gapWider_holds. No condition. -/
import Derived.Test.YtimblogmflmhkaaH18
set_option linter.unusedSimpArgs false
set_option linter.unusedVariables false
set_option linter.unnecessarySimpa false
namespace Go.Proofs.Ytimblogmflmhkaa
open Go Go.Abs
def ints (l : List Int) : List AV := l.map fun n => .v (.int .i64 n)
theorem ints_nil : ints [] = [] := rfl
theorem ints_clb (l : List Int) : clbs (ints l) = true := by rw [clbs_eq]; simp only [ints, List.all_map, Function.comp_def, go_sem, List.all_eq_true, implies_true]
theorem ints_one (l : List Int) : (ints l).all (·.one) = true := by simp only [ints, List.all_map, Function.comp_def, go_sem, List.all_eq_true, implies_true]
theorem ints_len (l : List Int) : (ints l).length = l.length := by simp [ints]
theorem ints_take (l : List Int) : (ints l).take l.length = ints l := List.take_of_length_le (by simp [ints])
theorem ints_get {l : List Int} {i : Nat} {n : Int} (h : l[i]? = some n) : (ints l)[i]? = some (.v (.int .i64 n)) := by simp [ints, h]
theorem ints_drop {l : List Int} {i : Nat} {n : Int} (h : l[i]? = some n) : (ints l).drop i = .v (.int .i64 n) :: ints (l.drop (i + 1)) := by
  unfold ints
  obtain ⟨hi, e⟩ := List.getElem?_eq_some_iff.1 h
  rw [← List.map_drop, List.drop_eq_getElem_cons hi, e]; rfl
theorem ints_set (l : List Int) (i : Nat) (n : Int) (h : i < l.length) : (ints l).take i ++ [.v (.int .i64 n)] ++ (ints l).drop (i + 1) = ints (l.set i n) := by
  unfold ints
  rw [List.map_set, List.set_eq_take_append_cons_drop, if_pos (by simpa using h)]
  simp
attribute [go_sem] ints_nil ints_clb ints_one ints_len ints_take
theorem strs_nil : strs [] = [] := rfl
theorem strs_clb (l : List ByteArray) : clbs (strs l) = true := by rw [clbs_eq]; simp only [strs, List.all_map, Function.comp_def, go_sem, List.all_eq_true, implies_true]
theorem strs_one (l : List ByteArray) : (strs l).all (·.one) = true := by simp only [strs, List.all_map, Function.comp_def, go_sem, List.all_eq_true, implies_true]
theorem strs_len (l : List ByteArray) : (strs l).length = l.length := by simp [strs]
theorem strs_take (l : List ByteArray) : (strs l).take l.length = strs l := List.take_of_length_le (by simp [strs])
theorem strs_snoc (l : List ByteArray) (s : ByteArray) : strs l ++ [.v (.string s)] = strs (l ++ [s]) := by simp [strs]
theorem strs_get {l : List ByteArray} {i : Nat} {s : ByteArray} (h : l[i]? = some s) : (strs l)[i]? = some (.v (.string s)) := by simp [strs, h]
theorem strs_drop {l : List ByteArray} {i : Nat} {s : ByteArray} (h : l[i]? = some s) : (strs l).drop i = .v (.string s) :: strs (l.drop (i + 1)) := by
  unfold strs
  obtain ⟨hi, e⟩ := List.getElem?_eq_some_iff.1 h
  rw [← List.map_drop, List.drop_eq_getElem_cons hi, e]; rfl
attribute [go_sem] strs_nil strs_clb strs_one strs_len strs_take
def lens (l : List ByteArray) : List Int := (List.range 50).map fun j => ((l.countP fun s => s.size == j : Nat) : Int)
theorem lens_len (l : List ByteArray) : (lens l).length = 50 := by simp [lens]
theorem lens_get (l : List ByteArray) (j : Nat) (h : j < 50) : (lens l)[j]? = some ((l.countP fun s => s.size == j : Nat) : Int) := by simp [lens, h]
theorem lens_snoc (l : List ByteArray) (x : ByteArray) (h : x.size < 50) : (lens l).set x.size (((l.countP fun s => s.size == x.size : Nat) : Int) + 1) = lens (l ++ [x]) := by
  apply List.ext_getElem?
  intro j
  rw [List.getElem?_set, lens_len]
  by_cases hj : j < 50
  · rw [lens_get _ j hj, lens_get _ j hj]
    by_cases e : x.size = j
    · subst e; simp [h, List.countP_append]
    · have : (x.size == j) = false := by simpa using e
      simp [e, List.countP_append, this]
  · rw [List.getElem?_eq_none (by rw [lens_len]; omega), List.getElem?_eq_none (by rw [lens_len]; omega)]
    rw [if_neg (by omega)]
theorem take_snoc' {α : Type} {l : List α} {k : Nat} {x : α} (h : l[k]? = some x) : l.take (k + 1) = l.take k ++ [x] := by
  rw [List.take_add_one, h]; rfl
def S56 (l : List ByteArray) (k : Nat) : List AV := [.im l.length (strs l), .any, .any, .sl 0 0 50, .v (.int .i64 k), .any, .any, .any, .any, .any, .any, .any, .any, .any, .any, .any, .any, .any, .any, .any, .any, .any, .any]
set_option maxRecDepth 100000 in
theorem lengths56 (l : List ByteArray) (hl : l.length ≤ 1000) (hs : ∀ s ∈ l, s.size < 50) : APure Try.prog 56 [.im l.length (strs l)] (.im 50 (ints (lens l))) := by
  refine callp56 ?_
  simp only [go_sem, seval, L56]
  repeat' (first
      | ((first | ((first | refine LNext_if ?_ ?_ | refine ZNext_if ?_ ?_ | refine ZY_if ?_ ?_); (first | omega | exact True.intro | (simp only [go_sem, List.length_map, List.length_cons, List.length_nil, List.length_append, List.length_replicate, List.length_drop, List.length_take, List.length_set, Nat.reduceAdd, Nat.reduceMul, true_and, and_true]; omega) | (refine And.intro ?_ ?_ <;> first | omega | exact True.intro | (simp only [List.length_map, List.length_cons, List.length_nil, List.length_append, List.length_replicate, List.length_drop, List.length_take, List.length_set]; omega)))) | (refine And.intro ?_ ?_; (show okA _ _ _ _ = true); kernel_rfl) | refine MX_ok (l := .seq _ _) ?_ | refine MX_ok (l := .reg _) ?_ | refine MX_ok (l := .cond _ _ _) ?_ | refine MX_ok (l := .block _ _) ?_ | refine MX_ok (l := .ret) ?_ | refine MX_ok (l := .skip) ?_); (try simp only [go_sem, seval]))
      | ((first | refine MCond_split ?_ ?_ | refine NCond_split ?_ ?_ | refine LGuard_split ?_ ?_ | refine ZG_split ?_ ?_) <;> (intro hc; (try simp only [go_sem, seval, hc]); (try simp only [decide_eq_true_eq, decide_eq_false_iff_not, Bool.not_eq_true', Bool.not_eq_false', Bool.not_eq_true, Bool.not_eq_false, beq_iff_eq, bne_iff_ne, ne_eq, beq_eq_false_iff_ne, bne_eq_false_iff_eq, Int.not_lt, Int.not_le, gt_iff_lt, ge_iff_le, Decidable.not_not] at hc)))
      | (refine And.intro ?_ ?_))
  refine MW_loop_st (S56 l) (fun k => [.cells 1 (ints (lens (l.take k)))]) (fun k => k ≤ l.length) (fun k => l.length - k) 0 ?_ (Nat.zero_le _) ?_
  · (refine VS_of [.old 0] (by decide) ?_ ?_ (by decide); all_goals (repeat' (first | exact trivial | refine And.intro ?_ ?_ | exact ⟨rfl, rfl⟩ | exact Sg.any | ((first | refine ⟨_, rfl, ?_⟩ | refine ⟨_, .inl ⟨rfl, rfl⟩, ?_⟩ | refine ⟨_, .inr rfl, ?_⟩ | refine Sg.of ?_); (repeat' (first | ((refine Svs.eq ?_ ?_; kernel_rfl; simp only [go_sem, Bool.and_self, Bool.and_true])) | ((first | refine Sv.cl (Cl.of ?_) | refine Svs.cl (Cls.of ?_)); simp only [go_sem, Bool.and_self, Bool.and_true]; done) | exact Sv.pt rfl | exact Sv.mp rfl | exact Sv.nil rfl | exact Sv.em rfl | (refine Sv.slE rfl ?_ ?_ <;> (first | rfl | omega | (simp only [go_sem]; done) | (simp [go_sem]; done) | (simp [go_sem]; omega))) | ((first | refine Sv.eq ?_ ?_ | refine Svs.eq ?_ ?_) <;> (first | rfl | omega | (simp only [go_sem]; done) | (simp [go_sem]; done) | (simp [go_sem]; omega))) | exact Sv.nil0 | exact Sv.em0 | exact Sv.sl0 | ((first | refine Sv.slFE (.inl ⟨rfl, rfl⟩) ?_ (Svs.eq ?_ ?_) | refine Sv.slFE (.inr rfl) ?_ (Svs.eq ?_ ?_)) <;> (first | rfl | omega | (simp only [go_sem]; done) | (simp [go_sem]; done) | (simp [go_sem]; omega))) | exact Svs.nilI | refine Svs.consI ?_ ?_ | refine Sv.tu ?_ | refine Sv.ag ?_)); done) | rfl)))
  · intro k hk
    rcases Nat.lt_or_ge k l.length with h | h
    · obtain ⟨x, hx, -⟩ := dropG h
      have h4 : (k : Int) < l.length := by omega
      have hx50 := hs x (List.mem_of_getElem? hx)
      have hc := lens_get (l.take k) x.size hx50
      have hle : (l.take k).countP (fun s => s.size == x.size) ≤ 1000 := Nat.le_trans List.countP_le_length (by rw [List.length_take]; omega)
      have hw : IntKind.wrap .i64 (((List.countP (fun s => s.size == x.size) (l.take k) : Nat) : Int) + 1) = ((List.countP (fun s => s.size == x.size) (l.take k) : Nat) : Int) + 1 := wrapI (by omega) (by omega)
      simp only [go_sem, seval, L56_b0, S56, h4]
      repeat' (first
          | ((first | ((first | refine LNext_if ?_ ?_ | refine ZNext_if ?_ ?_ | refine ZY_if ?_ ?_); (first | omega | exact True.intro | (simp only [go_sem, List.length_map, List.length_cons, List.length_nil, List.length_append, List.length_replicate, List.length_drop, List.length_take, List.length_set, Nat.reduceAdd, Nat.reduceMul, true_and, and_true]; omega) | (refine And.intro ?_ ?_ <;> first | omega | exact True.intro | (simp only [List.length_map, List.length_cons, List.length_nil, List.length_append, List.length_replicate, List.length_drop, List.length_take, List.length_set]; omega)))) | (refine And.intro ?_ ?_; (show okA _ _ _ _ = true); kernel_rfl) | refine MX_ok (l := .seq _ _) ?_ | refine MX_ok (l := .reg _) ?_ | refine MX_ok (l := .cond _ _ _) ?_ | refine MX_ok (l := .block _ _) ?_ | refine MX_ok (l := .ret) ?_ | refine MX_ok (l := .skip) ?_); (try simp only [go_sem, seval, lens_len, strs_drop hx, ints_get hc, hw, wrapS (k := k) (by omega), ints_set _ _ _ (show x.size < (lens (l.take k)).length by rw [lens_len]; exact hx50), lens_snoc _ _ hx50, Int.toNat_natCast]))
          | ((first | refine MCond_split ?_ ?_ | refine NCond_split ?_ ?_ | refine LGuard_split ?_ ?_ | refine ZG_split ?_ ?_) <;> (intro hc; (try simp only [go_sem, seval, hc, lens_len, strs_drop hx, ints_get hc, hw, wrapS (k := k) (by omega), ints_set _ _ _ (show x.size < (lens (l.take k)).length by rw [lens_len]; exact hx50), lens_snoc _ _ hx50, Int.toNat_natCast]); (try simp only [decide_eq_true_eq, decide_eq_false_iff_not, Bool.not_eq_true', Bool.not_eq_false', Bool.not_eq_true, Bool.not_eq_false, beq_iff_eq, bne_iff_ne, ne_eq, beq_eq_false_iff_ne, bne_eq_false_iff_eq, Int.not_lt, Int.not_le, gt_iff_lt, ge_iff_le, Decidable.not_not] at hc)))
          | (refine And.intro ?_ ?_))
      refine ⟨k + 1, by omega, by omega, ?_⟩
      (refine VS_of [.old 0] (by decide) ?_ ?_ (by decide); all_goals (repeat' (first | exact trivial | refine And.intro ?_ ?_ | exact ⟨rfl, rfl⟩ | exact Sg.any | ((first | refine ⟨_, rfl, ?_⟩ | refine ⟨_, .inl ⟨rfl, rfl⟩, ?_⟩ | refine ⟨_, .inr rfl, ?_⟩ | refine Sg.of ?_); (repeat' (first | ((first | refine Sv.cl (Cl.of ?_) | refine Svs.cl (Cls.of ?_)); simp only [go_sem, Bool.and_self, Bool.and_true]; done) | exact Sv.pt rfl | exact Sv.mp rfl | exact Sv.nil rfl | exact Sv.em rfl | (refine Sv.slE rfl ?_ ?_ <;> (first | rfl | omega | (simp only [take_snoc' hx]; done) | (simp only [go_sem, take_snoc' hx]; done) | (simp [take_snoc' hx]; done) | (simp [take_snoc' hx]; omega))) | ((first | refine Sv.eq ?_ ?_ | refine Svs.eq ?_ ?_) <;> (first | rfl | omega | (simp only [take_snoc' hx]; done) | (simp only [go_sem, take_snoc' hx]; done) | (simp [take_snoc' hx]; done) | (simp [take_snoc' hx]; omega))) | exact Sv.nil0 | exact Sv.em0 | exact Sv.sl0 | ((first | refine Sv.slFE (.inl ⟨rfl, rfl⟩) ?_ (Svs.eq ?_ ?_) | refine Sv.slFE (.inr rfl) ?_ (Svs.eq ?_ ?_)) <;> (first | rfl | omega | (simp only [take_snoc' hx]; done) | (simp only [go_sem, take_snoc' hx]; done) | (simp [take_snoc' hx]; done) | (simp [take_snoc' hx]; omega))) | exact Svs.nilI | refine Svs.consI ?_ ?_ | refine Sv.tu ?_ | refine Sv.ag ?_)); done) | rfl)))
    · have h4 : ¬ (k : Int) < l.length := by omega
      obtain rfl : k = l.length := by omega
      simp only [go_sem, seval, L56_b0, S56, h4, List.take_length]
      refine Fin_pure (Sv.slFE (.inl ⟨rfl, trivial⟩) ?_ (Svs.eq ?_ (by simp only [go_sem, Bool.and_self, Bool.and_true])))
      · rfl
      · rfl
def winS (n : List Int) (f e : Nat) : Int := ((n.take e).drop f).sum
theorem sum_bd : ∀ (l : List Int), (∀ x ∈ l, 0 ≤ x ∧ x ≤ 100000) → 0 ≤ l.sum ∧ l.sum ≤ 100000 * l.length
  | [], _ => by simp
  | x :: l, h => by
    have h1 := h x (by simp)
    have h2 := sum_bd l fun y hy => h y (by simp [hy])
    simp only [List.sum_cons, List.length_cons]
    omega
theorem winS_bd (n : List Int) (f e : Nat) (hb : ∀ x ∈ n, 0 ≤ x ∧ x ≤ 100000) (hn : n.length ≤ 100) : 0 ≤ winS n f e ∧ winS n f e ≤ 10000000 := by
  unfold winS
  have h := sum_bd ((n.take e).drop f) fun x hx => hb x (List.mem_of_mem_take (List.mem_of_mem_drop hx))
  have : ((n.take e).drop f).length ≤ 100 := by simp; omega
  omega
theorem winS_succ (n : List Int) (f k : Nat) (x : Int) (h : f ≤ k) (hx : n[k]? = some x) : winS n f (k + 1) = winS n f k + x := by
  have hk : k < n.length := (List.getElem?_eq_some_iff.1 hx).1
  unfold winS
  rw [take_snoc' hx, List.drop_append_of_le_length (by simp; omega)]
  simp
theorem winS_nil (n : List Int) (f e : Nat) (h : e ≤ f ∨ n.length ≤ f) : winS n f e = 0 := by
  unfold winS
  rw [List.drop_eq_nil_of_le (by simp; omega)]
  rfl
theorem winS_all (n : List Int) (f e e' : Nat) (h : n.length ≤ e) (h' : n.length ≤ e') : winS n f e = winS n f e' := by
  unfold winS
  rw [List.take_of_length_le h, List.take_of_length_le h']
def S72 (n : List Int) (to : Int) (f k : Nat) : List AV := [.im n.length (ints n), .any, .v (.int .i64 to), .any, .any, .any, .any, .v (.int .i64 (winS n f k)), .v (.int .i64 k), .any, .any, .any, .any, .any, .any, .any, .any, .any, .any, .any, .any, .any, .any, .any, .any, .any, .any, .any, .any]
set_option maxRecDepth 100000 in
theorem within72 (n : List Int) (fr to : Int) (hb : ∀ x ∈ n, 0 ≤ x ∧ x ≤ 100000) (hn : n.length ≤ 100) (h1 : fr ≤ 1000000) :
    APure Try.prog 72 [.im n.length (ints n), .v (.int .i64 fr), .v (.int .i64 to)] (.v (.int .i64 (winS n fr.toNat (to + 1).toNat))) := by
  generalize hf : fr.toNat = f
  have hF : (if fr < 0 then 0 else fr) = (f : Int) := by split <;> omega
  refine callp72 ?_
  simp only [go_sem, seval, L72, hF]
  refine MW_loop_st (S72 n to f) (fun k => []) (fun k => f ≤ k ∧ ((k : Int) ≤ to + 1 ∨ k = f) ∧ (k ≤ n.length ∨ k = f)) (fun k => n.length - k) f ?_ ⟨Nat.le_refl _, .inr rfl, .inr rfl⟩ ?_
  · (refine VS_of [] (by decide) ?_ ?_ (by decide); all_goals (repeat' (first | exact trivial | refine And.intro ?_ ?_ | exact ⟨rfl, rfl⟩ | exact Sg.any | ((first | refine ⟨_, rfl, ?_⟩ | refine ⟨_, .inl ⟨rfl, rfl⟩, ?_⟩ | refine ⟨_, .inr rfl, ?_⟩ | refine Sg.of ?_); (repeat' (first | ((first | refine Sv.cl (Cl.of ?_) | refine Svs.cl (Cls.of ?_)); simp only [go_sem, Bool.and_self, Bool.and_true]; done) | exact Sv.pt rfl | exact Sv.mp rfl | exact Sv.nil rfl | exact Sv.em rfl | (refine Sv.slE rfl ?_ ?_ <;> (first | rfl | omega | (simp only [winS_nil n f f (.inl (Nat.le_refl _))]; done) | (simp only [go_sem, winS_nil n f f (.inl (Nat.le_refl _))]; done) | (simp [winS_nil n f f (.inl (Nat.le_refl _))]; done) | (simp [winS_nil n f f (.inl (Nat.le_refl _))]; omega))) | ((first | refine Sv.eq ?_ ?_ | refine Svs.eq ?_ ?_) <;> (first | rfl | omega | (simp only [winS_nil n f f (.inl (Nat.le_refl _))]; done) | (simp only [go_sem, winS_nil n f f (.inl (Nat.le_refl _))]; done) | (simp [winS_nil n f f (.inl (Nat.le_refl _))]; done) | (simp [winS_nil n f f (.inl (Nat.le_refl _))]; omega))) | exact Sv.nil0 | exact Sv.em0 | exact Sv.sl0 | ((first | refine Sv.slFE (.inl ⟨rfl, rfl⟩) ?_ (Svs.eq ?_ ?_) | refine Sv.slFE (.inr rfl) ?_ (Svs.eq ?_ ?_)) <;> (first | rfl | omega | (simp only [winS_nil n f f (.inl (Nat.le_refl _))]; done) | (simp only [go_sem, winS_nil n f f (.inl (Nat.le_refl _))]; done) | (simp [winS_nil n f f (.inl (Nat.le_refl _))]; done) | (simp [winS_nil n f f (.inl (Nat.le_refl _))]; omega))) | exact Svs.nilI | refine Svs.consI ?_ ?_ | refine Sv.tu ?_ | refine Sv.ag ?_)); done) | rfl)))
  · rintro k ⟨i1, i2, i3⟩
    by_cases h3 : (k : Int) ≤ to
    · rcases Nat.lt_or_ge k n.length with h4 | h4
      · obtain ⟨x, hx, -⟩ := dropG h4
        have h5 : (k : Int) < n.length := by omega
        have b1 := winS_bd n f k hb hn
        have b2 := hb x (List.mem_of_getElem? hx)
        have hw : IntKind.wrap .i64 (winS n f k + x) = winS n f (k + 1) := by rw [winS_succ n f k x i1 hx]; exact wrapI (by omega) (by omega)
        simp only [go_sem, seval, L72_b0, S72, h3, h5]
        repeat' (first
            | ((first | ((first | refine LNext_if ?_ ?_ | refine ZNext_if ?_ ?_ | refine ZY_if ?_ ?_); (first | omega | exact True.intro | (simp only [go_sem, List.length_map, List.length_cons, List.length_nil, List.length_append, List.length_replicate, List.length_drop, List.length_take, List.length_set, Nat.reduceAdd, Nat.reduceMul, true_and, and_true]; omega) | (refine And.intro ?_ ?_ <;> first | omega | exact True.intro | (simp only [List.length_map, List.length_cons, List.length_nil, List.length_append, List.length_replicate, List.length_drop, List.length_take, List.length_set]; omega)))) | (refine And.intro ?_ ?_; (show okA _ _ _ _ = true); kernel_rfl) | refine MX_ok (l := .seq _ _) ?_ | refine MX_ok (l := .reg _) ?_ | refine MX_ok (l := .cond _ _ _) ?_ | refine MX_ok (l := .block _ _) ?_ | refine MX_ok (l := .ret) ?_ | refine MX_ok (l := .skip) ?_); (try simp only [go_sem, seval, ints_drop hx, hw, wrapS (k := k) (by omega), Int.toNat_natCast]))
            | ((first | refine MCond_split ?_ ?_ | refine NCond_split ?_ ?_ | refine LGuard_split ?_ ?_ | refine ZG_split ?_ ?_) <;> (intro hc; (try simp only [go_sem, seval, hc, ints_drop hx, hw, wrapS (k := k) (by omega), Int.toNat_natCast]); (try simp only [decide_eq_true_eq, decide_eq_false_iff_not, Bool.not_eq_true', Bool.not_eq_false', Bool.not_eq_true, Bool.not_eq_false, beq_iff_eq, bne_iff_ne, ne_eq, beq_eq_false_iff_ne, bne_eq_false_iff_eq, Int.not_lt, Int.not_le, gt_iff_lt, ge_iff_le, Decidable.not_not] at hc)))
            | (refine And.intro ?_ ?_))
        refine ⟨k + 1, by omega, ⟨by omega, by omega, by omega⟩, ?_⟩
        (refine VS_of [] (by decide) ?_ ?_ (by decide); all_goals (repeat' (first | exact trivial | refine And.intro ?_ ?_ | exact ⟨rfl, rfl⟩ | exact Sg.any | ((first | refine ⟨_, rfl, ?_⟩ | refine ⟨_, .inl ⟨rfl, rfl⟩, ?_⟩ | refine ⟨_, .inr rfl, ?_⟩ | refine Sg.of ?_); (repeat' (first | ((first | refine Sv.cl (Cl.of ?_) | refine Svs.cl (Cls.of ?_)); simp only [go_sem, Bool.and_self, Bool.and_true]; done) | exact Sv.pt rfl | exact Sv.mp rfl | exact Sv.nil rfl | exact Sv.em rfl | (refine Sv.slE rfl ?_ ?_ <;> (first | rfl | omega | (simp only [go_sem]; done) | (simp [go_sem]; done) | (simp [go_sem]; omega))) | ((first | refine Sv.eq ?_ ?_ | refine Svs.eq ?_ ?_) <;> (first | rfl | omega | (simp only [go_sem]; done) | (simp [go_sem]; done) | (simp [go_sem]; omega))) | exact Sv.nil0 | exact Sv.em0 | exact Sv.sl0 | ((first | refine Sv.slFE (.inl ⟨rfl, rfl⟩) ?_ (Svs.eq ?_ ?_) | refine Sv.slFE (.inr rfl) ?_ (Svs.eq ?_ ?_)) <;> (first | rfl | omega | (simp only [go_sem]; done) | (simp [go_sem]; done) | (simp [go_sem]; omega))) | exact Svs.nilI | refine Svs.consI ?_ ?_ | refine Sv.tu ?_ | refine Sv.ag ?_)); done) | rfl)))
      · have h5 : ¬ (k : Int) < n.length := by omega
        simp only [go_sem, seval, L72_b0, S72, h3, h5]
        refine Fin_pure (Sv.eq ?_ (by simp only [go_sem, Bool.and_self, Bool.and_true]))
        rcases i3 with i3 | i3
        · rw [winS_all n f k (to + 1).toNat h4 (by omega)]
        · rw [winS_nil _ _ _ (.inr (by omega)), winS_nil _ _ _ (.inr (by omega))]
    · simp only [go_sem, seval, L72_b0, S72, h3]
      refine Fin_pure (Sv.eq ?_ (by simp only [go_sem, Bool.and_self, Bool.and_true]))
      rcases i2 with i2 | i2
      · rw [show (to + 1).toNat = k by omega]
      · rw [winS_nil _ _ _ (.inl (by omega)), winS_nil _ _ _ (.inl (by omega))]
end Go.Proofs.Ytimblogmflmhkaa
namespace Go.Proofs.Ytimblogmflmhkaa
open Go Go.Abs
abbrev Seq := List ByteArray
def jl (b : Seq) : Nat := (joinT b ⟨#[32]⟩).length
def baseL (b : Seq) : Nat := if b = [] then 0 else jl b + 1
theorem jl_snoc (b : Seq) (w : ByteArray) : jl (b ++ [w]) = baseL b + w.size := by
  cases b with
  | nil => simp [jl, joinT, baseL]
  | cons x xs =>
    simp only [jl, joinT, baseL, List.cons_append, List.flatMap_append, List.flatMap_cons, List.flatMap_nil, List.append_nil, List.length_append, reduceCtorEq, if_false, szL]
    simp only [List.cons_append, List.nil_append, List.length_cons, szL]
    omega
theorem baseL_snoc (b : Seq) (w : ByteArray) : baseL (b ++ [w]) = baseL b + w.size + 1 := by
  have : b ++ [w] ≠ [] := by simp
  rw [baseL, if_neg this, jl_snoc]
theorem jl_base (b : Seq) : jl b ≤ baseL b := by
  unfold baseL; split
  · rename_i h; subst h; simp [jl, joinT]
  · omega
theorem spaced_jl (l h : Int) (b : Seq) : spacedB l h b = decide (l ≤ jl b ∧ (jl b : Int) ≤ h) := rfl
def exts (l h : Int) (W : Seq) : Nat → Seq → List Seq
  | 0, b => if spacedB l h b then [b] else []
  | n + 1, b => W.flatMap fun w => exts l h W n (b ++ [w])
theorem exts_long {l h : Int} {W : Seq} : ∀ (n : Nat) (b : Seq), h < baseL b → exts l h W (n + 1) b = []
  | 0, b, hb => by
    simp only [exts, List.flatMap_eq_nil_iff]
    intro w _
    rw [if_neg]
    rw [spaced_jl, jl_snoc]
    simp only [decide_eq_true_eq]
    omega
  | n + 1, b, hb => by
    rw [exts]
    simp only [List.flatMap_eq_nil_iff]
    intro w _
    refine exts_long n _ ?_
    rw [baseL_snoc]; omega
theorem exts_one {l h : Int} {W : Seq} {b : Seq} (hw : ∀ w ∈ W, spacedB l h (b ++ [w]) = false) : exts l h W 1 b = [] := by
  simp only [exts, List.flatMap_eq_nil_iff]
  intro w hm
  rw [if_neg]
  rw [hw w hm]; simp
theorem sum_zero : ∀ (l : List Int), (∀ x ∈ l, 0 ≤ x) → l.sum = 0 → ∀ x ∈ l, x = 0
  | [], _, _, x, hx => by cases hx
  | y :: l, h, hs, x, hx => by
    have h1 := h y (by simp)
    have h2 : 0 ≤ l.sum := by
      have : ∀ (l : List Int), (∀ x ∈ l, 0 ≤ x) → 0 ≤ l.sum := by
        intro l
        induction l with
        | nil => intro _; simp
        | cons z l ih => intro hz; have := hz z (by simp); have := ih fun x hx => hz x (by simp [hx]); simp only [List.sum_cons]; omega
      exact this l fun x hx => h x (by simp [hx])
    simp only [List.sum_cons] at hs
    rcases List.mem_cons.1 hx with rfl | hx
    · omega
    · exact sum_zero l (fun x hx => h x (by simp [hx])) (by omega) x hx
theorem lens_bd (W : Seq) (hW : W.length ≤ 1000) : ∀ x ∈ lens W, 0 ≤ x ∧ x ≤ 100000 := by
  intro x hx
  simp only [lens, List.mem_map] at hx
  obtain ⟨j, _, rfl⟩ := hx
  have : W.countP (fun s => s.size == j) ≤ W.length := List.countP_le_length
  omega
theorem winS_zero {W : Seq} (hW : W.length ≤ 1000) {f e : Nat} (h : winS (lens W) f e = 0) : ∀ w ∈ W, w.size < 50 → ¬ (f ≤ w.size ∧ w.size < e) := by
  intro w hw h50 ⟨h1, h2⟩
  unfold winS at h
  have hz := sum_zero _ (fun x hx => (lens_bd W hW x (List.mem_of_mem_take (List.mem_of_mem_drop hx))).1) h
  have hg : (((lens W).take e).drop f)[w.size - f]? = some ((W.countP fun s => s.size == w.size : Nat) : Int) := by
    rw [List.getElem?_drop, List.getElem?_take, if_pos (by omega), show f + (w.size - f) = w.size by omega, lens_get _ _ h50]
  have h3 := hz _ (List.mem_of_getElem? hg)
  have : 0 < W.countP fun s => s.size == w.size := List.countP_pos_iff.2 ⟨w, hw, by simp⟩
  omega
def Cap (out ex o2 : List Seq) : Prop := ((out ++ ex).length ≤ 2000 ∧ o2 = out ++ ex) ∨ (2000 < (out ++ ex).length ∧ 2000 < o2.length)
theorem Cap.trans {out e1 o1 e2 o2 : List Seq} (h : Cap out e1 o1) (k : Cap o1 e2 o2) (h3 : 2000 < o1.length → o1.length ≤ o2.length) : Cap out (e1 ++ e2) o2 := by
  rcases h with ⟨h1, rfl⟩ | ⟨h1, h2⟩
  · rcases k with ⟨k1, rfl⟩ | ⟨k1, k2⟩
    · exact .inl ⟨by rw [← List.append_assoc]; exact k1, by rw [List.append_assoc]⟩
    · exact .inr ⟨by rw [← List.append_assoc]; exact k1, k2⟩
  · refine .inr ⟨?_, by omega⟩
    simp only [List.length_append] at h1 ⊢; omega
def foldW (F : ByteArray → List Seq → List Seq) : Seq → List Seq → List Seq
  | [], out => out
  | w :: ws, out => if out.length ≤ 2000 then foldW F ws (F w out) else out
theorem foldW_big {F : ByteArray → List Seq → List Seq} {ws : Seq} {out : List Seq} (h : 2000 < out.length) : foldW F ws out = out := by
  cases ws with
  | nil => rfl
  | cons w ws => rw [foldW, if_neg (by omega)]
def moreF (l h : Int) (W : Seq) : Nat → Seq → List Seq → List Seq
  | 0, b, out => if spacedB l h b then out ++ [b] else out
  | n + 1, b, out => if (n = 0 ∧ winS (lens W) (l - baseL b).toNat (h - baseL b + 1).toNat = 0) ∨ h < baseL b then out else foldW (fun w o => moreF l h W n (b ++ [w]) o) W out
theorem moreF_len (l h : Int) (W : Seq) : ∀ (n : Nat) (b : Seq) (out : List Seq), out.length ≤ 2001 → (n = 0 → out.length ≤ 2000) → out.length ≤ (moreF l h W n b out).length ∧ (moreF l h W n b out).length ≤ 2001
  | 0, b, out, h1, h2 => by
    have := h2 rfl
    unfold moreF; split <;> simp <;> omega
  | n + 1, b, out, h1, _ => by
    rw [moreF]
    split
    · exact ⟨Nat.le_refl _, h1⟩
    · have key : ∀ (ws : Seq) (out : List Seq), out.length ≤ 2001 → out.length ≤ (foldW (fun w o => moreF l h W n (b ++ [w]) o) ws out).length ∧ (foldW (fun w o => moreF l h W n (b ++ [w]) o) ws out).length ≤ 2001 := by
        intro ws
        induction ws with
        | nil => intro out h; exact ⟨Nat.le_refl _, h⟩
        | cons w ws ih =>
          intro out h0
          rw [foldW]
          split
          · rename_i hl
            have q := moreF_len l h W n (b ++ [w]) out h0 (fun _ => hl)
            have := ih _ q.2
            omega
          · exact ⟨Nat.le_refl _, h0⟩
      exact key W out h1
theorem moreF_cap (l h : Int) (W : Seq) (hW : W.length ≤ 1000) (hs : ∀ w ∈ W, w.size < 50) : ∀ (n : Nat) (b : Seq) (out : List Seq), out.length ≤ 2001 → (n = 0 → out.length ≤ 2000) → Cap out (exts l h W n b) (moreF l h W n b out)
  | 0, b, out, h1, h2 => by
    have h3 := h2 rfl
    unfold moreF exts
    split
    · by_cases h4 : (out ++ [b]).length ≤ 2000
      · exact .inl ⟨h4, rfl⟩
      · exact .inr ⟨by omega, by omega⟩
    · exact .inl ⟨by simpa using h3, by simp⟩
  | n + 1, b, out, h1, _ => by
    have nil : exts l h W (n + 1) b = [] → Cap out (exts l h W (n + 1) b) out := fun e => by
      rw [e]
      by_cases h4 : out.length ≤ 2000
      · exact .inl ⟨by simpa using h4, by simp⟩
      · exact .inr ⟨by simp; omega, by omega⟩
    rw [moreF]
    split
    · rename_i hc
      refine nil ?_
      rcases hc with ⟨rfl, hz⟩ | hc
      · refine exts_one fun w hw => ?_
        have := winS_zero hW hz w hw (hs w hw)
        rw [spaced_jl, jl_snoc]
        simp only [decide_eq_false_iff_not]
        omega
      · exact exts_long n b hc
    · have key : ∀ (ws : Seq) (out : List Seq), out.length ≤ 2001 → Cap out (ws.flatMap fun w => exts l h W n (b ++ [w])) (foldW (fun w o => moreF l h W n (b ++ [w]) o) ws out) := by
        intro ws
        induction ws with
        | nil =>
          intro out h1
          by_cases h4 : out.length ≤ 2000
          · exact .inl ⟨by simpa using h4, by simp [foldW]⟩
          · exact .inr ⟨by simp; omega, by simp only [foldW]; omega⟩
        | cons w ws ih =>
          intro out h1
          rw [foldW, List.flatMap_cons]
          split
          · rename_i hl
            have q := moreF_len l h W n (b ++ [w]) out h1 (fun _ => hl)
            refine (moreF_cap l h W hW hs n (b ++ [w]) out h1 (fun _ => hl)).trans (ih _ q.2) fun hb => ?_
            rw [foldW_big hb]; exact Nat.le_refl _
          · exact .inr ⟨by simp; omega, by omega⟩
      exact key W out h1
def foldA (F : ByteArray → List Seq → List Seq × Bool) : Seq → List Seq → List Seq × Bool
  | [], out => (out, true)
  | w :: ws, out => if (F w out).2 then foldA F ws (F w out).1 else ((F w out).1, false)
def addF (l h : Int) (W : Seq) : Nat → Seq → List Seq → List Seq × Bool
  | 0, b, out => let o := if spacedB l h b then out ++ [b] else out; (o, decide (o.length ≤ 2000))
  | n + 1, b, out => if h < jl b then (out, true) else if n = 0 ∧ (W.any fun w => spacedB l h (b ++ [w])) = false then (out, true) else foldA (fun w o => addF l h W n (b ++ [w]) o) W out
theorem addF_cap (l h : Int) (W : Seq) : ∀ (n : Nat) (b : Seq) (out : List Seq), out.length ≤ 2000 → Cap out (exts l h W n b) (addF l h W n b out).1 ∧ (addF l h W n b out).2 = decide ((addF l h W n b out).1.length ≤ 2000) ∧ (addF l h W n b out).1.length ≤ 2001
  | 0, b, out, h1 => by
    unfold addF exts
    refine ⟨?_, rfl, by show (if spacedB l h b = true then out ++ [b] else out).length ≤ 2001; split <;> (try simp only [List.length_append, List.length_cons, List.length_nil]) <;> omega⟩
    show Cap _ _ (if spacedB l h b = true then out ++ [b] else out)
    split
    · by_cases h4 : (out ++ [b]).length ≤ 2000
      · exact .inl ⟨h4, rfl⟩
      · exact .inr ⟨by omega, by omega⟩
    · exact .inl ⟨by simpa using h1, by simp⟩
  | n + 1, b, out, h1 => by
    have nil : exts l h W (n + 1) b = [] → Cap out (exts l h W (n + 1) b) out := fun e => by
      rw [e]; exact .inl ⟨by simpa using h1, by simp⟩
    rw [addF]
    split
    · rename_i hc
      refine ⟨nil (exts_long n b ?_), by simp [h1], by simp; omega⟩
      have := jl_base b; omega
    · split
      · rename_i hc
        obtain ⟨rfl, hz⟩ := hc
        refine ⟨nil (exts_one fun w hw => ?_), by simp [h1], by simp; omega⟩
        have := List.any_eq_false.1 hz w hw
        simpa using this
      · have key : ∀ (ws : Seq) (out : List Seq), out.length ≤ 2000 → Cap out (ws.flatMap fun w => exts l h W n (b ++ [w])) (foldA (fun w o => addF l h W n (b ++ [w]) o) ws out).1 ∧
            (foldA (fun w o => addF l h W n (b ++ [w]) o) ws out).2 = decide ((foldA (fun w o => addF l h W n (b ++ [w]) o) ws out).1.length ≤ 2000) ∧ (foldA (fun w o => addF l h W n (b ++ [w]) o) ws out).1.length ≤ 2001 := by
          intro ws
          induction ws with
          | nil => intro out h1; exact ⟨.inl ⟨by simpa using h1, by simp [foldA]⟩, by simp [foldA, h1], by simp [foldA]; omega⟩
          | cons w ws ih =>
            intro out h1
            obtain ⟨q1, q2, q3⟩ := addF_cap l h W n (b ++ [w]) out h1
            rw [foldA, List.flatMap_cons]
            split
            · rename_i hok
              rw [q2, decide_eq_true_eq] at hok
              obtain ⟨r1, r2, r3⟩ := ih _ hok
              exact ⟨q1.trans r1 fun hb => by omega, r2, r3⟩
            · rename_i hok
              rw [q2, decide_eq_true_eq] at hok
              refine ⟨?_, by simp; omega, q3⟩
              rcases q1 with ⟨q4, q5⟩ | ⟨q4, q5⟩
              · rw [q5] at hok; exact (hok q4).elim
              · refine .inr ⟨?_, q5⟩
                simp only [List.length_append] at q4 ⊢; omega
        exact key W out h1
def allS (l h : Int) (W : Seq) : List Seq := exts l h W 0 [] ++ (exts l h W 1 [] ++ (exts l h W 2 [] ++ exts l h W 3 []))
theorem exts_len {l h : Int} {W : Seq} : ∀ (n : Nat) (b : Seq), ∀ s ∈ exts l h W n b, s.length = b.length + n ∧ (∀ w ∈ s, w ∈ b ∨ w ∈ W) ∧ spacedB l h s = true
  | 0, b, s, hs => by
    unfold exts at hs
    split at hs
    · rename_i h1; rw [List.mem_singleton] at hs; subst hs; exact ⟨rfl, fun w hw => .inl hw, h1⟩
    · cases hs
  | n + 1, b, s, hs => by
    rw [exts, List.mem_flatMap] at hs
    obtain ⟨w, hw, hs⟩ := hs
    obtain ⟨q1, q2, q3⟩ := exts_len n (b ++ [w]) s hs
    refine ⟨by rw [q1]; simp; omega, fun u hu => ?_, q3⟩
    rcases q2 u hu with h | h
    · rcases List.mem_append.1 h with h | h
      · exact .inl h
      · rw [List.mem_singleton] at h; subst h; exact .inr hw
    · exact .inr h
end Go.Proofs.Ytimblogmflmhkaa
