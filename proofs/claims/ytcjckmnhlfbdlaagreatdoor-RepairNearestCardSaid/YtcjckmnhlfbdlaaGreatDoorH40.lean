/- Part 40 of the texts that lead to repairNearestCard_holds. No condition. -/
import Derived.Test.YtcjckmnhlfbdlaaGreatDoorH37
import Derived.Test.YtcjckmnhlfbdlaaGreatDoorH39
set_option linter.all false
set_option maxRecDepth 100000
namespace Go.Proofs.YtcjckmnhlfbdlaaGreatDoor
open Go Go.Abs Go.Rep Go.Ne
theorem wrapI {n : Int} (h1 : -9223372036854775808 ≤ n) (h2 : n ≤ 9223372036854775807) : IntKind.wrap .i64 n = n := by
 rw [IntKind.wrap_i64]; omega
theorem wrapS {k : Nat} (h : k < 9223372036854775807) : IntKind.wrap .i64 ((k : Int) + 1) = ((k + 1 : Nat) : Int) := by
 rw [wrapI (by omega) (by omega)]; rfl
theorem dropG {α : Type} {l : List α} {k : Nat} (h : k < l.length) : ∃ d, l[k]? = some d ∧ l.drop k = d :: l.drop (k + 1) :=
 ⟨l[k], List.getElem?_eq_getElem h, List.drop_eq_getElem_cons h⟩
theorem mixedP : Tryz.prog.follows .mixedOrders = true := by kernel_rfl
theorem sd {p : Prop} (h : p := by (first | omega | exact True.intro | (simp only [go_sem, List.length_map, List.length_cons, List.length_nil, List.length_append, List.length_replicate, List.length_drop, List.length_take, List.length_set, Nat.reduceAdd, Nat.reduceMul, true_and, and_true]; omega) | (refine And.intro ?_ ?_ <;> first | omega | exact True.intro | (simp only [List.length_map, List.length_cons, List.length_nil, List.length_append, List.length_replicate, List.length_drop, List.length_take, List.length_set]; omega)))) : p := h
theorem cx {p : Prop} (h : p := by simp only [go_sem, Bool.and_self, Bool.and_true]) : p := h
theorem yl {p : Prop} (h : p := by first | exact Nat.zero_le _ | (simp only [go_sem, List.length_cons, List.length_nil, Nat.reduceAdd, Nat.reduceLeDiff]; done) | (simp only [go_sem]; omega)) : p := h
theorem okq {A} {B} {C} {F : List Fo} (h : okA A B C F = true := by kernel_rfl) : okA A B C F = true := h
def lcGo : LC → Bool
 | .draw _ _ => false
 | .loop _ => false
 | _ => true
theorem MX_okL [DSt] {P : Program} {k : Nat} {l : LC} {Q : Exit → List AV → List AO → Prop} {g : List AV} {H : List AO} (_ : lcGo l = true) (h : MX P k l Q g H) : MW P k l Q g H := MX_ok h
theorem kp {k : Nat} {g H g2 H2} (σ : List Src) (hn : (σ.filterMap oldId).Nodup := by decide) (ho : Obs H σ (fun id => gone σ H2 id = true) σ H2 := by all_goals (repeat' (first | exact trivial | refine And.intro ?_ ?_ | exact ⟨rfl, rfl⟩ | exact Sg.any | ((first | refine ⟨_, rfl, ?_⟩ | refine ⟨_, .inl ⟨rfl, rfl⟩, ?_⟩ | refine ⟨_, .inr rfl, ?_⟩ | refine Sg.of ?_); (repeat' (first | ((first | refine Sv.cl (Cl.of ?_) | refine Svs.cl (Cls.of ?_)); simp only [go_sem, Bool.and_self, Bool.and_true]; done) | exact Sv.pt rfl | exact Sv.mp rfl | exact Sv.nil rfl | exact Sv.em rfl | (refine Sv.slE rfl ?_ ?_ <;> (first | rfl | omega | (simp only [*]; done) | (simp only [go_sem, *]; done) | (simp [*]; done) | (simp [*]; omega))) | ((first | refine Sv.eq ?_ ?_ | refine Svs.eq ?_ ?_) <;> (first | rfl | omega | (simp only [*]; done) | (simp only [go_sem, *]; done) | (simp [*]; done) | (simp [*]; omega))) | exact Sv.nil0 | exact Sv.em0 | exact Sv.sl0 | ((first | refine Sv.slFE (.inl ⟨rfl, rfl⟩) ?_ (Svs.eq ?_ ?_) | refine Sv.slFE (.inr rfl) ?_ (Svs.eq ?_ ?_)) <;> (first | rfl | omega | (simp only [*]; done) | (simp only [go_sem, *]; done) | (simp [*]; done) | (simp [*]; omega))) | exact Svs.nilI | refine Svs.consI ?_ ?_ | refine Sv.tu ?_ | refine Sv.ag ?_ | refine Sv.fn ?_ ?_)); done) | rfl))) (hg : Sgs H σ (fun id => gone σ H2 id = true) g g2 := by all_goals (repeat' (first | exact trivial | refine And.intro ?_ ?_ | exact ⟨rfl, rfl⟩ | exact Sg.any | ((first | refine ⟨_, rfl, ?_⟩ | refine ⟨_, .inl ⟨rfl, rfl⟩, ?_⟩ | refine ⟨_, .inr rfl, ?_⟩ | refine Sg.of ?_); (repeat' (first | ((first | refine Sv.cl (Cl.of ?_) | refine Svs.cl (Cls.of ?_)); simp only [go_sem, Bool.and_self, Bool.and_true]; done) | exact Sv.pt rfl | exact Sv.mp rfl | exact Sv.nil rfl | exact Sv.em rfl | (refine Sv.slE rfl ?_ ?_ <;> (first | rfl | omega | (simp only [*]; done) | (simp only [go_sem, *]; done) | (simp [*]; done) | (simp [*]; omega))) | ((first | refine Sv.eq ?_ ?_ | refine Svs.eq ?_ ?_) <;> (first | rfl | omega | (simp only [*]; done) | (simp only [go_sem, *]; done) | (simp [*]; done) | (simp [*]; omega))) | exact Sv.nil0 | exact Sv.em0 | exact Sv.sl0 | ((first | refine Sv.slFE (.inl ⟨rfl, rfl⟩) ?_ (Svs.eq ?_ ?_) | refine Sv.slFE (.inr rfl) ?_ (Svs.eq ?_ ?_)) <;> (first | rfl | omega | (simp only [*]; done) | (simp only [go_sem, *]; done) | (simp [*]; done) | (simp [*]; omega))) | exact Svs.nilI | refine Svs.consI ?_ ?_ | refine Sv.tu ?_ | refine Sv.ag ?_ | refine Sv.fn ?_ ?_)); done) | rfl))) (hk : ∀ i, i < k → σ[i]? = some (.old i) := by decide) : VS k g H g2 H2 := VS_of σ hn ho hg hk
theorem lf {P : Program} {K os dst g} {H : List AO} {n k : Nat} {args args1 : List AV} {Hi Hr : List AO} {r : AV} (h : AFn P n k args1 Hi (fun v Ho => v = r ∧ Ho = Hr)) (ids : List Nat)
 (hR : LOps P K os (put g dst (r.ren (tau ids k H.length))) (upd (tau ids k H.length) k ids Hr H ++ (Hr.drop k).map (·.ren (tau ids k H.length))))
 (hnd : ids.Nodup := by decide) (hin : ∀ id ∈ ids, id < H.length := by simp) (hk : k ≤ ids.length := by decide)
 (ho : Obs H (ids.map .old) (fun _ => False) (ids.map .old) Hi := by (repeat' (first | exact trivial | refine And.intro ?_ ?_ | exact ⟨rfl, rfl⟩ | ((first | refine ⟨_, rfl, ?_⟩ | refine ⟨_, .inl ⟨rfl, rfl⟩, ?_⟩ | refine ⟨_, .inr rfl, ?_⟩); (repeat' (first | ((first | refine Sv.cl (Cl.of ?_) | refine Svs.cl (Cls.of ?_)); simp only [go_sem, Bool.and_self, Bool.and_true]; done) | exact Sv.pt rfl | exact Sv.mp rfl | exact Sv.nil rfl | exact Sv.em rfl | (refine Sv.slE rfl ?_ ?_ <;> (first | rfl | omega | (simp only [*]; done) | (simp only [go_sem, *]; done) | (simp [*]; done) | (simp [*]; omega))) | ((first | refine Sv.eq ?_ ?_ | refine Svs.eq ?_ ?_) <;> (first | rfl | omega | (simp only [*]; done) | (simp only [go_sem, *]; done) | (simp [*]; done) | (simp [*]; omega))) | exact Sv.nil0 | exact Sv.em0 | exact Sv.sl0 | ((first | refine Sv.slFE (.inl ⟨rfl, rfl⟩) ?_ (Svs.eq ?_ ?_) | refine Sv.slFE (.inr rfl) ?_ (Svs.eq ?_ ?_)) <;> (first | rfl | omega | (simp only [*]; done) | (simp only [go_sem, *]; done) | (simp [*]; done) | (simp [*]; omega))) | exact Svs.nilI | refine Svs.consI ?_ ?_ | refine Sv.tu ?_ | refine Sv.ag ?_ | refine Sv.fn ?_ ?_)); done) | rfl)))
 (ha : Svs H (ids.map .old) (fun _ => False) args args1 := by (repeat' (first | ((first | refine Sv.cl (Cl.of ?_) | refine Svs.cl (Cls.of ?_)); simp only [go_sem, Bool.and_self, Bool.and_true]; done) | exact Sv.pt rfl | exact Sv.mp rfl | exact Sv.nil rfl | exact Sv.em rfl | (refine Sv.slE rfl ?_ ?_ <;> (first | rfl | omega | (simp only [*]; done) | (simp only [go_sem, *]; done) | (simp [*]; done) | (simp [*]; omega))) | ((first | refine Sv.eq ?_ ?_ | refine Svs.eq ?_ ?_) <;> (first | rfl | omega | (simp only [*]; done) | (simp only [go_sem, *]; done) | (simp [*]; done) | (simp [*]; omega))) | exact Sv.nil0 | exact Sv.em0 | exact Sv.sl0 | ((first | refine Sv.slFE (.inl ⟨rfl, rfl⟩) ?_ (Svs.eq ?_ ?_) | refine Sv.slFE (.inr rfl) ?_ (Svs.eq ?_ ?_)) <;> (first | rfl | omega | (simp only [*]; done) | (simp only [go_sem, *]; done) | (simp [*]; done) | (simp [*]; omega))) | exact Svs.nilI | refine Svs.consI ?_ ?_ | refine Sv.tu ?_ | refine Sv.ag ?_ | refine Sv.fn ?_ ?_))) : LCall P K os dst g H n args := LCall_fn h ids hnd hin hk ho ha (by rintro _ _ ⟨rfl, rfl⟩; exact hR)
def ints (l : List Int) : List AV := l.map fun x => .v (.int .i64 x)
theorem ints_nil : ints [] = [] := rfl
theorem ints_clb (l : List Int) : clbs (ints l) = true := by rw [clbs_eq]; simp only [ints, List.all_map, Function.comp_def, go_sem, List.all_eq_true, implies_true]
theorem ints_one (l : List Int) : (ints l).all (·.one) = true := by simp only [ints, List.all_map, Function.comp_def, go_sem, List.all_eq_true, implies_true]
theorem ints_len (l : List Int) : (ints l).length = l.length := by simp [ints]
theorem ints_take (l : List Int) : (ints l).take l.length = ints l := List.take_of_length_le (by simp [ints])
theorem ints_snoc (l : List Int) (x : Int) : ints l ++ [.v (.int .i64 x)] = ints (l ++ [x]) := by simp [ints]
theorem ints_get {l : List Int} {i : Nat} {x : Int} (h : l[i]? = some x) : (ints l)[i]? = some (.v (.int .i64 x)) := by simp [ints, h]
theorem ints_drop {l : List Int} {i : Nat} {x : Int} (h : l[i]? = some x) : (ints l).drop i = .v (.int .i64 x) :: ints (l.drop (i + 1)) := by
 unfold ints
 obtain ⟨hi, e⟩ := List.getElem?_eq_some_iff.1 h
 rw [← List.map_drop, List.drop_eq_getElem_cons hi, e]; rfl
theorem ints_set (l : List Int) (i : Nat) (x : Int) (h : i < l.length) : (ints l).take i ++ [.v (.int .i64 x)] ++ (ints l).drop (i + 1) = ints (l.set i x) := by
 unfold ints
 rw [List.map_set, List.set_eq_take_append_cons_drop, if_pos (by simpa using h)]
 simp
attribute [go_sem] ints_nil ints_clb ints_one ints_len ints_take
def rows (l : List (List Int)) : List AV := l.map fun r => .im r.length (ints r)
theorem rows_nil : rows [] = [] := rfl
theorem rows_clb (l : List (List Int)) : clbs (rows l) = true := by rw [clbs_eq]; simp only [rows, List.all_map, Function.comp_def, go_sem, List.all_eq_true, implies_true]
theorem rows_one (l : List (List Int)) : (rows l).all (·.one) = true := by simp only [rows, List.all_map, Function.comp_def, go_sem, List.all_eq_true, implies_true]
theorem rows_len (l : List (List Int)) : (rows l).length = l.length := by simp [rows]
theorem rows_take (l : List (List Int)) : (rows l).take l.length = rows l := List.take_of_length_le (by simp [rows])
theorem rows_drop {l : List (List Int)} {i : Nat} {r : (List Int)} (h : l[i]? = some r) : (rows l).drop i = .im r.length (ints r) :: rows (l.drop (i + 1)) := by
 unfold rows
 obtain ⟨hi, e⟩ := List.getElem?_eq_some_iff.1 h
 rw [← List.map_drop, List.drop_eq_getElem_cons hi, e]; rfl
attribute [go_sem] rows_nil rows_clb rows_one rows_len rows_take
def bls (l : List Bool) : List AV := l.map fun b => .v (.bool b)
theorem bls_nil : bls [] = [] := rfl
theorem bls_clb (l : List Bool) : clbs (bls l) = true := by rw [clbs_eq]; simp only [bls, List.all_map, Function.comp_def, go_sem, List.all_eq_true, implies_true]
theorem bls_one (l : List Bool) : (bls l).all (·.one) = true := by simp only [bls, List.all_map, Function.comp_def, go_sem, List.all_eq_true, implies_true]
theorem bls_len (l : List Bool) : (bls l).length = l.length := by simp [bls]
theorem bls_take (l : List Bool) : (bls l).take l.length = bls l := List.take_of_length_le (by simp [bls])
theorem bls_drop {l : List Bool} {i : Nat} {b : Bool} (h : l[i]? = some b) : (bls l).drop i = .v (.bool b) :: bls (l.drop (i + 1)) := by
 unfold bls
 obtain ⟨hi, e⟩ := List.getElem?_eq_some_iff.1 h
 rw [← List.map_drop, List.drop_eq_getElem_cons hi, e]; rfl
attribute [go_sem] bls_nil bls_clb bls_one bls_len bls_take
def chsC (c : Ch) : List AV := [.v (.int .i64 c.k), .v (.int .i64 c.a), .v (.int .i64 c.c)]
def chs (l : List Ch) : List AV := l.flatMap chsC
theorem chs_nil : chs [] = [] := rfl
theorem chs_clb (l : List Ch) : clbs (chs l) = true := by
 induction l with
 | nil => rfl
 | cons a l ih =>
  rw [clbs_eq] at ih ⊢
  simp only [chs, List.flatMap_cons, List.all_append] at ih ⊢
  rw [ih, Bool.and_true, ← clbs_eq]
  simp only [chsC, go_sem, Bool.and_self, Bool.and_true]
theorem chs_one (l : List Ch) : (chs l).all (·.one) = true := by
 induction l with
 | nil => rfl
 | cons a l ih => simp only [chs, List.flatMap_cons, List.all_append] at ih ⊢; rw [ih]; rfl
theorem chs_len (l : List Ch) : (chs l).length = l.length * 3 := by
 induction l with
 | nil => rfl
 | cons a l ih => simp only [chs, List.flatMap_cons, List.length_append, List.length_cons] at ih ⊢; rw [ih, show (chsC a).length = 3 from rfl]; omega
theorem chs_take (l : List Ch) : (chs l).take (l.length * 3) = chs l := List.take_of_length_le (by rw [chs_len]; exact Nat.le_refl _)
theorem chs_snoc (l : List Ch) (c : Ch) : chs l ++ [.v (.int .i64 c.k), .v (.int .i64 c.a), .v (.int .i64 c.c)] = chs (l ++ [c]) := by simp [chs, chsC]
theorem chs_drop {l : List Ch} {i : Nat} {c : Ch} (h : l[i]? = some c) : (chs l).drop (i * 3) = [.v (.int .i64 c.k), .v (.int .i64 c.a), .v (.int .i64 c.c)] ++ chs (l.drop (i + 1)) := by
 induction l generalizing i with
 | nil => simp at h
 | cons a l ih =>
  cases i with
  | zero => simp at h; subst h; simp [chs, chsC]
  | succ i =>
   simp at h
   have e : chs (a :: l) = chsC a ++ chs l := rfl
   rw [e, Nat.succ_mul, Nat.add_comm, ← List.drop_drop, show (chsC a ++ chs l).drop 3 = chs l from by simp [chsC], ih h]
   simp
attribute [go_sem] chs_nil chs_clb chs_one chs_len chs_take
def lls (l : List (List Ch)) : List AV := l.map fun x => .im x.length (chs x)
theorem lls_nil : lls [] = [] := rfl
theorem lls_clb (l : List (List Ch)) : clbs (lls l) = true := by rw [clbs_eq]; simp only [lls, List.all_map, Function.comp_def, go_sem, List.all_eq_true, implies_true]
theorem lls_one (l : List (List Ch)) : (lls l).all (·.one) = true := by simp only [lls, List.all_map, Function.comp_def, go_sem, List.all_eq_true, implies_true]
theorem lls_len (l : List (List Ch)) : (lls l).length = l.length := by simp [lls]
theorem lls_take (l : List (List Ch)) : (lls l).take l.length = lls l := List.take_of_length_le (by simp [lls])
theorem lls_snoc (l : List (List Ch)) (x : (List Ch)) : lls l ++ [.im x.length (chs x)] = lls (l ++ [x]) := by simp [lls]
theorem lls_app (l l2 : List (List Ch)) : lls l ++ lls l2 = lls (l ++ l2) := by simp [lls]
theorem lls_drop {l : List (List Ch)} {i : Nat} {x : (List Ch)} (h : l[i]? = some x) : (lls l).drop i = .im x.length (chs x) :: lls (l.drop (i + 1)) := by
 unfold lls
 obtain ⟨hi, e⟩ := List.getElem?_eq_some_iff.1 h
 rw [← List.map_drop, List.drop_eq_getElem_cons hi, e]; rfl
attribute [go_sem] lls_nil lls_clb lls_one lls_len lls_take
def aV (L S : Int) (N : List (List Int)) (A : List Bool) : AV := .ag [.v (.int .i64 L), .v (.int .i64 S), .im N.length (rows N), .im A.length (bls A)]
theorem aV_clb (L S : Int) (N : List (List Int)) (A : List Bool) : (aV L S N A).clb = true := by
 simp only [aV, go_sem, Bool.and_self, Bool.and_true]
attribute [go_sem] aV_clb
theorem step44 (L S : Int) (N : List (List Int)) (A : List Bool) (q c : Nat) {r : List Int} {x : Int} (hr : N[q]? = some r) (hx : r[c]? = some x) : APure Tryz.prog 44 [aV L S N A, .v (.int .i64 q), .v (.int .i64 c)] (.v (.int .i64 x)) := by
 refine callp44 ?_
 have h1 : (q : Int) < N.length := by have := (List.getElem?_eq_some_iff.1 hr).1; omega
 have h2 : (c : Int) < r.length := by have := (List.getElem?_eq_some_iff.1 hx).1; omega
 simp only [go_sem, seval, L44, aV, rows_drop hr, ints_drop hx, Int.toNat_natCast, h1, h2]
 repeat' (first | ((first | refine MX_okL rfl ?_ | refine LNext_if sd ?_ | refine ZNext_if sd ?_ | refine ZY_if sd ?_ | refine And.intro okq ?_); (try simp only [go_sem, seval, rows_drop hr, ints_drop hx, Int.toNat_natCast, h1, h2])) | (refine And.intro ?_ ?_))
 exact Fin_of ⟨rfl, rfl⟩ (kp [])
theorem compare46 (a b : Int) : APure Tryz.prog 46 [.v (.int .i64 a), .v (.int .i64 b)] (.v (.int .i64 (if a < b then -1 else if b < a then 1 else 0))) := by
 refine callp46 ?_
 by_cases h1 : a < b
 ·simp only [go_sem, seval, L46, h1]
  repeat' (first | ((first | refine MX_okL rfl ?_ | refine LNext_if sd ?_ | refine ZNext_if sd ?_ | refine ZY_if sd ?_ | refine And.intro okq ?_); (try simp only [go_sem, seval, h1])) | (refine And.intro ?_ ?_))
  exact Fin_of ⟨rfl, rfl⟩ (kp [])
 ·by_cases h2 : b < a
  ·simp only [go_sem, seval, L46, h1, h2]
   repeat' (first | ((first | refine MX_okL rfl ?_ | refine LNext_if sd ?_ | refine ZNext_if sd ?_ | refine ZY_if sd ?_ | refine And.intro okq ?_); (try simp only [go_sem, seval, h1, h2])) | (refine And.intro ?_ ?_))
   exact Fin_of ⟨rfl, rfl⟩ (kp [])
  ·simp only [go_sem, seval, L46, h1, h2]
   repeat' (first | ((first | refine MX_okL rfl ?_ | refine LNext_if sd ?_ | refine ZNext_if sd ?_ | refine ZY_if sd ?_ | refine And.intro okq ?_); (try simp only [go_sem, seval, h1, h2])) | (refine And.intro ?_ ?_))
   exact Fin_of ⟨rfl, rfl⟩ (kp [])
theorem clone7 (l : List Int) (hl : l.length ≤ 1000000) : APure Tryz.prog 7 [.im l.length (ints l)] (.im l.length (ints l)) := by
 refine callp7 ?_
 simp only [go_sem, seval, L7]
 repeat' (first | ((first | refine MX_okL rfl ?_ | refine LNext_if sd ?_ | refine ZNext_if sd ?_ | refine ZY_if sd ?_ | refine And.intro okq ?_); (try simp only [go_sem, seval])) | (refine And.intro ?_ ?_))
 ·intro h
  obtain rfl : l = [] := List.eq_nil_of_length_eq_zero (by omega)
  exact Fin_of ⟨rfl, rfl⟩ (kp [])
 ·exact Fin_of ⟨rfl, rfl⟩ (kp [])
theorem clone73 (l : List Ch) (hl : l.length ≤ 1000000) : APure Tryz.prog 73 [.im l.length (chs l)] (.im l.length (chs l)) := by
 refine callp73 ?_
 simp only [go_sem, seval, L73]
 repeat' (first | ((first | refine MX_okL rfl ?_ | refine LNext_if sd ?_ | refine ZNext_if sd ?_ | refine ZY_if sd ?_ | refine And.intro okq ?_); (try simp only [go_sem, seval])) | (refine And.intro ?_ ?_))
 ·intro h
  obtain rfl : l = [] := List.eq_nil_of_length_eq_zero (by omega)
  exact Fin_of ⟨rfl, rfl⟩ (kp [])
 ·exact Fin_of ⟨rfl, rfl⟩ (kp [])
theorem bls_at {A : List Bool} {q : Nat} (h : q < A.length) : ∃ b, A[q]? = some b ∧ acc A (q : Int) = b := by
 refine ⟨A[q], List.getElem?_eq_getElem h, ?_⟩
 simp [acc, List.getD_eq_getElem?_getD, List.getElem?_eq_getElem h]
theorem ends27 (L S : Int) (N : List (List Int)) (A : List Bool) (s : Int) (hs : s < A.length) : APure Tryz.prog 27 [aV L S N A, .v (.int .i64 s)] (.v (.bool (acc A s))) := by
 refine callp27 ?_
 by_cases h0 : 0 ≤ s
 ·obtain ⟨q, rfl⟩ : ∃ q : Nat, s = q := ⟨s.toNat, by omega⟩
  obtain ⟨b, hb, e⟩ := bls_at (A := A) (q := q) (by omega)
  rw [e]
  simp only [go_sem, seval, L27, aV, h0, bls_drop hb, Int.toNat_natCast, ge_iff_le]
  repeat' (first | ((first | refine MX_okL rfl ?_ | refine LNext_if sd ?_ | refine ZNext_if sd ?_ | refine ZY_if sd ?_ | refine And.intro okq ?_); (try simp only [go_sem, seval, h0, bls_drop hb, Int.toNat_natCast, ge_iff_le])) | (refine And.intro ?_ ?_))
  exact Fin_of ⟨rfl, rfl⟩ (kp [])
 ·have e : acc A s = false := by unfold acc; rw [decide_eq_false h0]; rfl
  rw [e]
  simp only [go_sem, seval, L27, aV, h0, ge_iff_le]
  repeat' (first | ((first | refine MX_okL rfl ?_ | refine LNext_if sd ?_ | refine ZNext_if sd ?_ | refine ZY_if sd ?_ | refine And.intro okq ?_); (try simp only [go_sem, seval, h0, ge_iff_le])) | (refine And.intro ?_ ?_))
  exact Fin_of ⟨rfl, rfl⟩ (kp [])
def nextF (L : Int) (N : List (List Int)) (s c : Int) : Int := if s < 0 ∨ c < 0 ∨ L ≤ c then -1 else (N.getD s.toNat []).getD c.toNat (-1)
theorem next47 (L S : Int) (N : List (List Int)) (A : List Bool) (s c : Int) (hs : s < N.length) (hr : ∀ r ∈ N, (r.length : Int) = L) : APure Tryz.prog 47 [aV L S N A, .v (.int .i64 s), .v (.int .i64 c)] (.v (.int .i64 (nextF L N s c))) := by
 refine callp47 ?_
 by_cases h1 : s < 0
 ·have e : nextF L N s c = -1 := by unfold nextF; rw [if_pos (.inl h1)]
  rw [e]
  simp only [go_sem, seval, L47, aV, h1]
  repeat' (first | ((first | refine MX_okL rfl ?_ | refine LNext_if sd ?_ | refine ZNext_if sd ?_ | refine ZY_if sd ?_ | refine And.intro okq ?_); (try simp only [go_sem, seval, h1])) | (refine And.intro ?_ ?_))
  exact Fin_of ⟨rfl, rfl⟩ (kp [])
 ·by_cases h2 : c < 0
  ·have e : nextF L N s c = -1 := by unfold nextF; rw [if_pos (.inr (.inl h2))]
   rw [e]
   simp only [go_sem, seval, L47, aV, h1, h2]
   repeat' (first | ((first | refine MX_okL rfl ?_ | refine LNext_if sd ?_ | refine ZNext_if sd ?_ | refine ZY_if sd ?_ | refine And.intro okq ?_); (try simp only [go_sem, seval, h1, h2])) | (refine And.intro ?_ ?_))
   exact Fin_of ⟨rfl, rfl⟩ (kp [])
  ·by_cases h3 : L ≤ c
   ·have e : nextF L N s c = -1 := by unfold nextF; rw [if_pos (.inr (.inr h3))]
    rw [e]
    simp only [go_sem, seval, L47, aV, h1, h2, h3, ge_iff_le]
    repeat' (first | ((first | refine MX_okL rfl ?_ | refine LNext_if sd ?_ | refine ZNext_if sd ?_ | refine ZY_if sd ?_ | refine And.intro okq ?_); (try simp only [go_sem, seval, h1, h2, h3, ge_iff_le])) | (refine And.intro ?_ ?_))
    exact Fin_of ⟨rfl, rfl⟩ (kp [])
   ·obtain ⟨q, rfl⟩ : ∃ q : Nat, s = q := ⟨s.toNat, by omega⟩
    obtain ⟨k, rfl⟩ : ∃ k : Nat, c = k := ⟨c.toNat, by omega⟩
    obtain ⟨r, hq, _⟩ := dropG (l := N) (k := q) (by omega)
    have hl := hr r (List.mem_of_getElem? hq)
    obtain ⟨x, hx, _⟩ := dropG (l := r) (k := k) (by omega)
    have e : nextF L N (q : Int) (k : Int) = x := by
     unfold nextF
     rw [if_neg (by omega)]
     simp [List.getD_eq_getElem?_getD, hq, hx]
    rw [e]
    have g1 : (q : Int) < N.length := by omega
    have g2 : (k : Int) < r.length := by omega
    simp only [go_sem, seval, L47, aV, h1, h2, h3, ge_iff_le, rows_drop hq, ints_drop hx, Int.toNat_natCast, g1, g2]
    repeat' (first | ((first | refine MX_okL rfl ?_ | refine LNext_if sd ?_ | refine ZNext_if sd ?_ | refine ZY_if sd ?_ | refine And.intro okq ?_); (try simp only [go_sem, seval, h1, h2, h3, ge_iff_le, rows_drop hq, ints_drop hx, Int.toNat_natCast, g1, g2])) | (refine And.intro ?_ ?_))
    exact Fin_of ⟨rfl, rfl⟩ (kp [])
end Go.Proofs.YtcjckmnhlfbdlaaGreatDoor
