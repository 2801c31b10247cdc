/- Part 39 of the texts that lead to repairNearestCard_holds. No condition. -/
import Derived.Test.YtcjckmnhlfbdlaaGreatDoorH15
import Derived.Test.YtcjckmnhlfbdlaaGreatDoorH17
import Derived.Test.YtcjckmnhlfbdlaaGreatDoorH38
set_option linter.all false
namespace Go.Ne
open Go Go.Rep
def vAt (r : List Int) (s : Nat) : Int := r.getD s 0
def nx (N : List (List Int)) (q c : Nat) : Int := (N.getD q []).getD c (-1)
def Tab (N : List (List Int)) : Prop := ∀ q c, q < N.length → c < 4 → -1 ≤ nx N q c ∧ nx N q c < N.length
inductive Path (N : List (List Int)) : Nat → Nat → Nat → Prop
  | nil (s : Nat) : Path N s s 0
  | cons {s t s' k : Nat} (c : Nat) (hc : c < 4) (h : nx N s c = (t : Int)) (p : Path N t s' k) : Path N s s' (k + 1)
theorem Path.lt {N : List (List Int)} (hN : Tab N) {s s' k : Nat} (p : Path N s s' k) (hs : s < N.length) : s' < N.length := by
 induction p with
 | nil s => exact hs
 | cons c hc h p ih =>
  have := hN _ c hs hc
  exact ih (by omega)
structure Ins (N : List (List Int)) (w : Int) (b r : List Int) : Prop where
  len : r.length = b.length
  le : ∀ s, s < b.length → vAt r s ≤ vAt b s
  cl : ∀ s t c : Nat, s < b.length → c < 4 → nx N s c = (t : Int) → vAt r s ≤ vAt r t + w
  re : ∀ s, s < b.length → ∃ k s', Path N s s' k ∧ vAt r s = vAt b s' + w * k
theorem Ins.path {N : List (List Int)} {w : Int} {b r : List Int} (hN : Tab N) (hb : b.length = N.length) (h : Ins N w b r) {s s' k : Nat} (p : Path N s s' k) (hs : s < N.length) : vAt r s ≤ vAt r s' + w * k := by
 induction p with
 | nil s => simp
 | @cons s t s' k c hc e p ih =>
  have h1 := hN _ c hs hc
  have h2 := h.cl _ t c (by omega) hc e
  have h3 := ih (by omega)
  have : w * ((k + 1 : Nat) : Int) = w * k + w := by rw [Int.natCast_add, Int.mul_add]; simp
  omega
theorem vAt_ext {r r' : List Int} (hl : r.length = r'.length) (h : ∀ s, s < r.length → vAt r s = vAt r' s) : r = r' := by
 apply List.ext_getElem hl
 intro i h1 h2
 have := h i h1
 simpa [vAt, List.getD_eq_getElem?_getD, List.getElem?_eq_getElem h1, List.getElem?_eq_getElem h2] using this
theorem Ins.unique {N : List (List Int)} {w : Int} {b r r' : List Int} (hN : Tab N) (hb : b.length = N.length) (h : Ins N w b r) (h' : Ins N w b r') : r = r' := by
 have key : ∀ {r r' : List Int}, Ins N w b r → Ins N w b r' → ∀ s, s < b.length → vAt r s ≤ vAt r' s := fun h h' s hs => by
  obtain ⟨k, s', p, e⟩ := h'.re s hs
  have h1 := h.path hN hb p (by omega)
  have h2 := h.le s' (by have := p.lt hN (by omega); omega)
  omega
 refine vAt_ext (by rw [h.len, h'.len]) fun s hs => ?_
 have h1 := key h h' s (by rw [← h.len]; exact hs)
 have h2 := key h' h s (by rw [← h.len]; exact hs)
 omega
def base (A : List Bool) : List Int := A.map fun x => if x then 0 else 9
def fl (c : Nat) : Nat := c ^^^ 1
theorem fl_lt {c : Nat} (h : c < 4) : fl c < 4 := by
 match c, h with
 | 0, _ | 1, _ | 2, _ | 3, _ => decide
def ahd1 (N : List (List Int)) (c : Nat) (v : List Int) (s : Nat) : Int :=
 let x0 := min (vAt v s + 2) 9
 let x1 := if nx N s c ≥ 0 then min x0 (vAt v (nx N s c).toNat) else x0
 if nx N s (fl c) ≥ 0 then min x1 (vAt v (nx N s (fl c)).toNat + 1) else x1
def ahd (N : List (List Int)) (c : Nat) (v : List Int) : List Int := (List.range v.length).map (ahd1 N c v)
theorem ahd_len (N : List (List Int)) (c : Nat) (v : List Int) : (ahd N c v).length = v.length := by simp [ahd]
theorem ahd_at {N : List (List Int)} {c : Nat} {v : List Int} {s : Nat} (h : s < v.length) : vAt (ahd N c v) s = ahd1 N c v s := by
 simp [ahd, vAt, List.getD_eq_getElem?_getD, h]
theorem base_len (A : List Bool) : (base A).length = A.length := by simp [base]
theorem base_at {A : List Bool} {s : Nat} (h : s < A.length) : vAt (base A) s = if A.getD s false then 0 else 9 := by
 simp [base, vAt, List.getD_eq_getElem?_getD, h]
def IsRow (N : List (List Int)) (A : List Bool) : List Nat → List Int → Prop
 | [], r => Ins N 2 (base A) r
 | c :: cs, r => ∃ v, IsRow N A cs v ∧ Ins N 2 (ahd N c v) r
theorem IsRow.len {N : List (List Int)} {A : List Bool} : ∀ {cs : List Nat} {r : List Int}, IsRow N A cs r → r.length = A.length
 | [], r, h => by rw [Ins.len h, base_len]
 | c :: cs, r, ⟨v, h1, h2⟩ => by rw [h2.len, ahd_len, h1.len]
theorem IsRow.unique {N : List (List Int)} {A : List Bool} (hN : Tab N) (hA : A.length = N.length) : ∀ {cs : List Nat} {r r' : List Int}, IsRow N A cs r → IsRow N A cs r' → r = r'
 | [], r, r', h, h' => Ins.unique hN (by rw [base_len]; exact hA) h h'
 | c :: cs, r, r', ⟨v, h1, h2⟩, ⟨v', h1', h2'⟩ => by
  obtain rfl := IsRow.unique hN hA h1 h1'
  exact Ins.unique hN (by rw [ahd_len, h1.len]; exact hA) h2 h2'
noncomputable def rowOf (N : List (List Int)) (A : List Bool) (cs : List Nat) : List Int := by
 classical exact if h : ∃ r, IsRow N A cs r then h.choose else []
theorem rowOf_eq {N : List (List Int)} {A : List Bool} (hN : Tab N) (hA : A.length = N.length) {cs : List Nat} {r : List Int} (h : IsRow N A cs r) : rowOf N A cs = r := by
 unfold rowOf
 have hex : ∃ r, IsRow N A cs r := ⟨r, h⟩
 rw [dif_pos hex]
 exact IsRow.unique hN hA hex.choose_spec h
theorem isRow_dist {N : List (List Int)} {A : List Bool} (hN : Tab N) (hA : A.length = N.length) {d : List Int} (h : Ins N 1 (base A) d) : IsRow N A [] (d.map fun x => min (2 * x) 9) := by
 have hl := h.len
 rw [base_len] at hl
 have at2 : ∀ s, s < A.length → vAt (d.map fun x => min (2 * x) 9) s = min (2 * vAt d s) 9 := fun s hs => by
  have hd : s < d.length := by omega
  simp [vAt, List.getD_eq_getElem?_getD, hd]
 have b0 : ∀ s, s < A.length → vAt (base A) s = 0 ∨ vAt (base A) s = 9 := fun s hs => by
  rw [base_at hs]; split <;> simp
 have dn : ∀ s, s < A.length → 0 ≤ vAt d s := fun s hs => by
  obtain ⟨k, s', p, e⟩ := h.re s (by rw [base_len]; exact hs)
  have := b0 s' (by have := p.lt hN (by omega); omega)
  omega
 refine ⟨by simp [base_len, hl], fun s hs => ?_, fun s t c hs hc e => ?_, fun s hs => ?_⟩
 ·rw [base_len] at hs
  rw [at2 s hs]
  have h1 := h.le s (by rw [base_len]; exact hs)
  have h2 := dn s hs
  rcases b0 s hs with e | e <;> rw [e] at h1 ⊢ <;> omega
 ·rw [base_len] at hs
  have ht := hN s c (by omega) hc
  rw [at2 s hs, at2 t (by omega)]
  have h1 := h.cl s t c (by rw [base_len]; exact hs) hc e
  omega
 ·rw [base_len] at hs
  rw [at2 s hs]
  obtain ⟨k, s', p, e⟩ := h.re s (by rw [base_len]; exact hs)
  have hs' : s' < A.length := by have := p.lt hN (by omega); omega
  have h1 := h.le s (by rw [base_len]; exact hs)
  by_cases hk : vAt (base A) s' = 0 ∧ k ≤ 4
  ·exact ⟨k, s', p, by rw [e, hk.1]; omega⟩
  ·refine ⟨0, s, .nil s, ?_⟩
   rcases b0 s hs with e1 | e1
   ·have h2 := dn s hs
    have : vAt d s = 0 := by omega
    rw [e1, this]; rfl
   ·rw [e1]
    rcases b0 s' hs' with e2 | e2
    ·have : ¬ k ≤ 4 := fun q => hk ⟨e2, q⟩
     omega
    ·omega
end Go.Ne
namespace Go.Ne
open Go Go.Rep
theorem vAt_set {r : List Int} {s t : Nat} {x : Int} (hs : s < r.length) : vAt (r.set s x) t = if t = s then x else vAt r t := by
 unfold vAt
 rw [List.getD_eq_getElem?_getD, List.getElem?_set]
 by_cases h : s = t
 ·subst h; rw [if_pos rfl, if_pos hs, if_pos rfl]; rfl
 ·rw [if_neg h, if_neg (fun q => h q.symm), List.getD_eq_getElem?_getD]
structure Pre (N : List (List Int)) (w : Int) (b r : List Int) : Prop where
  len : r.length = b.length
  le : ∀ s, s < b.length → vAt r s ≤ vAt b s
  re : ∀ s, s < b.length → ∃ k s', Path N s s' k ∧ vAt r s = vAt b s' + w * k
theorem Pre.start (N : List (List Int)) (w : Int) (b : List Int) : Pre N w b b := ⟨rfl, fun _ _ => Int.le_refl _, fun s _ => ⟨0, s, .nil s, by simp⟩⟩
theorem Pre.relax {N : List (List Int)} {w : Int} {b r : List Int} (hN : Tab N) (hb : b.length = N.length) (h : Pre N w b r) {s t c : Nat} (hs : s < N.length) (hc : c < 4) (e : nx N s c = (t : Int)) (hlt : vAt r t + w < vAt r s) : Pre N w b (r.set s (vAt r t + w)) := by
 have hl := h.len
 have ht := hN s c hs hc
 refine ⟨by simp [hl], fun x hx => ?_, fun x hx => ?_⟩
 ·rw [vAt_set (by omega)]
  split
  ·rename_i q; subst q; have := h.le x hx; omega
  ·exact h.le x hx
 ·rw [vAt_set (by omega)]
  split
  ·rename_i q
   subst q
   obtain ⟨k, s', p, e'⟩ := h.re t (by omega)
   refine ⟨k + 1, s', .cons c hc e p, ?_⟩
   have : w * ((k + 1 : Nat) : Int) = w * k + w := by rw [Int.natCast_add, Int.mul_add]; simp
   omega
  ·exact h.re x hx
theorem Pre.ins {N : List (List Int)} {w : Int} {b r : List Int} (h : Pre N w b r) (hcl : ∀ s t c : Nat, s < b.length → c < 4 → nx N s c = (t : Int) → ¬ vAt r t + w < vAt r s) : Ins N w b r :=
 ⟨h.len, h.le, fun s t c hs hc e => by have := hcl s t c hs hc e; omega, h.re⟩
theorem Pre.nonneg {N : List (List Int)} {w : Int} {b r : List Int} (hN : Tab N) (hb : b.length = N.length) (hw : 0 ≤ w) (h0 : ∀ s, s < b.length → 0 ≤ vAt b s) (h : Pre N w b r) {s : Nat} (hs : s < b.length) : 0 ≤ vAt r s := by
 obtain ⟨k, s', p, e⟩ := h.re s hs
 have h1 := h0 s' (by have := p.lt hN (by omega); omega)
 have : 0 ≤ w * (k : Int) := Int.mul_nonneg hw (Int.natCast_nonneg _)
 omega
theorem Ins.pre {N : List (List Int)} {w : Int} {b r : List Int} (h : Ins N w b r) : Pre N w b r := ⟨h.len, h.le, h.re⟩
def meas (r : List Int) : Nat := (r.map Int.toNat).sum
theorem meas_set : ∀ {r : List Int} {s : Nat} {x : Int}, s < r.length → 0 ≤ x → x < vAt r s → meas (r.set s x) < meas r
 | a :: r, 0, x, _, h0, h => by
  simp only [vAt, List.getD_cons_zero] at h
  simp only [meas, List.set_cons_zero, List.map_cons, List.sum_cons]
  omega
 | a :: r, s + 1, x, hs, h0, h => by
  simp only [vAt, List.getD_cons_succ] at h
  have := meas_set (r := r) (s := s) (by simpa using hs) h0 h
  simp only [meas, List.set_cons_succ, List.map_cons, List.sum_cons] at this ⊢
  omega
theorem Ins.exist {N : List (List Int)} {w : Int} {b : List Int} (hN : Tab N) (hb : b.length = N.length) (hw : 0 ≤ w) (h0 : ∀ s, s < b.length → 0 ≤ vAt b s) : ∃ r, Ins N w b r := by
 have go : ∀ (n : Nat) (r : List Int), meas r ≤ n → Pre N w b r → ∃ r, Ins N w b r := by
  intro n
  induction n with
  | zero =>
   intro r hm hp
   refine ⟨r, hp.ins fun s t c hs hc e hlt => ?_⟩
   have h1 := hp.nonneg hN hb hw h0 hs
   have h2 := hp.nonneg hN hb hw h0 (s := t) (by have := hN s c (by omega) hc; omega)
   have := meas_set (r := r) (s := s) (x := 0) (by rw [hp.len]; exact hs) (by omega) (by omega)
   omega
  | succ n ih =>
   intro r hm hp
   by_cases hcl : ∀ s t c : Nat, s < b.length → c < 4 → nx N s c = (t : Int) → ¬ vAt r t + w < vAt r s
   ·exact ⟨r, hp.ins hcl⟩
   ·have : ∃ s t c : Nat, s < b.length ∧ c < 4 ∧ nx N s c = (t : Int) ∧ vAt r t + w < vAt r s := by
     apply Classical.byContradiction
     intro hh
     exact hcl fun s t c hs hc e hlt => hh ⟨s, t, c, hs, hc, e, hlt⟩
    obtain ⟨s, t, c, hs, hc, e, hlt⟩ := this
    have ht := hN s c (by omega) hc
    have h2 := hp.nonneg hN hb hw h0 (s := t) (by omega)
    have hm2 := meas_set (r := r) (s := s) (x := vAt r t + w) (by rw [hp.len]; exact hs) (by omega) hlt
    exact ih _ (by omega) (hp.relax hN hb (by omega) hc e hlt)
 exact go _ b (Nat.le_refl _) (Pre.start N w b)
structure Fit (N : List (List Int)) (A : List Bool) : Prop where
  tab : Tab N
  len : A.length = N.length
section
variable {N : List (List Int)} {A : List Bool}
theorem row_all (h : Fit N A) : ∀ cs : List Nat, (∀ c ∈ cs, c < 4) → IsRow N A cs (rowOf N A cs) ∧ ∀ s, s < N.length → 0 ≤ vAt (rowOf N A cs) s ∧ vAt (rowOf N A cs) s ≤ 9
 | [], _ => by
  have b0 : ∀ s, s < (base A).length → 0 ≤ vAt (base A) s ∧ vAt (base A) s ≤ 9 := fun s hs => by
   rw [base_len] at hs; rw [base_at hs]; split <;> simp
  obtain ⟨r, hr⟩ := Ins.exist (w := 2) h.tab (by rw [base_len]; exact h.len) (by decide) fun s hs => (b0 s hs).1
  have e := rowOf_eq h.tab h.len (cs := []) hr
  rw [e]
  refine ⟨hr, fun s hs => ⟨hr.pre.nonneg h.tab (by rw [base_len]; exact h.len) (by decide) (fun s hs => (b0 s hs).1) (by rw [base_len, h.len]; exact hs), ?_⟩⟩
  have h1 := hr.le s (by rw [base_len, h.len]; exact hs)
  have h2 := (b0 s (by rw [base_len, h.len]; exact hs)).2
  omega
 | c :: cs, hc => by
  obtain ⟨h1, h2⟩ := row_all h cs fun x hx => hc x (List.mem_cons_of_mem _ hx)
  have hc4 := hc c (List.mem_cons_self ..)
  generalize rowOf N A cs = v at h1 h2
  have hl : v.length = N.length := by rw [h1.len, h.len]
  have b0 : ∀ s, s < (ahd N c v).length → 0 ≤ vAt (ahd N c v) s ∧ vAt (ahd N c v) s ≤ 9 := fun s hs => by
   rw [ahd_len] at hs
   rw [ahd_at hs]
   unfold ahd1
   have q1 := h2 s (by omega)
   have q2 := h.tab s c (by omega) hc4
   have q3 := h.tab s (fl c) (by omega) (fl_lt hc4)
   dsimp only
   have p1 : nx N s c ≥ 0 → 0 ≤ vAt v (nx N s c).toNat := fun q => (h2 _ (by omega)).1
   have p2 : nx N s (fl c) ≥ 0 → 0 ≤ vAt v (nx N s (fl c)).toNat := fun q => (h2 _ (by omega)).1
   split <;> split
   ·rename_i a b; have := p1 b; have := p2 a; omega
   ·rename_i a b; have := p2 a; omega
   ·rename_i a b; have := p1 b; omega
   ·omega
  obtain ⟨r, hr⟩ := Ins.exist (w := 2) h.tab (by rw [ahd_len]; exact hl) (by decide) fun s hs => (b0 s hs).1
  have e := rowOf_eq h.tab h.len (cs := c :: cs) ⟨v, h1, hr⟩
  rw [e]
  refine ⟨⟨v, h1, hr⟩, fun s hs => ⟨hr.pre.nonneg h.tab (by rw [ahd_len]; exact hl) (by decide) (fun s hs => (b0 s hs).1) (by rw [ahd_len]; omega), ?_⟩⟩
  have h1 := hr.le s (by rw [ahd_len]; omega)
  have h2 := (b0 s (by rw [ahd_len]; omega)).2
  omega
noncomputable def W (N : List (List Int)) (A : List Bool) (cs : List Nat) (t : Int) : Int := if t < 0 then 9 else vAt (rowOf N A cs) t.toNat
theorem W_nat (cs : List Nat) (q : Nat) : W N A cs (q : Int) = vAt (rowOf N A cs) q := by
 unfold W; rw [if_neg (by omega)]; rfl
theorem W_bound (h : Fit N A) {cs : List Nat} (hc : ∀ c ∈ cs, c < 4) {t : Int} (ht : t < N.length) : 0 ≤ W N A cs t ∧ W N A cs t ≤ 9 := by
 unfold W
 split
 ·omega
 ·exact (row_all h cs hc).2 _ (by omega)
theorem row_ins (h : Fit N A) {cs : List Nat} (hc : ∀ c ∈ cs, c < 4) : ∃ b, b.length = N.length ∧ Ins N 2 b (rowOf N A cs) ∧ (match cs with
 | [] => b = base A
 | c :: cs' => b = ahd N c (rowOf N A cs')) := by
 have h1 := (row_all h cs hc).1
 cases cs with
 | nil => exact ⟨base A, by rw [base_len, h.len], h1, rfl⟩
 | cons c cs =>
  obtain ⟨v, h2, h3⟩ := h1
  have e := rowOf_eq h.tab h.len h2
  refine ⟨ahd N c v, by rw [ahd_len, h2.len, h.len], h3, ?_⟩
  show ahd N c v = ahd N c (rowOf N A cs)
  rw [e]
theorem W_cl (h : Fit N A) {cs : List Nat} (hc : ∀ c ∈ cs, c < 4) {q c : Nat} (hq : q < N.length) (h4 : c < 4) : W N A cs q ≤ W N A cs (nx N q c) + 2 := by
 obtain ⟨b, hb, hi, _⟩ := row_ins h hc
 have ht := h.tab q c hq h4
 have hbd := W_bound h hc (t := (q : Int)) (by omega)
 by_cases h0 : nx N q c < 0
 ·have : W N A cs (nx N q c) = 9 := by unfold W; rw [if_pos h0]
  omega
 ·obtain ⟨t, e⟩ : ∃ t : Nat, nx N q c = t := ⟨(nx N q c).toNat, by omega⟩
  rw [e, W_nat, W_nat]
  exact hi.cl q t c (by omega) h4 e
theorem W_cons_le (h : Fit N A) {c : Nat} {cs : List Nat} (hc : ∀ x ∈ c :: cs, x < 4) {q : Nat} (hq : q < N.length) :
 W N A (c :: cs) q ≤ W N A cs q + 2 ∧ W N A (c :: cs) q ≤ W N A cs (nx N q c) ∧ W N A (c :: cs) q ≤ W N A cs (nx N q (fl c)) + 1 := by
 have hc4 := hc c (List.mem_cons_self ..)
 have hc' : ∀ x ∈ cs, x < 4 := fun x hx => hc x (List.mem_cons_of_mem _ hx)
 obtain ⟨b, hb, hi, e⟩ := row_ins h hc
 dsimp only at e
 subst e
 rw [ahd_len] at hb
 have h1 := hi.le q (by rw [ahd_len]; omega)
 rw [ahd_at (by omega)] at h1
 have hbd := W_bound h hc (t := (q : Int)) (by omega)
 rw [W_nat] at hbd ⊢
 rw [W_nat]
 unfold ahd1 at h1
 dsimp only at h1
 have e1 : nx N q c ≥ 0 → W N A cs (nx N q c) = vAt (rowOf N A cs) (nx N q c).toNat := fun q => by unfold W; rw [if_neg (by omega)]
 have e2 : nx N q (fl c) ≥ 0 → W N A cs (nx N q (fl c)) = vAt (rowOf N A cs) (nx N q (fl c)).toNat := fun q => by unfold W; rw [if_neg (by omega)]
 have f1 : nx N q c < 0 → W N A cs (nx N q c) = 9 := fun q => by unfold W; rw [if_pos q]
 have f2 : nx N q (fl c) < 0 → W N A cs (nx N q (fl c)) = 9 := fun q => by unfold W; rw [if_pos q]
 rcases Int.lt_or_le (nx N q c) 0 with a | a <;> rcases Int.lt_or_le (nx N q (fl c)) 0 with b | b
 ·rw [if_neg (by omega), if_neg (by omega)] at h1; rw [f1 a, f2 b]; omega
 ·rw [if_pos (by omega), if_neg (by omega)] at h1; rw [f1 a, e2 b]; omega
 ·rw [if_neg (by omega), if_pos (by omega)] at h1; rw [e1 a, f2 b]; omega
 ·rw [if_pos (by omega), if_pos (by omega)] at h1; rw [e1 a, e2 b]; omega
theorem W_step (h : Fit N A) {cs : List Nat} (hc : ∀ x ∈ cs, x < 4) {q : Nat} (hq : q < N.length) (hw : W N A cs q < 9) :
 (∃ c, c < 4 ∧ 0 ≤ nx N q c ∧ W N A cs (nx N q c) = W N A cs q - 2) ∨ (match cs with
 | [] => W N A cs q = 0 ∧ A.getD q false = true
 | c :: cs' => (0 ≤ nx N q (fl c) ∧ W N A cs' (nx N q (fl c)) = W N A cs q - 1) ∨ W N A cs' q = W N A cs q - 2 ∨ (0 ≤ nx N q c ∧ W N A cs' (nx N q c) = W N A cs q)) := by
 obtain ⟨b, hb, hi, e⟩ := row_ins h hc
 obtain ⟨k, s', p, hr⟩ := hi.re q (by omega)
 cases p with
 | @cons _ t _ k c h4 ht p =>
  left
  refine ⟨c, h4, by omega, ?_⟩
  have h1 := W_cl h hc hq h4
  rw [ht] at h1 ⊢
  rw [W_nat, W_nat] at h1 ⊢
  have h2 := hi.path h.tab hb p (by have := h.tab q c hq h4; omega)
  have h3 := hi.le s' (by have := p.lt h.tab (by have := h.tab q c hq h4; omega); omega)
  have : (2 : Int) * ((k + 1 : Nat) : Int) = 2 * k + 2 := by omega
  omega
 | nil =>
  right
  have hr : vAt (rowOf N A cs) q = vAt b q := by simpa using hr
  cases cs with
  | nil =>
   dsimp only at e ⊢
   subst e
   rw [W_nat] at hw ⊢
   rw [hr, base_at (by rw [h.len]; exact hq)] at hw ⊢
   split
   ·rename_i q; exact ⟨rfl, q⟩
   ·rename_i q; rw [if_neg q] at hw; omega
  | cons c cs =>
   dsimp only at e ⊢
   subst e
   rw [ahd_len] at hb
   rw [W_nat] at hw ⊢
   rw [hr, ahd_at (by omega)] at hw ⊢
   rw [W_nat]
   unfold ahd1 at hw ⊢
   dsimp only at hw ⊢
   have e1 : nx N q c ≥ 0 → W N A cs (nx N q c) = vAt (rowOf N A cs) (nx N q c).toNat := fun q => by unfold W; rw [if_neg (by omega)]
   have e2 : nx N q (fl c) ≥ 0 → W N A cs (nx N q (fl c)) = vAt (rowOf N A cs) (nx N q (fl c)).toNat := fun q => by unfold W; rw [if_neg (by omega)]
   rcases Int.lt_or_le (nx N q c) 0 with a | a <;> rcases Int.lt_or_le (nx N q (fl c)) 0 with b | b
   ·rw [if_neg (by omega), if_neg (by omega)] at hw ⊢; omega
   ·rw [if_pos (by omega), if_neg (by omega)] at hw ⊢; rw [e2 b]; omega
   ·rw [if_neg (by omega), if_pos (by omega)] at hw ⊢; rw [e1 a]; omega
   ·rw [if_pos (by omega), if_pos (by omega)] at hw ⊢; rw [e1 a, e2 b]; omega
end
end Go.Ne
namespace Go.Ne
open Go Go.Rep
inductive M (N : List (List Int)) (A : List Bool) : Nat → List Nat → Nat → Int → List Ch → Prop
  | nil (i q : Nat) (h : A.getD q false = true) : M N A i [] q 0 []
  | mat {i c : Nat} {cs : List Nat} {q t : Nat} {w : Int} {L : List Ch} (e : nx N q c = (t : Int)) (m : M N A (i + 1) cs t w L) : M N A i (c :: cs) q w L
  | flp {i c : Nat} {cs : List Nat} {q t : Nat} {w : Int} {L : List Ch} (e : nx N q (fl c) = (t : Int)) (m : M N A (i + 1) cs t w L) : M N A i (c :: cs) q (w + 1) (⟨1, i, fl c⟩ :: L)
  | ins {i : Nat} {cs : List Nat} {q t : Nat} {w : Int} {L : List Ch} (c : Nat) (h4 : c < 4) (e : nx N q c = (t : Int)) (m : M N A i cs t w L) : M N A i cs q (w + 2) (⟨2, i, c⟩ :: L)
  | del {i c : Nat} {cs : List Nat} {q : Nat} {w : Int} {L : List Ch} (m : M N A (i + 1) cs q w L) : M N A i (c :: cs) q (w + 2) (⟨3, i, 0⟩ :: L)
def lessF : List Ch → List Ch → Bool
 | x :: l, y :: k => if x.a = y.a then if x.k = y.k then if x.c = y.c then lessF l k else decide (x.c < y.c) else decide (x.k < y.k) else decide (x.a < y.a)
 | [], _ :: _ => true
 | _, [] => false
theorem lessF_irr : ∀ l : List Ch, lessF l l = false
 | [] => rfl
 | x :: l => by simp only [lessF, if_true]; exact lessF_irr l
theorem lessF_asymm : ∀ (l k : List Ch), lessF l k = true → lessF k l = false
 | x :: l, y :: k, h => by
  simp only [lessF] at h ⊢
  by_cases h1 : x.a = y.a
  ·rw [if_pos h1] at h; rw [if_pos h1.symm]
   by_cases h2 : x.k = y.k
   ·rw [if_pos h2] at h; rw [if_pos h2.symm]
    by_cases h3 : x.c = y.c
    ·rw [if_pos h3] at h; rw [if_pos h3.symm]; exact lessF_asymm l k h
    ·rw [if_neg h3] at h; rw [if_neg (fun q => h3 q.symm)]
     rw [decide_eq_true_eq] at h; exact decide_eq_false (by omega)
   ·rw [if_neg h2] at h; rw [if_neg (fun q => h2 q.symm)]
    rw [decide_eq_true_eq] at h; exact decide_eq_false (by omega)
  ·rw [if_neg h1] at h; rw [if_neg (fun q => h1 q.symm)]
   rw [decide_eq_true_eq] at h; exact decide_eq_false (by omega)
 | [], y :: k, _ => by simp [lessF]
 | [], [], h => by simp [lessF] at h
 | x :: l, [], h => by simp [lessF] at h
theorem less_tail {x : Ch} {l k : List Ch} (h : lessF l k = true) : lessF (x :: l) (x :: k) = true := by simp only [lessF, if_true]; exact h
section
variable {N : List (List Int)} {A : List Bool}
theorem M_nonneg {i : Nat} {cs : List Nat} {q : Nat} {w : Int} {L : List Ch} (h : M N A i cs q w L) : 0 ≤ w := by
 induction h <;> omega
theorem M_ge (h : Fit N A) {i : Nat} {cs : List Nat} {q : Nat} {w : Int} {L : List Ch} (m : M N A i cs q w L) (hc : ∀ x ∈ cs, x < 4) (hq : q < N.length) : W N A cs q ≤ w := by
 induction m with
 | nil i q ha =>
  obtain ⟨b, hb, hi, e⟩ := row_ins h (cs := []) hc
  dsimp only at e
  subst e
  have := hi.le q (by rw [base_len, h.len]; exact hq)
  rw [base_at (by rw [h.len]; exact hq), if_pos ha] at this
  rw [W_nat]; exact this
 | @mat i c cs q t w L e m ih =>
  have ht := h.tab q c hq (hc c (List.mem_cons_self ..))
  have h1 := ih (fun x hx => hc x (List.mem_cons_of_mem _ hx)) (by omega)
  have h2 := (W_cons_le h hc hq).2.1
  rw [e] at h2; omega
 | @flp i c cs q t w L e m ih =>
  have ht := h.tab q (fl c) hq (fl_lt (hc c (List.mem_cons_self ..)))
  have h1 := ih (fun x hx => hc x (List.mem_cons_of_mem _ hx)) (by omega)
  have h2 := (W_cons_le h hc hq).2.2
  rw [e] at h2; omega
 | @ins i cs q t w L c h4 e m ih =>
  have ht := h.tab q c hq h4
  have h1 := ih hc (by omega)
  have h2 := W_cl h hc hq h4
  rw [e] at h2; omega
 | @del i c cs q w L m ih =>
  have h1 := ih (fun x hx => hc x (List.mem_cons_of_mem _ hx)) hq
  have h2 := (W_cons_le h hc hq).1
  omega
theorem M_head {i : Nat} {cs : List Nat} {q : Nat} {w : Int} {L : List Ch} (m : M N A i cs q w L) : (L = [] ∧ w = 0) ∨ ∃ x L', L = x :: L' ∧ (i : Int) ≤ x.a := by
 induction m with
 | nil => exact .inl ⟨rfl, rfl⟩
 | mat e m ih =>
  rcases ih with h | ⟨x, L', rfl, h⟩
  ·exact .inl h
  ·exact .inr ⟨x, L', rfl, by omega⟩
 | flp => exact .inr ⟨_, _, rfl, Int.le_refl _⟩
 | ins => exact .inr ⟨_, _, rfl, Int.le_refl _⟩
 | del => exact .inr ⟨_, _, rfl, Int.le_refl _⟩
noncomputable def insC (N : List (List Int)) (A : List Bool) (cs : List Nat) (q : Nat) (w : Int) : Option Nat := (List.range 4).find? fun c => decide (2 ≤ w ∧ W N A cs (nx N q c) = w - 2)
noncomputable def bestF (N : List (List Int)) (A : List Bool) : Nat → Nat → List Nat → Nat → Int → List Ch
 | 0, _, _, _, _ => []
 | f + 1, i, [], q, w => if w = 0 ∧ A.getD q false = true then [] else match insC N A [] q w with
  | some c => ⟨2, i, c⟩ :: bestF N A f i [] (nx N q c).toNat (w - 2)
  | none => []
 | f + 1, i, c :: cs, q, w => if 1 ≤ w ∧ W N A cs (nx N q (fl c)) = w - 1 then ⟨1, i, fl c⟩ :: bestF N A f (i + 1) cs (nx N q (fl c)).toNat (w - 1)
  else match insC N A (c :: cs) q w with
  | some c' => ⟨2, i, c'⟩ :: bestF N A f i (c :: cs) (nx N q c').toNat (w - 2)
  | none => if 2 ≤ w ∧ W N A cs q = w - 2 then ⟨3, i, 0⟩ :: bestF N A f (i + 1) cs q (w - 2)
   else if W N A cs (nx N q c) = w then bestF N A f (i + 1) cs (nx N q c).toNat w else []
theorem insC_some {cs : List Nat} {q : Nat} {w : Int} {c : Nat} (h : insC N A cs q w = some c) : c < 4 ∧ 2 ≤ w ∧ W N A cs (nx N q c) = w - 2 ∧ ∀ c' < c, ¬ (2 ≤ w ∧ W N A cs (nx N q c') = w - 2) := by
 unfold insC at h
 have h1 := List.find?_some h
 rw [decide_eq_true_eq] at h1
 have h2 := List.mem_of_find?_eq_some h
 rw [List.mem_range] at h2
 refine ⟨h2, h1.1, h1.2, fun c' hc' hh => ?_⟩
 rw [List.find?_range_eq_some] at h
 have := h.2.2 c' hc'
 simp [hh] at this
theorem insC_none {cs : List Nat} {q : Nat} {w : Int} (h : insC N A cs q w = none) {c : Nat} (h4 : c < 4) : ¬ (2 ≤ w ∧ W N A cs (nx N q c) = w - 2) := by
 unfold insC at h
 rw [List.find?_eq_none] at h
 have := h c (List.mem_range.2 h4)
 simpa using this
theorem W_neg {cs : List Nat} {t : Int} (h : t < 0) : W N A cs t = 9 := by unfold W; rw [if_pos h]
theorem best_spec (h : Fit N A) : ∀ (f i : Nat) (cs : List Nat) (q : Nat) (w : Int), w.toNat + cs.length < f → (∀ x ∈ cs, x < 4) → q < N.length → W N A cs q = w → w < 9 →
 M N A i cs q w (bestF N A f i cs q w) ∧ ∀ L, M N A i cs q w L → L = bestF N A f i cs q w ∨ lessF (bestF N A f i cs q w) L = true
 | 0, i, cs, q, w, hf, _, _, _, _ => by omega
 | f + 1, i, cs, q, w, hf, hc, hq, hw, h9 => by
  have hw0 : 0 ≤ w := by rw [← hw]; exact (W_bound h hc (t := (q : Int)) (by omega)).1
  have insCase : ∀ c, insC N A cs q w = some c → (∀ L, M N A i cs q w L → (∃ (t : Nat) (w' : Nat) (L' : List Ch), nx N q c = (t : Int) ∧ True ∧ L = ⟨2, i, c⟩ :: L' ∧ M N A i cs t (w - 2) L') ∨ lessF (⟨2, i, c⟩ :: bestF N A f i cs (nx N q c).toNat (w - 2)) L = true) →
   M N A i cs q w (⟨2, i, c⟩ :: bestF N A f i cs (nx N q c).toNat (w - 2)) ∧ ∀ L, M N A i cs q w L → L = ⟨2, i, c⟩ :: bestF N A f i cs (nx N q c).toNat (w - 2) ∨ lessF (⟨2, i, c⟩ :: bestF N A f i cs (nx N q c).toNat (w - 2)) L = true := by
   intro c hi hall
   obtain ⟨h4, h2, hW, _⟩ := insC_some hi
   have hn := h.tab q c hq h4
   have hn0 : 0 ≤ nx N q c := by
    apply Classical.byContradiction; intro hh
    rw [W_neg (by omega)] at hW; omega
   obtain ⟨t, e⟩ : ∃ t : Nat, nx N q c = t := ⟨(nx N q c).toNat, by omega⟩
   rw [e] at hW
   obtain ⟨b1, b2⟩ := best_spec h f i cs t (w - 2) (by omega) hc (by omega) hW (by omega)
   rw [e, Int.toNat_natCast]
   rw [e, Int.toNat_natCast] at hall
   refine ⟨?_, fun L m => ?_⟩
   ·have := M.ins c h4 e b1
    rwa [Int.sub_add_cancel] at this
   ·rcases hall L m with ⟨t', _, L', e', _, rfl, m'⟩ | hl
    ·obtain rfl : t = t' := by omega
     rcases b2 L' m' with rfl | hl
     ·exact .inl rfl
     ·exact .inr (less_tail hl)
    ·exact .inr hl
  cases cs with
  | nil =>
   simp only [bestF]
   by_cases h0 : w = 0 ∧ A.getD q false = true
   ·rw [if_pos h0]
    obtain ⟨rfl, ha⟩ := h0
    refine ⟨.nil i q ha, fun L m => ?_⟩
    generalize hz : (0 : Int) = z at m
    generalize hcs : ([] : List Nat) = cs at m
    cases m with
    | nil => exact .inl rfl
    | mat => cases hcs
    | flp => cases hcs
    | ins c h4 e m => have := M_nonneg m; omega
    | del => cases hcs
   ·rw [if_neg h0]
    cases hi : insC N A [] q w with
    | none =>
     exfalso
     rcases W_step h hc hq (by omega) with ⟨c, h4, hn, e⟩ | ⟨e1, e2⟩
     ·have hb := W_bound h hc (t := nx N q c) (h.tab q c hq h4).2
      exact insC_none hi h4 ⟨by omega, by omega⟩
     ·exact h0 ⟨by omega, e2⟩
    | some c =>
     refine insCase c hi fun L m => ?_
     obtain ⟨h4, h2, hW, hmin⟩ := insC_some hi
     generalize hw' : w = w' at m
     generalize hcs : ([] : List Nat) = cs at m
     cases m with
     | nil i q ha => exact absurd ⟨hw', ha⟩ h0
     | mat => cases hcs
     | flp => cases hcs
     | @ins i cs q t w1 L c' h4' e m =>
      subst hcs
      have ht := h.tab q c' hq h4'
      have h1 := M_ge h m hc (by omega)
      have h3 := W_cl h hc hq h4'
      rw [e] at h3
      have hw0' := M_nonneg m
      rcases Nat.lt_trichotomy c' c with hlt | rfl | hgt
      ·exact absurd ⟨by omega, by rw [e]; omega⟩ (hmin c' hlt)
      ·left
       rw [show w1 + 2 - 2 = w1 by omega]
       exact ⟨t, 0, L, e, trivial, rfl, m⟩
      ·right
       simp only [lessF, if_true]
       rw [if_neg (by omega)]
       exact decide_eq_true (by omega)
     | del => cases hcs
  | cons c cs =>
   have hc4 := hc c (List.mem_cons_self ..)
   have hc' : ∀ x ∈ cs, x < 4 := fun x hx => hc x (List.mem_cons_of_mem _ hx)
   obtain ⟨l1, l2, l3⟩ := W_cons_le h hc hq
   have hlen : (c :: cs).length = cs.length + 1 := rfl
   simp only [bestF]
   by_cases hF : 1 ≤ w ∧ W N A cs (nx N q (fl c)) = w - 1
   ·rw [if_pos hF]
    have hn := h.tab q (fl c) hq (fl_lt hc4)
    have hn0 : 0 ≤ nx N q (fl c) := by
     apply Classical.byContradiction; intro hh
     have := hF.2; rw [W_neg (by omega)] at this; omega
    obtain ⟨t, e⟩ : ∃ t : Nat, nx N q (fl c) = t := ⟨(nx N q (fl c)).toNat, by omega⟩
    have hW := hF.2
    rw [e] at hW
    obtain ⟨b1, b2⟩ := best_spec h f (i + 1) cs t (w - 1) (by omega) hc' (by omega) hW (by omega)
    rw [e, Int.toNat_natCast]
    refine ⟨?_, fun L m => ?_⟩
    ·have := M.flp (i := i) e b1
     rwa [Int.sub_add_cancel] at this
    ·generalize hw' : w = w' at m
     generalize hcs : c :: cs = cs' at m
     cases m with
     | nil => cases hcs
     | @mat i c0 cs0 q t0 w0 L e0 m =>
      cases hcs
      right
      rcases M_head m with ⟨rfl, hz⟩ | ⟨x, L', rfl, hx⟩
      ·omega
      ·simp only [lessF]
       rw [if_neg (by omega)]
       exact decide_eq_true (by omega)
     | @flp i c0 cs0 q t0 w0 L e0 m =>
      cases hcs
      obtain rfl : t = t0 := by omega
      rw [show w - 1 = w0 by omega] at b2
      rw [show w0 + 1 - 1 = w0 by omega]
      rcases b2 L m with rfl | hl
      ·exact .inl rfl
      ·exact .inr (less_tail hl)
     | @ins i cs0 q t0 w0 L c0 h4 e0 m =>
      subst hcs
      right
      simp only [lessF, if_true]
      rw [if_neg (by decide)]; rfl
     | @del i c0 cs0 q w0 L m =>
      cases hcs
      right
      simp only [lessF, if_true]
      rw [if_neg (by decide)]; rfl
   ·rw [if_neg hF]
    cases hi : insC N A (c :: cs) q w with
    | some c1 =>
     refine insCase c1 hi fun L m => ?_
     obtain ⟨h4, h2, hW, hmin⟩ := insC_some hi
     generalize hw' : w = w' at m
     generalize hcs : c :: cs = cs' at m
     cases m with
     | nil => cases hcs
     | @mat i c0 cs0 q t0 w0 L e0 m =>
      cases hcs
      right
      rcases M_head m with ⟨rfl, hz⟩ | ⟨x, L', rfl, hx⟩
      ·omega
      ·simp only [lessF]
       rw [if_neg (by omega)]
       exact decide_eq_true (by omega)
     | @flp i c0 cs0 q t0 w0 L e0 m =>
      cases hcs
      exfalso
      have h1 := M_ge h m hc' (by have := h.tab q (fl c) hq (fl_lt hc4); omega)
      have hw0' := M_nonneg m
      rw [e0] at l3 hF
      exact hF ⟨by omega, by omega⟩
     | @ins i cs0 q t0 w0 L c0 h4' e0 m =>
      subst hcs
      have ht := h.tab q c0 hq h4'
      have h1 := M_ge h m hc (by omega)
      have h3 := W_cl h hc hq h4'
      rw [e0] at h3
      have hw0' := M_nonneg m
      rcases Nat.lt_trichotomy c0 c1 with hlt | rfl | hgt
      ·exact absurd ⟨by omega, by rw [e0]; omega⟩ (hmin c0 hlt)
      ·left
       rw [show w0 + 2 - 2 = w0 by omega]
       exact ⟨t0, 0, L, e0, trivial, rfl, m⟩
      ·right
       simp only [lessF, if_true]
       rw [if_neg (by omega)]
       exact decide_eq_true (by omega)
     | @del i c0 cs0 q w0 L m =>
      cases hcs
      right
      simp only [lessF, if_true]
      rw [if_neg (by decide)]; rfl
    | none =>
     have noIns : ∀ {i' : Nat} {t0 : Nat} {w0 : Int} {L : List Ch} (c0 : Nat), c0 < 4 → nx N q c0 = (t0 : Int) → M N A i' (c :: cs) t0 w0 L → w0 + 2 = w → False := fun c0 h4' e0 m hww => by
      have ht := h.tab q c0 hq h4'
      have h1 := M_ge h m hc (by omega)
      have h3 := W_cl h hc hq h4'
      have hw0' := M_nonneg m
      refine insC_none hi h4' ⟨by omega, ?_⟩
      rw [e0] at h3 ⊢; omega
     have noFlp : ∀ {i' : Nat} {t0 : Nat} {w0 : Int} {L : List Ch}, nx N q (fl c) = (t0 : Int) → M N A i' cs t0 w0 L → w0 + 1 = w → False := fun e0 m hww => by
      have h1 := M_ge h m hc' (by have := h.tab q (fl c) hq (fl_lt hc4); omega)
      have hw0' := M_nonneg m
      rw [e0] at l3 hF
      exact hF ⟨by omega, by omega⟩
     by_cases hD : 2 ≤ w ∧ W N A cs q = w - 2
     ·dsimp only
      rw [if_pos hD]
      obtain ⟨b1, b2⟩ := best_spec h f (i + 1) cs q (w - 2) (by omega) hc' hq hD.2 (by omega)
      refine ⟨?_, fun L m => ?_⟩
      ·have := M.del (i := i) (c := c) b1
       rwa [Int.sub_add_cancel] at this
      ·generalize hw' : w = w' at m
       generalize hcs : c :: cs = cs' at m
       cases m with
       | nil => cases hcs
       | @mat i c0 cs0 q t0 w0 L e0 m =>
        cases hcs
        right
        rcases M_head m with ⟨rfl, hz⟩ | ⟨x, L', rfl, hx⟩
        ·omega
        ·simp only [lessF]
         rw [if_neg (by omega)]
         exact decide_eq_true (by omega)
       | @flp i c0 cs0 q t0 w0 L e0 m => cases hcs; exact (noFlp e0 m hw'.symm).elim
       | @ins i cs0 q t0 w0 L c0 h4' e0 m => subst hcs; exact (noIns c0 h4' e0 m hw'.symm).elim
       | @del i c0 cs0 q w0 L m =>
        cases hcs
        rw [show w - 2 = w0 by omega] at b2
        rw [show w0 + 2 - 2 = w0 by omega]
        rcases b2 L m with rfl | hl
        ·exact .inl rfl
        ·exact .inr (less_tail hl)
     ·dsimp only
      rw [if_neg hD]
      have hMt : 0 ≤ nx N q c ∧ W N A cs (nx N q c) = w := by
       rcases W_step h hc hq (by omega) with ⟨c0, h4, hn, e⟩ | hh
       ·have hb := W_bound h hc (t := nx N q c0) (h.tab q c0 hq h4).2
        exact (insC_none hi h4 ⟨by omega, by omega⟩).elim
       ·rcases hh with ⟨a, b⟩ | b | ⟨a, b⟩
        ·have hb := W_bound h hc' (t := nx N q (fl c)) (h.tab q (fl c) hq (fl_lt hc4)).2
         exact absurd ⟨by omega, by omega⟩ hF
        ·have hb := W_bound h hc' (t := (q : Int)) (by omega)
         exact absurd ⟨by omega, by omega⟩ hD
        ·exact ⟨a, by omega⟩
      rw [if_pos hMt.2]
      have hn := h.tab q c hq hc4
      obtain ⟨t, e⟩ : ∃ t : Nat, nx N q c = t := ⟨(nx N q c).toNat, by omega⟩
      have hW := hMt.2
      rw [e] at hW
      obtain ⟨b1, b2⟩ := best_spec h f (i + 1) cs t w (by omega) hc' (by omega) hW h9
      rw [e, Int.toNat_natCast]
      refine ⟨.mat e b1, fun L m => ?_⟩
      generalize hw' : w = w' at m
      generalize hcs : c :: cs = cs' at m
      cases m with
      | nil => cases hcs
      | @mat i c0 cs0 q t0 w0 L e0 m =>
       cases hcs
       obtain rfl : t = t0 := by omega
       subst hw'
       exact b2 L m
      | @flp i c0 cs0 q t0 w0 L e0 m => cases hcs; exact (noFlp e0 m hw'.symm).elim
      | @ins i cs0 q t0 w0 L c0 h4' e0 m => subst hcs; exact (noIns c0 h4' e0 m hw'.symm).elim
      | @del i c0 cs0 q w0 L m =>
       cases hcs
       have h1 := M_ge h m hc' hq
       have h0' := M_nonneg m
       exact absurd ⟨by omega, by omega⟩ hD
end
end Go.Ne
namespace Go.Ne
open Go Go.Rep
def bef (o : List (List Ch)) (c : Ch) (l : List (List Ch)) : List (List Ch) := o ++ l.map (c :: ·)
def insO (N : List (List Int)) (all : Nat → List Nat → Nat → Int → Int → List (List Ch)) (i : Nat) (cs : List Nat) (q : Nat) (w most : Int) : Nat → List (List Ch)
 | 0 => []
 | k + 1 => let o := insO N all i cs q w most k
  if 0 ≤ nx N q k ∧ 2 ≤ w then bef o ⟨2, i, k⟩ (all i cs (nx N q k).toNat (w - 2) (most - o.length)) else o
def flpO (N : List (List Int)) (all : Nat → List Nat → Nat → Int → Int → List (List Ch)) (i c : Nat) (cs : List Nat) (q : Nat) (w most : Int) (o : List (List Ch)) : List (List Ch) :=
 if 0 ≤ nx N q (fl c) ∧ 1 ≤ w then bef o ⟨1, i, fl c⟩ (all (i + 1) cs (nx N q (fl c)).toNat (w - 1) (most - o.length)) else o
def delO (all : Nat → List Nat → Nat → Int → Int → List (List Ch)) (i : Nat) (cs : List Nat) (q : Nat) (w most : Int) (o : List (List Ch)) : List (List Ch) :=
 if 2 ≤ w then bef o ⟨3, i, 0⟩ (all (i + 1) cs q (w - 2) (most - o.length)) else o
def matO (N : List (List Int)) (all : Nat → List Nat → Nat → Int → Int → List (List Ch)) (i c : Nat) (cs : List Nat) (q : Nat) (w most : Int) (o : List (List Ch)) : List (List Ch) :=
 if 0 ≤ nx N q c then o ++ all (i + 1) cs (nx N q c).toNat w (most - o.length) else o
noncomputable def allF (N : List (List Int)) (A : List Bool) : Nat → Nat → List Nat → Nat → Int → Int → List (List Ch)
 | 0, _, _, _, _, _ => []
 | f + 1, i, [], q, w, most => if w < W N A [] q ∨ most = 0 then [] else if w = 0 ∧ A.getD q false = true then [[]] else insO N (allF N A f) i [] q w most 4
 | f + 1, i, c :: cs, q, w, most => if w < W N A (c :: cs) q ∨ most = 0 then []
  else matO N (allF N A f) i c cs q w most (delO (allF N A f) i cs q w most (flpO N (allF N A f) i c cs q w most (insO N (allF N A f) i (c :: cs) q w most 4)))
def B : Nat → Nat → Nat
 | 0, 0 => 1
 | 0, 1 => 0
 | 0, w + 2 => 4 * B 0 w
 | m + 1, 0 => B m 0
 | m + 1, 1 => B m 0 + B m 1
 | m + 1, w + 2 => 4 * B (m + 1) w + B m (w + 1) + B m w + B m (w + 2)
theorem B_le (m w : Nat) : B m w ≤ B (m + 1) w := by
 match w with
 | 0 => simp only [B]; exact Nat.le_refl _
 | 1 => simp only [B]; omega
 | w + 2 => simp only [B]; omega
theorem B_six {m w : Nat} (hm : m ≤ 6) (hw : w ≤ 8) : B m w < 1048576 := by
  have h6 : B m w ≤ B 6 w := by
    have : ∀ k, m ≤ k → B m w ≤ B k w := fun k hk => by
      induction k with
      | zero => obtain rfl : m = 0 := by omega
                exact Nat.le_refl _
      | succ k ih =>
        rcases Nat.lt_or_ge m (k + 1) with h | h
        · exact Nat.le_trans (ih (by omega)) (B_le k w)
        · obtain rfl : m = k + 1 := by omega
          exact Nat.le_refl _
    exact this 6 hm
  have h8 : B 6 w < 1048576 := by
    have : w = 0 ∨ w = 1 ∨ w = 2 ∨ w = 3 ∨ w = 4 ∨ w = 5 ∨ w = 6 ∨ w = 7 ∨ w = 8 := by omega
    rcases this with rfl | rfl | rfl | rfl | rfl | rfl | rfl | rfl | rfl <;> simp [B]
  omega
section
variable {N : List (List Int)} {A : List Bool}
theorem mem_bef {o l : List (List Ch)} {c : Ch} {L : List Ch} : L ∈ bef o c l ↔ L ∈ o ∨ ∃ L', L' ∈ l ∧ L = c :: L' := by
 unfold bef
 rw [List.mem_append, List.mem_map]
 constructor
 ·rintro (h | ⟨L', h1, h2⟩)
  ·exact .inl h
  ·exact .inr ⟨L', h1, h2.symm⟩
 ·rintro (h | ⟨L', h1, h2⟩)
  ·exact .inl h
  ·exact .inr ⟨L', h1, h2.symm⟩
theorem bef_len (o l : List (List Ch)) (c : Ch) : (bef o c l).length = o.length + l.length := by simp [bef]
theorem allF_spec (h : Fit N A) : ∀ (f i : Nat) (cs : List Nat) (q : Nat) (w : Nat) (most : Int), w + cs.length < f → (∀ x ∈ cs, x < 4) → q < N.length → (B cs.length w : Int) < most →
 (∀ L, L ∈ allF N A f i cs q w most ↔ M N A i cs q w L) ∧ (allF N A f i cs q w most).length ≤ B cs.length w
 | 0, i, cs, q, w, most, hf, _, _, _ => by omega
 | f + 1, i, cs, q, w, most, hf, hc, hq, hB => by
  have hins : ∀ k, k ≤ 4 → (∀ L, L ∈ insO N (allF N A f) i cs q w most k ↔ ∃ c t w' L', c < k ∧ nx N q c = ((t : Nat) : Int) ∧ (w : Int) = w' + 2 ∧ L = ⟨2, i, c⟩ :: L' ∧ M N A i cs t w' L') ∧
   (insO N (allF N A f) i cs q w most k).length ≤ (if 2 ≤ w then k * B cs.length (w - 2) else 0) := by
   intro k
   induction k with
   | zero =>
    intro _
    refine ⟨fun L => ⟨fun hh => by simp [insO] at hh, fun ⟨c, _, _, _, hc, _⟩ => by omega⟩, by simp [insO]⟩
   | succ k ih =>
    intro hk
    obtain ⟨i1, i2⟩ := ih (by omega)
    simp only [insO]
    by_cases hcond : 0 ≤ nx N q k ∧ (2 : Int) ≤ (w : Int)
    ·rw [if_pos hcond]
     have h2 : 2 ≤ w := by omega
     rw [if_pos h2] at i2 ⊢
     have hn := h.tab q k hq (by omega)
     obtain ⟨t, e⟩ : ∃ t : Nat, nx N q k = t := ⟨(nx N q k).toNat, by omega⟩
     have ew : (w : Int) - 2 = ((w - 2 : Nat) : Int) := by omega
     have hBw : 4 * B cs.length (w - 2) ≤ B cs.length w := by
      obtain ⟨v, rfl⟩ : ∃ v, w = v + 2 := ⟨w - 2, by omega⟩
      rw [show v + 2 - 2 = v by omega]
      cases cs with
      | nil => simp only [List.length_nil, B]; exact Nat.le_refl _
      | cons c cs => simp only [List.length_cons, B]; omega
     have hkB : k * B cs.length (w - 2) + B cs.length (w - 2) ≤ 4 * B cs.length (w - 2) := by
      have := Nat.mul_le_mul_right (B cs.length (w - 2)) hk
      rw [Nat.add_mul, Nat.one_mul] at this; exact this
     generalize insO N (allF N A f) i cs q w most k = o at i1 i2
     obtain ⟨j1, j2⟩ := allF_spec h f i cs t (w - 2) (most - o.length) (by omega) hc (by omega) (by omega)
     rw [e, Int.toNat_natCast, ew]
     refine ⟨fun L => ?_, by rw [bef_len, Nat.add_mul, Nat.one_mul]; omega⟩
     rw [mem_bef, i1]
     constructor
     ·rintro (⟨c, t', w', L', q1, q2⟩ | ⟨L', q1, rfl⟩)
      ·exact ⟨c, t', w', L', by omega, q2⟩
      ·exact ⟨k, t, ((w - 2 : Nat) : Int), L', by omega, e, by omega, rfl, (j1 L').1 q1⟩
     ·rintro ⟨c, t', w', L', q1, q2, q3, rfl, q5⟩
      rcases Nat.lt_or_ge c k with hlt | hge
      ·exact .inl ⟨c, t', w', L', hlt, q2, q3, rfl, q5⟩
      ·right
       obtain rfl : c = k := by omega
       obtain rfl : t = t' := by omega
       refine ⟨L', (j1 L').2 ?_, rfl⟩
       rw [show ((w - 2 : Nat) : Int) = w' by omega]; exact q5
    ·rw [if_neg hcond]
     refine ⟨fun L => ?_, ?_⟩
     ·rw [i1]
      constructor
      ·rintro ⟨c, t', w', L', q1, q2⟩; exact ⟨c, t', w', L', by omega, q2⟩
      ·rintro ⟨c, t', w', L', q1, q2, q3, q4, q5⟩
       rcases Nat.lt_or_ge c k with hlt | hge
       ·exact ⟨c, t', w', L', hlt, q2, q3, q4, q5⟩
       ·obtain rfl : c = k := by omega
        have := M_nonneg q5
        exact absurd ⟨by omega, by omega⟩ hcond
     ·split
      ·rename_i h2; rw [if_pos h2] at i2; rw [Nat.add_mul]; omega
      ·rename_i h2; rw [if_neg h2] at i2; exact i2
  obtain ⟨i1, i2⟩ := hins 4 (Nat.le_refl _)
  have hlow : (w : Int) < W N A cs q → ∀ L, ¬ M N A i cs q w L := fun hl L m => by have := M_ge h m hc hq; omega
  have hm0 : ¬ most = 0 := by omega
  cases cs with
  | nil =>
   simp only [allF]
   by_cases hl : (w : Int) < W N A [] q
   ·rw [if_pos (.inl hl)]
    exact ⟨fun L => ⟨fun hh => absurd hh (List.not_mem_nil), fun m => (hlow hl L m).elim⟩, Nat.zero_le _⟩
   ·rw [if_neg (fun q => q.elim hl hm0)]
    by_cases h0 : (w : Int) = 0 ∧ A.getD q false = true
    ·rw [if_pos h0]
     have hw : w = 0 := by omega
     subst hw
     refine ⟨fun L => ?_, by simp [B]⟩
     rw [List.mem_singleton]
     constructor
     ·rintro rfl; exact .nil i q h0.2
     ·intro m
      generalize hw' : ((0 : Nat) : Int) = w' at m
      generalize hcs : ([] : List Nat) = cs at m
      cases m with
      | nil => rfl
      | mat => cases hcs
      | flp => cases hcs
      | ins c h4 e m => have := M_nonneg m; omega
      | del => cases hcs
    ·rw [if_neg h0]
     refine ⟨fun L => ?_, ?_⟩
     ·rw [i1]
      constructor
      ·rintro ⟨c, t, w', L', q1, q2, q3, rfl, q5⟩
       rw [q3]; exact .ins c q1 q2 q5
      ·intro m
       generalize hw' : (w : Int) = w' at m
       generalize hcs : ([] : List Nat) = cs at m
       cases m with
       | nil i q ha => exact absurd ⟨hw', ha⟩ h0
       | mat => cases hcs
       | flp => cases hcs
       | ins c h4 e m => subst hcs; exact ⟨c, _, _, _, h4, e, rfl, rfl, m⟩
       | del => cases hcs
     ·split at i2
      ·rename_i h2
       obtain ⟨v, rfl⟩ : ∃ v, w = v + 2 := ⟨w - 2, by omega⟩
       rw [show v + 2 - 2 = v by omega] at i2
       simpa only [List.length_nil, B] using i2
      ·omega
  | cons c cs =>
   have hc4 := hc c (List.mem_cons_self ..)
   have hc' : ∀ x ∈ cs, x < 4 := fun x hx => hc x (List.mem_cons_of_mem _ hx)
   have hlen : (c :: cs).length = cs.length + 1 := rfl
   simp only [allF]
   by_cases hl : (w : Int) < W N A (c :: cs) q
   ·rw [if_pos (.inl hl)]
    exact ⟨fun L => ⟨fun hh => absurd hh (List.not_mem_nil), fun m => (hlow hl L m).elim⟩, Nat.zero_le _⟩
   rw [if_neg (fun q => q.elim hl hm0)]
   rw [hlen] at hB i2 hf ⊢
   have hBw : (if 2 ≤ w then 4 * B (cs.length + 1) (w - 2) else 0) + (if 1 ≤ w then B cs.length (w - 1) else 0) + (if 2 ≤ w then B cs.length (w - 2) else 0) + B cs.length w ≤ B (cs.length + 1) w := by
    match w with
    | 0 => simp [B]
    | 1 => simp [B]
    | v + 2 => simp only [B]; rw [if_pos (by omega), if_pos (by omega), if_pos (by omega)]; simp
   generalize insO N (allF N A f) i (c :: cs) q w most 4 = o1 at i1 i2
   have hflp : (∀ L, L ∈ flpO N (allF N A f) i c cs q w most o1 ↔ L ∈ o1 ∨ ∃ t w' L', nx N q (fl c) = ((t : Nat) : Int) ∧ (w : Int) = w' + 1 ∧ L = ⟨1, i, fl c⟩ :: L' ∧ M N A (i + 1) cs t w' L') ∧ (flpO N (allF N A f) i c cs q w most o1).length ≤ o1.length + (if 1 ≤ w then B cs.length (w - 1) else 0) := by
    unfold flpO
    by_cases hcond : 0 ≤ nx N q (fl c) ∧ (1 : Int) ≤ (w : Int)
    ·rw [if_pos hcond]
     have h1 : 1 ≤ w := by omega
     have hn := h.tab q (fl c) hq (fl_lt hc4)
     obtain ⟨t, e⟩ : ∃ t : Nat, nx N q (fl c) = t := ⟨(nx N q (fl c)).toNat, by omega⟩
     have ew : (w : Int) - 1 = ((w - 1 : Nat) : Int) := by omega
     rw [if_pos h1] at hBw ⊢
     obtain ⟨j1, j2⟩ := allF_spec h f (i + 1) cs t (w - 1) (most - o1.length) (by omega) hc' (by omega) (by omega)
     rw [e, Int.toNat_natCast, ew]
     refine ⟨fun L => ?_, by rw [bef_len]; omega⟩
     rw [mem_bef]
     constructor
     ·rintro (q | ⟨L', q1, rfl⟩)
      ·exact .inl q
      ·exact .inr ⟨t, _, L', rfl, by omega, rfl, (j1 L').1 q1⟩
     ·rintro (q | ⟨t', w', L', q1, q2, rfl, q4⟩)
      ·exact .inl q
      ·obtain rfl : t = t' := by omega
       refine .inr ⟨L', (j1 L').2 ?_, rfl⟩
       rw [show ((w - 1 : Nat) : Int) = w' by omega]; exact q4
    ·rw [if_neg hcond]
     refine ⟨fun L => ⟨.inl, fun hh => hh.elim id ?_⟩, by omega⟩
     rintro ⟨t', w', L', q1, q2, rfl, q4⟩
     have := M_nonneg q4
     exact absurd ⟨by omega, by omega⟩ hcond
   generalize flpO N (allF N A f) i c cs q w most o1 = o2 at hflp
   obtain ⟨f1, f2⟩ := hflp
   have hdel : (∀ L, L ∈ delO (allF N A f) i cs q w most o2 ↔ L ∈ o2 ∨ ∃ w' L', (w : Int) = w' + 2 ∧ L = ⟨3, i, 0⟩ :: L' ∧ M N A (i + 1) cs q w' L') ∧ (delO (allF N A f) i cs q w most o2).length ≤ o2.length + (if 2 ≤ w then B cs.length (w - 2) else 0) := by
    unfold delO
    by_cases hcond : (2 : Int) ≤ (w : Int)
    ·rw [if_pos hcond]
     have h1 : 2 ≤ w := by omega
     have ew : (w : Int) - 2 = ((w - 2 : Nat) : Int) := by omega
     rw [if_pos h1] at hBw i2 ⊢
     obtain ⟨j1, j2⟩ := allF_spec h f (i + 1) cs q (w - 2) (most - o2.length) (by omega) hc' (by omega) (by rw [if_pos h1] at hBw; omega)
     rw [ew]
     refine ⟨fun L => ?_, by rw [bef_len]; omega⟩
     rw [mem_bef]
     constructor
     ·rintro (q | ⟨L', q1, rfl⟩)
      ·exact .inl q
      ·exact .inr ⟨_, L', by omega, rfl, (j1 L').1 q1⟩
     ·rintro (q | ⟨w', L', q2, rfl, q4⟩)
      ·exact .inl q
      ·refine .inr ⟨L', (j1 L').2 ?_, rfl⟩
       rw [show ((w - 2 : Nat) : Int) = w' by omega]; exact q4
    ·rw [if_neg hcond]
     refine ⟨fun L => ⟨.inl, fun hh => hh.elim id ?_⟩, by omega⟩
     rintro ⟨w', L', q2, rfl, q4⟩
     have := M_nonneg q4
     omega
   generalize delO (allF N A f) i cs q w most o2 = o3 at hdel
   obtain ⟨d1, d2⟩ := hdel
   have ho3 : o3.length + B cs.length w ≤ B (cs.length + 1) w := by omega
   have hmat : (∀ L, L ∈ matO N (allF N A f) i c cs q w most o3 ↔ L ∈ o3 ∨ ∃ t, nx N q c = ((t : Nat) : Int) ∧ M N A (i + 1) cs t w L) ∧ (matO N (allF N A f) i c cs q w most o3).length ≤ o3.length + B cs.length w := by
    unfold matO
    by_cases hcond : 0 ≤ nx N q c
    ·rw [if_pos hcond]
     have hn := h.tab q c hq hc4
     obtain ⟨t, e⟩ : ∃ t : Nat, nx N q c = t := ⟨(nx N q c).toNat, by omega⟩
     obtain ⟨j1, j2⟩ := allF_spec h f (i + 1) cs t w (most - o3.length) (by omega) hc' (by omega) (by omega)
     rw [e, Int.toNat_natCast]
     refine ⟨fun L => ?_, by rw [List.length_append]; omega⟩
     rw [List.mem_append, j1]
     constructor
     ·rintro (q | q)
      ·exact .inl q
      ·exact .inr ⟨t, rfl, q⟩
     ·rintro (q | ⟨t', q1, q2⟩)
      ·exact .inl q
      ·obtain rfl : t = t' := by omega
       exact .inr q2
    ·rw [if_neg hcond]
     refine ⟨fun L => ⟨.inl, fun hh => hh.elim id ?_⟩, by omega⟩
     rintro ⟨t', q1, q2⟩
     omega
   obtain ⟨m1, m2⟩ := hmat
   refine ⟨fun L => ?_, by omega⟩
   rw [m1, d1, f1, i1]
   constructor
   ·rintro (((⟨c', t, w', L', q1, q2, q3, rfl, q5⟩ | ⟨t, w', L', q1, q2, rfl, q4⟩) | ⟨w', L', q1, rfl, q3⟩) | ⟨t, q1, q2⟩)
    ·rw [q3]; exact .ins c' q1 q2 q5
    ·rw [q2]; exact .flp q1 q4
    ·rw [q1]; exact .del q3
    ·exact .mat q1 q2
   ·intro m
    generalize hw' : (w : Int) = w' at m
    generalize hcs : c :: cs = cs' at m
    cases m with
    | nil => cases hcs
    | mat e m => cases hcs; exact .inr ⟨_, e, m⟩
    | flp e m => cases hcs; exact .inl (.inl (.inr ⟨_, _, _, e, rfl, rfl, m⟩))
    | ins c' h4 e m => subst hcs; exact .inl (.inl (.inl ⟨c', _, _, _, h4, e, rfl, rfl, m⟩))
    | del m => cases hcs; exact .inl (.inr ⟨_, _, rfl, rfl, m⟩)
end
end Go.Ne
namespace Go.Ne
open Go Go.Rep
def firstF : List Ch → List (List Ch) → List Ch
 | b, [] => b
 | b, y :: l => firstF (if lessF y b then y else b) l
theorem firstF_stay {P : List Ch} : ∀ (l : List (List Ch)), (∀ L ∈ l, L = P ∨ lessF P L = true) → firstF P l = P
 | [], _ => rfl
 | y :: l, h => by
  have hy : lessF y P = false := by
   rcases h y (List.mem_cons_self ..) with rfl | hl
   ·exact lessF_irr _
   ·exact lessF_asymm _ _ hl
  simp only [firstF, hy, Bool.false_eq_true, if_false]
  exact firstF_stay l fun L hL => h L (List.mem_cons_of_mem _ hL)
theorem firstF_eq {P : List Ch} : ∀ (l : List (List Ch)) (b : List Ch), (∀ L ∈ b :: l, L = P ∨ lessF P L = true) → P ∈ b :: l → firstF b l = P
 | [], b, _, hm => (List.mem_singleton.1 hm).symm
 | y :: l, b, h, hm => by
  simp only [firstF]
  by_cases hb : b = P
  ·subst hb
   have hy : lessF y b = false := by
    rcases h y (by simp) with rfl | hl
    ·exact lessF_irr _
    ·exact lessF_asymm _ _ hl
   rw [hy]
   exact firstF_stay l fun L hL => h L (by simp [hL])
  ·have hPb : lessF P b = true := (h b (by simp)).resolve_left hb
   have hin : P = y ∨ P ∈ l := by
    rcases List.mem_cons.1 hm with q | q
    ·exact absurd q.symm hb
    ·exact List.mem_cons.1 q
   split
   ·exact firstF_eq l y (fun L hL => h L (by rcases List.mem_cons.1 hL with q | q <;> simp [q])) (List.mem_cons.2 hin)
   ·rename_i hn
    refine firstF_eq l b (fun L hL => h L (by rcases List.mem_cons.1 hL with q | q <;> simp [q])) (List.mem_cons.2 (.inr ?_))
    rcases hin with rfl | q
    ·exact absurd hPb hn
    ·exact q
section
variable {N : List (List Int)} {A : List Bool}
theorem first_all (h : Fit N A) {f g : Nat} {cs : List Nat} {q w : Nat} (hc : ∀ x ∈ cs, x < 4) (hq : q < N.length) (hw : W N A cs q = w) (h9 : w < 9) (h6 : cs.length ≤ 6) (hf : w + cs.length < f) (hg : w + cs.length < g) :
 ∃ b l, allF N A f 0 cs q w 1048576 = b :: l ∧ firstF b l = bestF N A g 0 cs q w := by
 obtain ⟨a1, _⟩ := allF_spec h f 0 cs q w 1048576 hf hc hq (by have := B_six h6 (show w ≤ 8 by omega); omega)
 obtain ⟨b1, b2⟩ := best_spec h g 0 cs q w (by omega) hc hq hw (by omega)
 have hP := (a1 _).2 b1
 cases hall : allF N A f 0 cs q w 1048576 with
 | nil => rw [hall] at hP; cases hP
 | cons b l =>
  rw [hall] at hP a1
  refine ⟨b, l, rfl, firstF_eq l b (fun L hL => ?_) hP⟩
  exact b2 L ((a1 L).1 hL)
def stepS (N : List (List Int)) (s : Int) (c : Nat) : Int := if s < 0 then -1 else nx N s.toNat c
def acc (A : List Bool) (s : Int) : Bool := decide (0 ≤ s) && A.getD s.toNat false
theorem steps_neg (N : List (List Int)) : ∀ (l : List Nat), l.foldl (stepS N) (-1) = -1
 | [] => rfl
 | c :: l => by simp only [List.foldl_cons, stepS]; exact steps_neg N l
theorem stepS_nat (q c : Nat) : stepS N (q : Int) c = nx N q c := by unfold stepS; rw [if_neg (by omega)]; rfl
theorem M_run {x : Int → Int} (hx : ∀ c : Nat, c < 4 → x c = fl c) {L0 : List Int} {i : Nat} {cs : List Nat} {q : Nat} {w : Int} {L : List Ch} (m : M N A i cs q w L) (h4 : ∀ c ∈ cs, c < 4) :
 ∀ (o : List Int) (j : Nat) (p : Option Ch), L0.drop i = cs.map Int.ofNat → i + cs.length = L0.length → j ≤ i → (∀ c, p = some c → c.a < i ∨ (c.a = i ∧ c.k = 2)) →
  ∃ out : List Nat, runR x L0 L p (o, j) = some (o ++ (L0.take i).drop j ++ out.map Int.ofNat) ∧ (∀ c ∈ out, c < 4) ∧ acc A (out.foldl (stepS N) q) = true ∧ (L = [] → out = cs) := by
 have bad : ∀ {p : Option Ch} {c : Ch} {i : Nat}, (∀ c, p = some c → c.a < i ∨ (c.a = i ∧ c.k = 2)) → c.a = (i : Int) → badP p c = false := fun {p c i} hp hc => by
  cases p with
  | none => rfl
  | some pc =>
   simp only [badP, decide_eq_false_iff_not]
   rcases hp pc rfl with h | ⟨h, k⟩ <;> omega
 have seg : ∀ {i j c : Nat} {cs : List Nat}, L0.drop i = (c :: cs).map Int.ofNat → i + (c :: cs).length = L0.length → j ≤ i → (L0.take (i + 1)).drop j = (L0.take i).drop j ++ [(c : Int)] ∧ L0.drop (i + 1) = cs.map Int.ofNat ∧ L0.getD i 0 = (c : Int) := fun {i j c cs} hd hl hj => by
  have hi : i < L0.length := by simp at hl; omega
  have h1 : L0[i]? = some (c : Int) := by
   have := congrArg (fun l => l[0]?) hd
   simpa [List.getElem?_drop] using this
  refine ⟨?_, ?_, by simp [List.getD_eq_getElem?_getD, h1]⟩
  ·rw [List.take_add_one, h1, List.drop_append_of_le_length (by simp; omega)]; rfl
  ·rw [← List.drop_drop, hd]; rfl
 induction m with
 | nil i q ha =>
  intro o j p hd hl hj hp
  refine ⟨[], ?_, fun c hc => (by cases hc), by simp only [List.foldl_nil, acc]; rw [Int.toNat_natCast, ha]; simp, fun _ => rfl⟩
  have hi : i = L0.length := by simpa using hl
  simp only [runR]
  rw [List.take_of_length_le (by omega)]
  simp
 | @mat i c cs q t w L e m ih =>
  intro o j p hd hl hj hp
  obtain ⟨s1, s2, s3⟩ := seg hd hl hj
  obtain ⟨out, r1, r2, r3, r4⟩ := ih (fun y hy => h4 y (List.mem_cons_of_mem _ hy)) o j p s2 (by simp at hl; omega) (by omega) (fun c hc => by rcases hp c hc with q | ⟨q, _⟩ <;> omega)
  refine ⟨c :: out, ?_, fun y hy => ?_, ?_, fun hL => by rw [r4 hL]⟩
  ·rw [r1, s1]; simp
  ·rcases List.mem_cons.1 hy with rfl | hy
   ·exact h4 _ (List.mem_cons_self ..)
   ·exact r2 y hy
  ·rw [List.foldl_cons, stepS_nat, e]; exact r3
 | @flp i c cs q t w L e m ih =>
  intro o j p hd hl hj hp
  have hc4 := h4 c (List.mem_cons_self ..)
  obtain ⟨s1, s2, s3⟩ := seg hd hl hj
  obtain ⟨out, r1, r2, r3, r4⟩ := ih (fun y hy => h4 y (List.mem_cons_of_mem _ hy)) (o ++ (L0.take i).drop j ++ [((fl c : Nat) : Int)]) (i + 1) (some ⟨1, i, fl c⟩) s2 (by simp at hl; omega) (Nat.le_refl _) (fun c' hc' => by cases hc'; exact .inl (by show (i : Int) < ((i + 1 : Nat) : Int); omega))
  refine ⟨fl c :: out, ?_, fun y hy => ?_, ?_, fun hL => by cases hL⟩
  ·have hf : fitR x L0 p ⟨1, i, fl c⟩ = true := by
    unfold fitR
    rw [if_neg (by simp at hl; dsimp only; omega), if_neg (by rw [bad hp rfl]; exact Bool.false_ne_true), if_pos rfl]
    dsimp only
    rw [Int.toNat_natCast, s3, hx c hc4]
    exact decide_eq_true rfl
   have e0 : (L0.take (i + 1)).drop (i + 1) = [] := List.drop_of_length_le (by simp; omega)
   simp only [runR, hf, if_true, stepR]
   rw [if_neg (show ¬ (1 : Int) = 3 by decide), if_neg (show ¬ (1 : Int) = 2 by decide), Int.toNat_natCast, r1, e0]
   simp
  ·rcases List.mem_cons.1 hy with rfl | hy
   ·exact fl_lt hc4
   ·exact r2 y hy
  ·rw [List.foldl_cons, stepS_nat, e]; exact r3
 | @ins i cs q t w L c hc4 e m ih =>
  intro o j p hd hl hj hp
  obtain ⟨out, r1, r2, r3, r4⟩ := ih h4 (o ++ (L0.take i).drop j ++ [(c : Int)]) i (some ⟨2, i, c⟩) hd hl (Nat.le_refl _) (fun c' hc' => by cases hc'; exact .inr ⟨rfl, rfl⟩)
  refine ⟨c :: out, ?_, fun y hy => ?_, ?_, fun hL => by cases hL⟩
  ·have hf : fitR x L0 p ⟨2, i, c⟩ = true := by
    unfold fitR
    rw [if_neg (by dsimp only; omega), if_neg (by rw [bad hp rfl]; exact Bool.false_ne_true), if_neg (show ¬ (2 : Int) = 1 by decide), if_pos rfl]
    exact decide_eq_true ⟨by dsimp only; omega, by dsimp only; omega⟩
   have e0 : (L0.take i).drop i = [] := List.drop_of_length_le (by simp; omega)
   simp only [runR, hf, if_true, stepR]
   rw [if_neg (show ¬ (2 : Int) = 3 by decide), Int.toNat_natCast, r1, e0]
   simp
  ·rcases List.mem_cons.1 hy with rfl | hy
   ·exact hc4
   ·exact r2 y hy
  ·rw [List.foldl_cons, stepS_nat, e]; exact r3
 | @del i c cs q w L m ih =>
  intro o j p hd hl hj hp
  obtain ⟨s1, s2, s3⟩ := seg hd hl hj
  obtain ⟨out, r1, r2, r3, r4⟩ := ih (fun y hy => h4 y (List.mem_cons_of_mem _ hy)) (o ++ (L0.take i).drop j) (i + 1) (some ⟨3, i, 0⟩) s2 (by simp at hl; omega) (Nat.le_refl _) (fun c' hc' => by cases hc'; exact .inl (by show (i : Int) < ((i + 1 : Nat) : Int); omega))
  refine ⟨out, ?_, r2, r3, fun hL => by cases hL⟩
  have hf : fitR x L0 p ⟨3, i, 0⟩ = true := by
   unfold fitR
   rw [if_neg (by simp at hl; dsimp only; omega), if_neg (by rw [bad hp rfl]; exact Bool.false_ne_true), if_neg (show ¬ (3 : Int) = 1 by decide), if_neg (show ¬ (3 : Int) = 2 by decide), if_pos rfl]
   exact decide_eq_true rfl
  have e0 : (L0.take (i + 1)).drop (i + 1) = [] := List.drop_of_length_le (by simp; omega)
  simp only [runR, hf, if_true, stepR]
  rw [if_neg (show ¬ (3 : Int) = 2 by decide), Int.toNat_natCast, List.append_nil, r1, e0]
  simp
theorem M_none (h : Fit N A) : ∀ (cs : List Nat) (i q : Nat), (∀ c ∈ cs, c < 4) → q < N.length → acc A (cs.foldl (stepS N) q) = true → M N A i cs q 0 []
 | [], i, q, _, hq, ha => .nil i q (by
  have : acc A ((q : Nat) : Int) = true := ha
  unfold acc at this
  rw [Bool.and_eq_true] at this
  exact this.2)
 | c :: cs, i, q, hc, hq, ha => by
  rw [List.foldl_cons, stepS_nat] at ha
  have hn := h.tab q c hq (hc c (List.mem_cons_self ..))
  by_cases h0 : nx N q c < 0
  ·have : nx N q c = -1 := by omega
   rw [this, steps_neg] at ha
   simp [acc] at ha
  ·obtain ⟨t, e⟩ : ∃ t : Nat, nx N q c = t := ⟨(nx N q c).toNat, by omega⟩
   rw [e] at ha
   exact .mat e (M_none h cs (i + 1) t (fun y hy => hc y (List.mem_cons_of_mem _ hy)) (by omega) ha)
theorem best_nil (h : Fit N A) {g : Nat} {cs : List Nat} {q w : Nat} (hc : ∀ x ∈ cs, x < 4) (hq : q < N.length) (hw : W N A cs q = w) (h9 : w < 9) (hg : w + cs.length < g) :
 bestF N A g 0 cs q w = [] ↔ acc A (cs.foldl (stepS N) q) = true := by
 obtain ⟨b1, b2⟩ := best_spec h g 0 cs q w (by omega) hc hq hw (by omega)
 constructor
 ·intro e
  rw [e] at b1
  obtain ⟨out, _, _, r3, r4⟩ := M_run (x := fun c => ((fl c.toNat : Nat) : Int)) (fun c _ => by simp) (L0 := cs.map Int.ofNat) b1 hc [] 0 none (by simp) (by simp) (Nat.le_refl _) (fun c hc => by cases hc)
  rw [r4 rfl] at r3; exact r3
 ·intro ha
  have m := M_none h cs 0 q hc hq ha
  have h0 := M_ge h m hc hq
  have hb := W_bound h hc (t := (q : Int)) (by omega)
  have hw0 : (w : Int) = 0 := by omega
  rw [← hw0] at m
  rcases b2 [] m with e | e
  ·exact e.symm
  ·cases hb' : bestF N A g 0 cs q w with
   | nil => rfl
   | cons x l => rw [hb'] at e; simp [lessF] at e
end
end Go.Ne
