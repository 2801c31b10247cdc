/- Part 15 of the texts that lead to gapFill_holds, gapSpace_holds, gapWider_holds. No condition. -/
import Derived.Lib.Strings
import Derived.Test.YtimblogmflmhkaaH14
set_option linter.unusedSimpArgs false
set_option linter.unusedVariables false
set_option linter.unnecessarySimpa false
namespace Go.Proofs.Ytimblogmflmhkaa
open Go Go.Abs
theorem bget (s : ByteArray) (k : Nat) : s[k]? = s.data.toList[k]? := by
  by_cases h : k < s.size
  · rw [List.getElem?_eq_getElem (by simpa using h), getElem?_pos s k h]; rfl
  · rw [List.getElem?_eq_none (by simp; omega), getElem?_neg s k h]
theorem u8eq (a b : UInt8) : ((a.toNat : Int) = b.toNat) ↔ a = b := by
  rw [Int.natCast_inj]; exact UInt8.toNat_inj
theorem beqI (a b : Int) : (a == b) = decide (a = b) := by
  by_cases h : a = b <;> simp [h]
theorem bneI (a b : Int) : (a != b) = !decide (a = b) := by
  by_cases h : a = b <;> simp [h]
theorem wrapI {n : Int} (h1 : -9223372036854775808 ≤ n) (h2 : n ≤ 9223372036854775807) : IntKind.wrap .i64 n = n := by
  rw [IntKind.wrap_i64]; omega
theorem wrapS {k : Nat} (h : k < 9223372036854775807) : IntKind.wrap .i64 ((k : Int) + 1) = ((k + 1 : Nat) : Int) := by
  rw [wrapI (by omega) (by omega)]; rfl
theorem dropG {α : Type} {l : List α} {k : Nat} (h : k < l.length) : ∃ d, l[k]? = some d ∧ l.drop k = d :: l.drop (k + 1) :=
  ⟨l[k], List.getElem?_eq_getElem h, List.drop_eq_getElem_cons h⟩
theorem szL (s : ByteArray) : s.data.toList.length = s.size := by simp
theorem exq {F : (Nat → AV) → List AV} {g : List AV} (h : g = F (fun i => g.getD i (.v undef))) : ∃ q, g = F q := ⟨_, h⟩
theorem cast0 : ((0 : Nat) : Int) = 0 := _root_.id rfl
theorem cast1 : ((1 : Nat) : Int) = 1 := _root_.id rfl
theorem strEq (a b : ByteArray) : (a.toList == b.toList) = decide (a = b) := by
  rw [ByteArray.toList_eq, ByteArray.toList_eq]
  by_cases h : a = b
  · subst h; simp
  · have : ¬ a.data = b.data := fun e => h (by cases a; cases b; congr)
    simp [h, this]
theorem drop_map {α β : Type} {f : α → β} {l : List α} {k : Nat} {d : α} {t : List α} (h : l.drop k = d :: t) : (l.map f).drop k = f d :: t.map f := by
  rw [← List.map_drop, h]; rfl
attribute [go_sem] strEq
attribute [go_sem] cast0 cast1
theorem Rfs_co {H : List AO} {v r : AV} {vs rs : List AV} (h : Rf H v r) (k : Rfs H vs rs) : Rfs H (v :: vs) (r :: rs) := by
  simp only [Rfs]; exact ⟨r, rs, rfl, h, k⟩
theorem Rfs_nil {H : List AO} : Rfs H [] [] := by simp only [Rfs]
attribute [go_sem] Option.isSome_some Option.isSome_none
attribute [go_sem] beqI bneI bget Int.natCast_nonneg Int.toNat_natCast
end Go.Proofs.Ytimblogmflmhkaa
namespace Go.Proofs.Ytimblogmflmhkaa
open Go Go.Abs
def punct : List UInt8 := [32, 46, 44, 59, 58, 33, 63, 34, 45, 91, 93, 60, 62, 123, 125]
def letr (c : UInt8) : Bool := decide ((32 : Int) ≤ c.toNat ∧ (c.toNat : Int) ≤ 126 ∧ idxB c punct 0 < 0)
set_option maxRecDepth 100000 in
theorem letter93 (c : UInt8) : APure Try.prog 93 [.v (.int .u8 c.toNat)] (.v (.bool (letr c))) := by
  refine call93 (LX_ok ?_)
  unfold letr
  by_cases h1 : (32 : Int) ≤ c.toNat
  · by_cases h2 : (c.toNat : Int) ≤ 126
    · simp only [go_sem, seval, L93, h1, h2]
      refine LCall_pure (indexByte44 ⟨#[32, 46, 44, 59, 58, 33, 63, 34, 45, 91, 93, 60, 62, 123, 125]⟩ c) (Cls.cons (Cl.v _) (Cls.cons (Cl.v _) Cls.nil)) ?_
      simp only [go_sem, seval]
      exact Rf.cl (Cl.v _)
    · simp only [go_sem, seval, L93, h1, h2, false_and, and_false]
      exact Rf.cl (Cl.v _)
  · simp only [go_sem, seval, L93, h1, false_and, and_false]
    exact Rf.cl (Cl.v _)
set_option maxRecDepth 100000 in
theorem letter70 (c : UInt8) : APure Try.prog 70 [.v (.int .u8 c.toNat)] (.v (.bool (letr c))) := by
  refine call70 (LX_ok ?_)
  unfold letr
  by_cases h1 : (c.toNat : Int) < 32
  · have h1' : ¬ (32 : Int) ≤ c.toNat := by omega
    simp only [go_sem, seval, L70, h1, h1', false_and, and_false]
    exact Rf.cl (Cl.v _)
  · have h1' : (32 : Int) ≤ c.toNat := by omega
    by_cases h2 : (126 : Int) < c.toNat
    · have h2' : ¬ (c.toNat : Int) ≤ 126 := by omega
      simp only [go_sem, seval, L70, h1, h1', h2, h2', false_and, and_false]
      exact Rf.cl (Cl.v _)
    · have h2' : (c.toNat : Int) ≤ 126 := by omega
      simp only [go_sem, seval, L70, h1, h1', h2, h2', false_and, and_false]
      refine LX_loop_inv (fun n g H => ∃ k : Nat, ∃ q1 q4 q5 q6 q7 q8 q9 q10 q11 q12 q13 q14 q15 q16 q17 : AV, k + n = 15 ∧ idxB c punct 0 = idxB c (punct.drop k) k ∧ g = [.v (.int .u8 c.toNat), q1, .v (.bool false), .v (.int .i64 k), q4, q5, q6, q7, q8, q9, q10, q11, q12, q13, q14, q15, q16, q17] ∧ H = []) 15 ⟨0, _, _, _, _, _, _, _, _, _, _, _, _, _, _, _, rfl, rfl, rfl, rfl⟩ ?_
      rintro n g H ⟨k, q1, q4, q5, q6, q7, q8, q9, q10, q11, q12, q13, q14, q15, q16, q17, hk, hi, rfl, rfl⟩
      by_cases h3 : k < 15
      · have h4 : (k : Int) < 15 := by omega
        obtain ⟨d, hd⟩ : ∃ d, punct[k]? = some d := ⟨punct[k], List.getElem?_eq_getElem h3⟩
        have hd' : punct.drop k = d :: punct.drop (k + 1) := by
          rw [List.drop_eq_getElem_cons h3]; congr 1; rw [List.getElem?_eq_getElem h3] at hd; injection hd
        have hg : [(32 : UInt8), 46, 44, 59, 58, 33, 63, 34, 45, 91, 93, 60, 62, 123, 125][k]? = some d := hd
        simp only [go_sem, seval, L70_b0, h4, hg]
        by_cases h5 : d = c
        · subst h5
          simp only [go_sem, seval]
          have : idxB d punct 0 = k := by rw [hi, hd']; simp [idxB]
          rw [this, decide_eq_false (by omega)]
          exact Rf.cl (Cl.v _)
        · have h6 : ¬ (d.toNat : Int) = c.toNat := by rw [u8eq]; exact h5
          simp only [go_sem, seval, h6, wrapS (k := k) (by omega)]
          refine ⟨n - 1, by omega, k + 1, _, _, _, _, _, _, _, _, _, _, _, _, _, _, _, by omega, ?_, rfl⟩
          rw [hi, hd']; simp [idxB, h5]
      · have h4 : ¬ (k : Int) < 15 := by omega
        simp only [go_sem, seval, L70_b0, h4]
        have : k = 15 := by omega
        subst this
        rw [hi]
        exact Rf.cl (Cl.v _)
end Go.Proofs.Ytimblogmflmhkaa
namespace Go.Proofs.Ytimblogmflmhkaa
open Go Go.Abs
def plainB (c : UInt8) : Bool := decide ((32 : Int) ≤ c.toNat ∧ (c.toNat : Int) ≤ 126)
def lineE (s : ByteArray) : Int := if (120 : Int) < s.size then 3 else if s.data.toList.all plainB then 0 else 2
set_option maxRecDepth 100000 in
theorem valid34 (s : ByteArray) : APure Try.prog 34 [.v (.string s)] (.v (.int .i64 (lineE s))) := by
  refine call34 (LX_ok ?_)
  unfold lineE
  by_cases h1 : (120 : Int) < s.size
  · simp only [go_sem, seval, L34, h1]
    exact Rf.cl (Cl.v _)
  · simp only [go_sem, seval, L34, h1]
    refine LX_loop_inv (fun n g H => ∃ k : Nat, ∃ q1 q3 q4 q5 q6 q7 q8 q12 q13 q14 q15 q16 q17 q18 q19 q20 q21 : AV, k + n = s.size ∧ s.data.toList.all plainB = (s.data.toList.drop k).all plainB ∧ g = [.v (.string s), q1, .v (.int .i64 0), q3, q4, q5, q6, q7, q8, .sl 0 0 s.size, .v (.int .i64 s.size), .v (.int .i64 k), q12, q13, q14, q15, q16, q17, q18, q19, q20, q21] ∧ H = [AO.cells 1 (List.map (fun b => AV.v (Value.int IntKind.u8 ↑b.toNat)) s.data.toList)]) s.size ⟨0, _, _, _, _, _, _, _, _, _, _, _, _, _, _, _, _, _, by omega, by simp, rfl, rfl⟩ ?_
    rintro n g H ⟨k, q1, q3, q4, q5, q6, q7, q8, q12, q13, q14, q15, q16, q17, q18, q19, q20, q21, hk, hi, rfl, rfl⟩
    by_cases h3 : k < s.size
    · have h4 : (k : Int) < s.size := by omega
      obtain ⟨d, hd, hd'⟩ := dropG (l := s.data.toList) (k := k) (by rw [szL]; exact h3)
      by_cases h5 : (d.toNat : Int) < 32
      · simp only [go_sem, seval, L34_b0, h4, Nat.zero_add, List.getElem?_map, hd, h5]
        have : s.data.toList.all plainB = false := by rw [hi, hd']; simp [plainB]; omega
        rw [this]
        exact Rf.cl (Cl.v _)
      · by_cases h6 : (126 : Int) < d.toNat
        · simp only [go_sem, seval, L34_b0, h4, Nat.zero_add, List.getElem?_map, hd, h5, h6]
          have : s.data.toList.all plainB = false := by rw [hi, hd']; simp [plainB]; omega
          rw [this]
          exact Rf.cl (Cl.v _)
        · simp only [go_sem, seval, L34_b0, h4, Nat.zero_add, List.getElem?_map, hd, h5, h6, wrapS (k := k) (by omega)]
          refine ⟨n - 1, by omega, k + 1, _, _, _, _, _, _, _, _, _, _, _, _, _, _, _, _, _, by omega, ?_, rfl⟩
          rw [hi, hd']
          have : plainB d = true := by simp [plainB]; omega
          simp [this]
    · have h4 : ¬ (k : Int) < s.size := by omega
      simp only [go_sem, seval, L34_b0, h4]
      have : s.data.toList.all plainB = true := by rw [hi, List.drop_eq_nil_of_le (by rw [szL]; omega)]; rfl
      rw [this]
      exact Rf.cl (Cl.v _)
end Go.Proofs.Ytimblogmflmhkaa
namespace Go.Proofs.Ytimblogmflmhkaa
open Go Go.Abs
theorem letr_plain {c : UInt8} (h : letr c = true) : plainB c = true := by
  simp only [letr, decide_eq_true_eq] at h
  simp only [plainB, decide_eq_true_eq]
  exact ⟨h.1, h.2.1⟩
def S91a (c : UInt8) (q : Nat → AV) : List AV := [.v (.string ⟨#[c]⟩), q 1, .v (.slice none 0 0), .v (.int .i64 0), q 4, .v (.slice none 0 0), q 6, q 7, q 8, q 9, q 10, q 11, q 12, q 13, q 14, .sl 0 0 1, .v (.int .i64 1), .v (.int .i64 0), q 18, q 19, q 20, q 21, q 22, q 23, q 24, q 25, q 26, q 27, q 28, q 29, q 30, q 31, q 32, q 33, q 34, q 35, q 36, q 37, q 38, q 39, q 40, q 41, q 42, q 43, q 44, q 45, q 46, q 47, q 48, q 49, q 50, q 51, q 52, q 53, q 54, q 55, q 56, q 57, q 58]
def S91b (c : UInt8) (f : AV) (q : Nat → AV) : List AV := [.v (.string ⟨#[c]⟩), q 1, .v (.slice none 0 0), .v (.int .i64 0), q 4, f, q 6, q 7, q 8, q 9, q 10, q 11, q 12, q 13, q 14, .sl 0 0 1, .v (.int .i64 1), .v (.int .i64 1), q 18, q 19, q 20, q 21, q 22, q 23, q 24, q 25, q 26, q 27, q 28, q 29, q 30, q 31, q 32, q 33, q 34, q 35, q 36, q 37, q 38, q 39, q 40, q 41, q 42, q 43, q 44, q 45, q 46, q 47, q 48, q 49, q 50, q 51, q 52, q 53, q 54, q 55, q 56, q 57, q 58]
def J91 (c : UInt8) (f : AV) (R : List AO) (n : Nat) (g : List AV) (H : List AO) : Prop :=
  (n = 1 ∧ (∃ q, g = S91a c q) ∧ H = [AO.cells 1 [AV.v (Value.int IntKind.u8 ↑c.toNat)]]) ∨ (n = 0 ∧ (∃ q, g = S91b c f q) ∧ H = AO.cells 1 [AV.v (Value.int IntKind.u8 ↑c.toNat)] :: R)
set_option maxRecDepth 100000 in
set_option maxHeartbeats 1000000 in
theorem words91 (c : UInt8) (hp : plainB c = true) : APure Try.prog 91 [.v (.string ⟨#[c]⟩)] (.tu [if letr c then .im 1 [.v (.int .i64 0), .v (.int .i64 1)] else .v (.slice none 0 0), .v (.int .i64 0)]) := by
  refine call91 (LX_ok ?_)
  simp only [go_sem, seval, L91]
  refine LCall_pure (valid34 ⟨#[c]⟩) (Cls.cons (Cl.v _) Cls.nil) ?_
  have h0 : lineE ⟨#[c]⟩ = 0 := by simp [lineE, ByteArray.size, hp]
  rw [h0]
  have hs : ByteArray.size ⟨#[c]⟩ = 1 := by rfl
  have w1 : IntKind.wrap .i64 (0 + 1) = 1 := by decide
  by_cases hl : letr c = true
  · simp only [go_sem, seval, hs, hl]
    refine LX_loop_inv (J91 c (.sl 2 0 1) [AO.cells 2 [AV.v (.int .i64 0), AV.v (.int .i64 1)], AO.cells 2 [AV.v (.int .i64 0), AV.v (.int .i64 1)]]) 1 (.inl ⟨rfl, exq rfl, rfl⟩) ?_
    rintro n g H (⟨rfl, ⟨q, rfl⟩, rfl⟩ | ⟨rfl, ⟨q, rfl⟩, rfl⟩)
    · simp only [go_sem, seval, L91_b0, S91a]
      refine LCall_pure (letter93 c) (Cls.cons (Cl.v _) Cls.nil) ?_
      rw [hl]
      simp only [go_sem, seval, w1]
      exact ⟨0, by omega, .inr ⟨rfl, exq rfl, rfl⟩⟩
    · simp only [go_sem, seval, L91_b0, S91b]
      exact Rf.tu (Rfs_co (Rf.sl (.inl (by rfl)) (Rfs.cls (Cls.cons (Cl.v _) (Cls.cons (Cl.v _) Cls.nil)))) (Rfs.cls (Cls.cons (Cl.v _) Cls.nil)))
  · simp only [go_sem, seval, hs, hl]
    refine LX_loop_inv (J91 c (.v (.slice none 0 0)) []) 1 (.inl ⟨rfl, exq rfl, rfl⟩) ?_
    rintro n g H (⟨rfl, ⟨q, rfl⟩, rfl⟩ | ⟨rfl, ⟨q, rfl⟩, rfl⟩)
    · simp only [go_sem, seval, L91_b0, S91a]
      refine LCall_pure (letter93 c) (Cls.cons (Cl.v _) Cls.nil) ?_
      have hl' : letr c = false := by simpa using hl
      rw [hl']
      simp only [go_sem, seval, w1]
      exact ⟨0, by omega, .inr ⟨rfl, exq rfl, rfl⟩⟩
    · simp only [go_sem, seval, L91_b0, S91b]
      exact Rf.cl (Cl.tu (Cls.cons (Cl.v _) (Cls.cons (Cl.v _) Cls.nil)))
set_option maxRecDepth 100000 in
theorem words91' (c : UInt8) (hp : plainB c = false) : APure Try.prog 91 [.v (.string ⟨#[c]⟩)] (.tu [.v (.slice none 0 0), .v (.int .i64 2)]) := by
  refine call91 (LX_ok ?_)
  simp only [go_sem, seval, L91]
  refine LCall_pure (valid34 ⟨#[c]⟩) (Cls.cons (Cl.v _) Cls.nil) ?_
  have h0 : lineE ⟨#[c]⟩ = 2 := by simp [lineE, ByteArray.size, hp]
  rw [h0]
  simp only [go_sem, seval]
  exact Rf.cl (Cl.tu (Cls.cons (Cl.v _) (Cls.cons (Cl.v _) Cls.nil)))
set_option maxRecDepth 100000 in
theorem letter82 (c : UInt8) : APure Try.prog 82 [.v (.int .u8 c.toNat)] (.v (.bool (letr c))) := by
  refine call82 (LX_ok ?_)
  simp only [go_sem, seval, L82, UInt8.ofNat_toNat]
  by_cases hp : plainB c = true
  · refine LCall_pure (words91 c hp) (Cls.cons (Cl.v _) Cls.nil) ?_
    by_cases hl : letr c = true
    · rw [if_pos hl, hl]
      simp only [go_sem, seval]
      exact Rf.cl (Cl.v _)
    · rw [if_neg hl]
      have hl' : letr c = false := by simpa using hl
      rw [hl']
      simp only [go_sem, seval]
      exact Rf.cl (Cl.v _)
  · have hp' : plainB c = false := by simpa using hp
    refine LCall_pure (words91' c hp') (Cls.cons (Cl.v _) Cls.nil) ?_
    have hl' : letr c = false := by
      cases h : letr c with
      | false => rfl
      | true => exact (hp (letr_plain h)).elim
    rw [hl']
    simp only [go_sem, seval]
    exact Rf.cl (Cl.v _)
def smal (c : UInt8) : Bool := decide (letr c = true ∧ ((c.toNat : Int) < 65 ∨ (90 : Int) < c.toNat))
set_option maxRecDepth 100000 in
theorem small79 (c : UInt8) : APure Try.prog 79 [.v (.int .u8 c.toNat)] (.v (.bool (smal c))) := by
  refine call79 (LX_ok ?_)
  unfold smal
  simp only [go_sem, seval, L79]
  refine LCall_pure (letter82 c) (Cls.cons (Cl.v _) Cls.nil) ?_
  by_cases hl : letr c = true
  · by_cases h1 : (c.toNat : Int) < 65
    · simp only [go_sem, seval, hl, h1, true_or]
      exact Rf.cl (Cl.v _)
    · simp only [go_sem, seval, hl, h1, false_or]
      exact Rf.cl (Cl.v _)
  · have hl' : letr c = false := by simpa using hl
    simp only [go_sem, seval, hl', false_and, Bool.false_eq_true]
    exact Rf.cl (Cl.v _)
set_option maxRecDepth 100000 in
theorem letter54 (c : UInt8) : APure Try.prog 54 [.v (.int .u8 c.toNat)] (.v (.bool (smal c))) := by
  refine call54 (LX_ok ?_)
  unfold smal
  simp only [go_sem, seval, L54]
  refine LCall_pure (letter70 c) (Cls.cons (Cl.v _) Cls.nil) ?_
  by_cases hl : letr c = true
  · by_cases h1 : (c.toNat : Int) < 65
    · simp only [go_sem, seval, hl, h1, true_or]
      exact Rf.cl (Cl.v _)
    · simp only [go_sem, seval, hl, h1, false_or]
      exact Rf.cl (Cl.v _)
  · have hl' : letr c = false := by simpa using hl
    simp only [go_sem, seval, hl', false_and, Bool.false_eq_true]
    exact Rf.cl (Cl.v _)
set_option maxRecDepth 100000 in
theorem fits81 (c : UInt8) : APure Try.prog 81 [.v (.int .u8 c.toNat)] (.v (.bool (!letr c))) := by
  refine call81 (LX_ok ?_)
  simp only [go_sem, seval, L81]
  refine LCall_pure (letter82 c) (Cls.cons (Cl.v _) Cls.nil) ?_
  simp only [go_sem, seval]
  exact Rf.cl (Cl.v _)
set_option maxRecDepth 100000 in
theorem wrong83 (c : UInt8) : APure Try.prog 83 [.v (.int .u8 c.toNat)] (.v (.bool (!smal c))) := by
  refine call83 (LX_ok ?_)
  simp only [go_sem, seval, L83]
  refine LCall_pure (small79 c) (Cls.cons (Cl.v _) Cls.nil) ?_
  simp only [go_sem, seval]
  exact Rf.cl (Cl.v _)
def badM (c : UInt8) : Bool := decide ((c.toNat : Int) ≠ 63 ∧ ¬ smal c = true)
set_option maxRecDepth 100000 in
theorem mask78 (c : UInt8) : APure Try.prog 78 [.v (.int .u8 c.toNat)] (.v (.bool (badM c))) := by
  refine call78 (LX_ok ?_)
  unfold badM
  by_cases h : (c.toNat : Int) = 63
  · simp only [go_sem, seval, L78, h, false_and]
    exact Rf.cl (Cl.v _)
  · simp only [go_sem, seval, L78, h]
    refine LCall_pure (small79 c) (Cls.cons (Cl.v _) Cls.nil) ?_
    cases hs : smal c
    · simp only [go_sem, seval, Bool.false_eq_true]
      exact Rf.cl (Cl.v _)
    · simp only [go_sem, seval]
      exact Rf.cl (Cl.v _)
end Go.Proofs.Ytimblogmflmhkaa
namespace Go.Proofs.Ytimblogmflmhkaa
open Go Go.Abs
def idxP {α : Type} (p : α → Bool) : List α → Int → Int
  | [], _ => -1
  | b :: l, k => if p b then k else idxP p l (k + 1)
theorem idxP_iff {α : Type} (p : α → Bool) : ∀ (l : List α) (k : Int), 0 ≤ k → (0 ≤ idxP p l k ↔ l.any p = true) := by
  intro l
  induction l with
  | nil => intro k h; simp [idxP]
  | cons b l ih =>
    intro k h
    by_cases hb : p b = true
    · simp [idxP, hb, h]
    · have := ih (k + 1) (by omega)
      simp only [idxP, if_neg hb, List.any_cons, this]
      simp [hb]
theorem idxP_any {α : Type} (p : α → Bool) (l : List α) (k : Int) (h : 0 ≤ k) : decide (0 ≤ idxP p l k) = l.any p := by
  rw [Bool.eq_iff_iff, decide_eq_true_eq]; exact idxP_iff p l k h
def byts (l : List UInt8) : List AV := l.map fun b => .v (.int .u8 b.toNat)
theorem Cls_byts (l : List UInt8) : Cls (byts l) := Cls.map _ fun _ => Cl.v _
def S90 (f : FuncId) (l : List UInt8) (k : Nat) (q : Nat → AV) : List AV := [.im l.length (byts l), .fn (.func f) [] [], q 2, q 3, .v (.int .i64 0), q 5, q 6, .v (.int .i64 l.length), .v (.int .i64 k), q 9, q 10, q 11, q 12, q 13, q 14, q 15, q 16, q 17, q 18]
def J90 (f : FuncId) (p : UInt8 → Bool) (l : List UInt8) (n : Nat) (g : List AV) (H : List AO) : Prop :=
  ∃ k : Nat, k + n = l.length ∧ idxP p l 0 = idxP p (l.drop k) k ∧ (∃ q, g = S90 f l k q) ∧ H = []
set_option maxRecDepth 100000 in
theorem indexFunc90 (f : FuncId) (p : UInt8 → Bool) (hp : ∀ c, APure Try.prog f [.v (.int .u8 c.toNat)] (.v (.bool (p c)))) (l : List UInt8) (hl : l.length < 1000000) :
    APure Try.prog 90 [.im l.length (byts l), .fn (.func f) [] []] (.v (.int .i64 (idxP p l 0))) := by
  refine call90 (LX_ok ?_)
  simp only [go_sem, seval, L90]
  refine LX_loop_inv (J90 f p l) l.length ⟨0, by omega, by simp, exq rfl, rfl⟩ ?_
  rintro n g H ⟨k, hk, hi, ⟨q, rfl⟩, rfl⟩
  by_cases h3 : k < l.length
  · have h4 : (k : Int) < l.length := by omega
    obtain ⟨d, hd, hd'⟩ := dropG h3
    simp only [go_sem, seval, L90_b0, S90, h4, h3, byts, List.length_map, drop_map hd']
    refine LCall_pure (hp d) (Cls.cons (Cl.v _) Cls.nil) ?_
    cases hpd : p d
    · simp only [go_sem, seval, wrapS (k := k) (by omega)]
      refine ⟨n - 1, by omega, k + 1, by omega, ?_, exq rfl, rfl⟩
      rw [hi, hd']; simp [idxP, hpd]
    · simp only [go_sem, seval]
      rw [hi, hd']
      simp only [idxP, hpd, if_true]
      exact Rf.cl (Cl.v _)
  · have h4 : ¬ (k : Int) < l.length := by omega
    simp only [go_sem, seval, L90_b0, S90, h4]
    rw [hi, List.drop_eq_nil_of_le (by omega)]
    exact Rf.cl (Cl.v _)
set_option maxRecDepth 100000 in
theorem containsFunc77 (f : FuncId) (p : UInt8 → Bool) (hp : ∀ c, APure Try.prog f [.v (.int .u8 c.toNat)] (.v (.bool (p c)))) (l : List UInt8) (hl : l.length < 1000000) :
    APure Try.prog 77 [.im l.length (byts l), .fn (.func f) [] []] (.v (.bool (l.any p))) := by
  refine call77 (LX_ok ?_)
  simp only [go_sem, seval, L77]
  refine LCall_pure (indexFunc90 f p hp l hl) (Cls.cons (Cl.im (Cls_byts l)) (Cls.cons (Cl.fn Cls.nil Cls.nil) Cls.nil)) ?_
  simp only [go_sem, seval, ge_iff_le, idxP_any p l 0 (by omega)]
  exact Rf.cl (Cl.v _)
theorem borrowB {s : ByteArray} {f : FuncId} : Rfs [AO.cells 1 (List.map (fun b => AV.v (Value.int IntKind.u8 ↑b.toNat)) s.data.toList)] [AV.sl 0 0 s.size, AV.fn (.func f) [] []] [.im s.data.toList.length (byts s.data.toList), .fn (.func f) [] []] := by
  rw [szL]
  exact Rfs_co (Rf.sl (.inl (by rfl)) (Rfs.cls (Cls_byts _))) (Rfs.cls (Cls.cons (Cl.fn Cls.nil Cls.nil) Cls.nil))
def wordE (s : ByteArray) : Int := if s = ⟨#[]⟩ then 7 else if (16 : Int) < s.size then 3 else if s.data.toList.any (fun c => !smal c) then 2 else 0
set_option maxRecDepth 100000 in
theorem wrong66 (s : ByteArray) : APure Try.prog 66 [.v (.string s)] (.v (.int .i64 (wordE s))) := by
  refine call66 (LX_ok ?_)
  unfold wordE
  by_cases h0 : s = ⟨#[]⟩
  · simp only [go_sem, seval, L66, h0]
    exact Rf.cl (Cl.v _)
  · by_cases h1 : (16 : Int) < s.size
    · simp only [go_sem, seval, L66, h0, h1]
      exact Rf.cl (Cl.v _)
    · simp only [go_sem, seval, L66, h0, h1]
      refine LCall_borrow borrowB (containsFunc77 83 (fun c => !smal c) wrong83 s.data.toList (by rw [szL]; omega)) rfl ?_
      cases hs : s.data.toList.any (fun c => !smal c)
      · simp only [go_sem, seval, Bool.false_eq_true]
        exact Rf.cl (Cl.v _)
      · simp only [go_sem, seval]
        exact Rf.cl (Cl.v _)
def S36 (s : ByteArray) (k : Nat) (q : Nat → AV) : List AV := [.v (.string s), q 1, .v (.int .i64 0), .v (.int .i64 k), q 4, q 5, q 6, q 7, q 8, q 9, q 10, q 11, q 12, q 13, q 14, q 15, q 16, q 17, q 18, q 19]
def J36 (s : ByteArray) (n : Nat) (g : List AV) (H : List AO) : Prop :=
  ∃ k : Nat, k + n = s.size ∧ s.data.toList.any (fun c => !smal c) = (s.data.toList.drop k).any (fun c => !smal c) ∧ (∃ q, g = S36 s k q) ∧ H = []
set_option maxRecDepth 100000 in
theorem word36 (s : ByteArray) : APure Try.prog 36 [.v (.string s)] (.v (.int .i64 (wordE s))) := by
  refine call36 (LX_ok ?_)
  unfold wordE
  by_cases h0 : s = ⟨#[]⟩
  · simp only [go_sem, seval, L36, h0]
    exact Rf.cl (Cl.v _)
  · by_cases h1 : (16 : Int) < s.size
    · simp only [go_sem, seval, L36, h0, h1]
      exact Rf.cl (Cl.v _)
    · simp only [go_sem, seval, L36, h0, h1]
      refine LX_loop_inv (J36 s) s.size ⟨0, by omega, by simp, exq rfl, rfl⟩ ?_
      rintro n g H ⟨k, hk, hi, ⟨q, rfl⟩, rfl⟩
      by_cases h3 : k < s.size
      · have h4 : (k : Int) < s.size := by omega
        obtain ⟨d, hd, hd'⟩ := dropG (l := s.data.toList) (k := k) (by rw [szL]; exact h3)
        simp only [go_sem, seval, L36_b0, S36, h4, hd]
        refine LCall_pure (letter54 d) (Cls.cons (Cl.v _) Cls.nil) ?_
        cases hpd : smal d
        · simp only [go_sem, seval]
          rw [hi, hd']
          simp only [List.any_cons, hpd, Bool.not_false, Bool.true_or, if_true]
          exact Rf.cl (Cl.v _)
        · simp only [go_sem, seval, wrapS (k := k) (by omega)]
          refine ⟨n - 1, by omega, k + 1, by omega, ?_, exq rfl, rfl⟩
          rw [hi, hd']; simp [hpd]
      · have h4 : ¬ (k : Int) < s.size := by omega
        simp only [go_sem, seval, L36_b0, S36, h4]
        rw [hi, List.drop_eq_nil_of_le (by rw [szL]; omega)]
        exact Rf.cl (Cl.v _)
def S40 (s : ByteArray) (k : Nat) (q : Nat → AV) : List AV := [.v (.string s), q 1, .v (.int .i64 0), .v (.int .i64 k), q 4, q 5, q 6, q 7, q 8, q 9, q 10, q 11, q 12, q 13, q 14, q 15, q 16, q 17, q 18, q 19, q 20, q 21, q 22]
def J40 (s : ByteArray) (n : Nat) (g : List AV) (H : List AO) : Prop :=
  ∃ k : Nat, k + n = s.size ∧ s.data.toList.all plainB = (s.data.toList.drop k).all plainB ∧ (∃ q, g = S40 s k q) ∧ H = []
set_option maxRecDepth 100000 in
theorem valid40 (s : ByteArray) : APure Try.prog 40 [.v (.string s)] (.v (.int .i64 (lineE s))) := by
  refine call40 (LX_ok ?_)
  unfold lineE
  by_cases h1 : (120 : Int) < s.size
  · simp only [go_sem, seval, L40, h1]
    exact Rf.cl (Cl.v _)
  · simp only [go_sem, seval, L40, h1]
    refine LX_loop_inv (J40 s) s.size ⟨0, by omega, by simp, exq rfl, rfl⟩ ?_
    rintro n g H ⟨k, hk, hi, ⟨q, rfl⟩, rfl⟩
    by_cases h3 : k < s.size
    · have h4 : (k : Int) < s.size := by omega
      obtain ⟨d, hd, hd'⟩ := dropG (l := s.data.toList) (k := k) (by rw [szL]; exact h3)
      by_cases h5 : (d.toNat : Int) < 32
      · simp only [go_sem, seval, L40_b0, S40, h4, hd, h5]
        have : s.data.toList.all plainB = false := by rw [hi, hd']; simp [plainB]; omega
        rw [this]
        exact Rf.cl (Cl.v _)
      · by_cases h6 : (126 : Int) < d.toNat
        · simp only [go_sem, seval, L40_b0, S40, h4, hd, h5, h6]
          have : s.data.toList.all plainB = false := by rw [hi, hd']; simp [plainB]; omega
          rw [this]
          exact Rf.cl (Cl.v _)
        · simp only [go_sem, seval, L40_b0, S40, h4, hd, h5, h6, wrapS (k := k) (by omega)]
          refine ⟨n - 1, by omega, k + 1, by omega, ?_, exq rfl, rfl⟩
          rw [hi, hd']
          have : plainB d = true := by simp [plainB]; omega
          simp [this]
    · have h4 : ¬ (k : Int) < s.size := by omega
      simp only [go_sem, seval, L40_b0, S40, h4]
      rw [hi, List.drop_eq_nil_of_le (by rw [szL]; omega)]
      exact Rf.cl (Cl.v _)
def maskE (s : ByteArray) : Int := if (40 : Int) < s.size then 3 else if (1 : Int) < s.data.toList.count 42 ∨ s.data.toList.any badM = true then 2 else 0
set_option maxRecDepth 100000 in
theorem count45 (s : ByteArray) (c : UInt8) : APure Try.prog 45 [.v (.string s), .v (.string ⟨#[c]⟩)] (.v (.int .i64 (s.data.toList.count c))) := by
  refine call45 (LX_ok ?_)
  have hs : ByteArray.size ⟨#[c]⟩ = 1 := by rfl
  simp only [go_sem, seval, L45, hs]
  refine LCall_pure (countString s c) (Cls.cons (Cl.v _) (Cls.cons (Cl.v _) Cls.nil)) ?_
  simp only [go_sem, seval]
  exact Rf.cl (Cl.v _)
set_option maxRecDepth 100000 in
theorem mask64 (s : ByteArray) : APure Try.prog 64 [.v (.string s)] (.v (.int .i64 (maskE s))) := by
  refine call64 (LX_ok ?_)
  unfold maskE
  by_cases h0 : (40 : Int) < s.size
  · simp only [go_sem, seval, L64, h0]
    exact Rf.cl (Cl.v _)
  · simp only [go_sem, seval, L64, h0]
    refine LCall_pure (count45 s 42) (Cls.cons (Cl.v _) (Cls.cons (Cl.v _) Cls.nil)) ?_
    by_cases h1 : (1 : Int) < s.data.toList.count 42
    · simp only [go_sem, seval, h1, true_or]
      exact Rf.cl (Cl.v _)
    · simp only [go_sem, seval, h1, false_or]
      refine LCall_borrow borrowB (containsFunc77 78 badM mask78 s.data.toList (by rw [szL]; omega)) rfl ?_
      cases hs : s.data.toList.any badM
      · simp only [go_sem, seval, Bool.false_eq_true]
        exact Rf.cl (Cl.v _)
      · simp only [go_sem, seval]
        exact Rf.cl (Cl.v _)
end Go.Proofs.Ytimblogmflmhkaa
namespace Go.Proofs.Ytimblogmflmhkaa
open Go Go.Abs
def S53 (s : ByteArray) (k st : Nat) (q : Nat → AV) : List AV := [.v (.string s), q 1, .v (.int .i64 0), .v (.int .i64 st), .v (.int .i64 k), q 5, q 6, q 7, q 8, q 9, q 10, q 11, q 12, q 13, q 14, q 15, q 16, q 17, q 18, q 19, q 20, q 21, q 22, q 23, q 24, q 25, q 26, q 27, q 28, q 29, q 30, q 31, q 32, q 33, q 34]
def J53 (s : ByteArray) (n : Nat) (g : List AV) (H : List AO) : Prop :=
  ∃ k st : Nat, k + n = s.size ∧ st ≤ 1 ∧ s.data.toList.any badM = (s.data.toList.drop k).any badM ∧ s.data.toList.count 42 = st + (s.data.toList.drop k).count 42 ∧ (∃ q, g = S53 s k st q) ∧ H = []
set_option maxRecDepth 100000 in
theorem mask53 (s : ByteArray) : APure Try.prog 53 [.v (.string s)] (.v (.int .i64 (maskE s))) := by
  refine call53 (LX_ok ?_)
  unfold maskE
  by_cases h1 : (40 : Int) < s.size
  · simp only [go_sem, seval, L53, h1]
    exact Rf.cl (Cl.v _)
  · simp only [go_sem, seval, L53, h1]
    refine LX_loop_inv (J53 s) s.size ⟨0, 0, by omega, by omega, by simp, by simp, exq rfl, rfl⟩ ?_
    rintro n g H ⟨k, st, hk, hst, hi, hc, ⟨q, rfl⟩, rfl⟩
    by_cases h3 : k < s.size
    · have h4 : (k : Int) < s.size := by omega
      obtain ⟨d, hd, hd'⟩ := dropG (l := s.data.toList) (k := k) (by rw [szL]; exact h3)
      rw [hd'] at hi hc
      by_cases h5 : (d.toNat : Int) = 42
      · have e5 : d = 42 := by rw [← u8eq]; exact h5
        have h6 : ¬ (d.toNat : Int) = 63 := by omega
        subst e5
        simp only [go_sem, seval, L53_b0, S53, h4, hd, h5, h6, wrapS (k := st) (by omega)]
        refine LCall_pure (letter54 42) (Cls.cons (Cl.v _) Cls.nil) ?_
        have hsm : smal 42 = true := by decide
        have hbm : badM 42 = false := by decide
        rw [hsm]
        by_cases h7 : st = 0
        · subst h7
          have h8 : ¬ ((0 + 1 : Nat) : Int) > 1 := by omega
          simp only [go_sem, seval, h8, wrapS (k := k) (by omega)]
          refine ⟨n - 1, by omega, k + 1, 0 + 1, by omega, by omega, ?_, ?_, exq rfl, rfl⟩
          · rw [hi]; simp [hbm]
          · rw [hc]; simp; omega
        · have h8 : (1 : Int) < ((st + 1 : Nat) : Int) := by omega
          simp only [go_sem, seval, h8]
          have : (1 : Int) < s.data.toList.count 42 := by rw [hc]; simp; omega
          rw [if_pos (.inl this)]
          exact Rf.cl (Cl.v _)
      · have h5' : ¬ d = 42 := by rw [← u8eq]; exact h5
        have h8 : ¬ (st : Int) > 1 := by omega
        by_cases h6 : (d.toNat : Int) = 63
        · have hbm : badM d = false := by simp [badM, h6]
          simp only [go_sem, seval, L53_b0, S53, h4, hd, h5, h6, h8, wrapS (k := k) (by omega)]
          refine ⟨n - 1, by omega, k + 1, st, by omega, by omega, ?_, ?_, exq rfl, rfl⟩
          · rw [hi]; simp [hbm]
          · rw [hc, List.count_cons_of_ne h5']
        · simp only [go_sem, seval, L53_b0, S53, h4, hd, h5, h6, h8]
          refine LCall_pure (letter54 d) (Cls.cons (Cl.v _) Cls.nil) ?_
          cases hsm : smal d
          · simp only [go_sem, seval]
            have : s.data.toList.any badM = true := by rw [hi]; simp [badM, h6, hsm]
            rw [if_pos (.inr this)]
            exact Rf.cl (Cl.v _)
          · simp only [go_sem, seval, h8, wrapS (k := k) (by omega)]
            refine ⟨n - 1, by omega, k + 1, st, by omega, by omega, ?_, ?_, exq rfl, rfl⟩
            · rw [hi]; simp [badM, hsm]
            · rw [hc, List.count_cons_of_ne h5']
    · have h4 : ¬ (k : Int) < s.size := by omega
      simp only [go_sem, seval, L53_b0, S53, h4]
      rw [List.drop_eq_nil_of_le (by rw [szL]; omega)] at hi hc
      rw [hi, hc, if_neg (by simp; omega)]
      exact Rf.cl (Cl.v _)
theorem idxB_eq (c : UInt8) (s : ByteArray) (h : (⟨#[c]⟩ : ByteArray) = s) : idxB c s.data.toList 0 = 0 := by
  subst h; simp [idxB]
set_option maxRecDepth 100000 in
set_option maxHeartbeats 2000000 in
theorem index74 (s : ByteArray) (c : UInt8) : APure Try.prog 74 [.v (.string s), .v (.string ⟨#[c]⟩)] (.v (.int .i64 (idxB c s.data.toList 0))) := by
  refine call74 (LX_ok ?_)
  have hs : ByteArray.size ⟨#[c]⟩ = 1 := by rfl
  by_cases h : (⟨#[c]⟩ : ByteArray) = s
  · have h9 : s.size = 1 := by rw [← h]; rfl
    simp only [go_sem, seval, L74, h9, h]
    rw [idxB_eq c s h]
    exact Rf.cl (Cl.v _)
  · simp only [go_sem, seval, L74, hs, h]
    refine LCall_pure (indexByte58 s c) (Cls.cons (Cl.v _) (Cls.cons (Cl.v _) Cls.nil)) ?_
    simp only [go_sem, seval]
    exact Rf.cl (Cl.v _)
end Go.Proofs.Ytimblogmflmhkaa
namespace Go.Proofs.Ytimblogmflmhkaa
open Go Go.Abs
theorem idxB_lt (c : UInt8) : ∀ (l : List UInt8) (k : Nat), 0 ≤ idxB c l k → ∃ i : Nat, idxB c l k = ((k + i : Nat) : Int) ∧ i < l.length := by
  intro l
  induction l with
  | nil => intro k h; simp [idxB] at h
  | cons b l ih =>
    intro k h
    by_cases hb : b = c
    · exact ⟨0, by simp [idxB, hb], by simp⟩
    · simp only [idxB, if_neg hb] at h ⊢
      obtain ⟨i, h1, h2⟩ := ih (k + 1) (by simpa using h)
      refine ⟨i + 1, ?_, by simp; omega⟩
      have : ((k : Int) + 1) = ((k + 1 : Nat) : Int) := rfl
      rw [this, h1]; congr 1; omega
theorem mixedP : Try.prog.follows .mixedOrders = true := by kernel_rfl
def cutR (c : UInt8) (s : ByteArray) : AV :=
  if 0 ≤ idxB c s.data.toList 0 then .tu [.v (.string (s.extract 0 (idxB c s.data.toList 0).toNat)), .v (.string (s.extract ((idxB c s.data.toList 0).toNat + 1) s.size)), .v (.bool true)]
  else .tu [.v (.string s), .v (.string ⟨#[]⟩), .v (.bool false)]
set_option maxRecDepth 100000 in
set_option maxHeartbeats 1000000 in
theorem cut75 (s : ByteArray) (c : UInt8) (hs : s.size < 1000000) : APure Try.prog 75 [.v (.string s), .v (.string ⟨#[c]⟩)] (cutR c s) := by
  refine call75 (LX_ok ?_)
  have h1 : ByteArray.size ⟨#[c]⟩ = 1 := by rfl
  unfold cutR
  simp only [go_sem, seval, L75]
  refine LCall_pure (index74 s c) (Cls.cons (Cl.v _) (Cls.cons (Cl.v _) Cls.nil)) ?_
  by_cases h : 0 ≤ idxB c s.data.toList 0
  · obtain ⟨i, h2, h3⟩ := idxB_lt c s.data.toList 0 h
    have h2' : idxB c s.data.toList 0 = (i : Int) := by
      have := h2; simpa using this
    rw [szL] at h3
    have h4 : (i : Int) ≤ s.size := by omega
    have h5 : ((i + 1 : Nat) : Int) ≤ s.size := by omega
    rw [if_pos h, h2']
    simp only [go_sem, seval, ge_iff_le]
    refine LW_still dl75_3 mixedP dx75_3 ?_
    simp only [go_sem, seval, l75_3, h1, wrapS (k := i) (by omega), h4, h5]
    exact Rf.cl (Cl.tu (Cls.cons (Cl.v _) (Cls.cons (Cl.v _) (Cls.cons (Cl.v _) Cls.nil))))
  · rw [if_neg h]
    simp only [go_sem, seval, ge_iff_le, h]
    exact Rf.cl (Cl.tu (Cls.cons (Cl.v _) (Cls.cons (Cl.v _) (Cls.cons (Cl.v _) Cls.nil))))
set_option maxRecDepth 100000 in
theorem cut62 (s : ByteArray) (c : UInt8) (hs : s.size < 1000000) : APure Try.prog 62 [.v (.string s), .v (.string ⟨#[c]⟩)] (cutR c s) := by
  refine call62 (LX_ok ?_)
  simp only [go_sem, seval, L62]
  refine LCall_pure (cut75 s c hs) (Cls.cons (Cl.v _) (Cls.cons (Cl.v _) Cls.nil)) ?_
  unfold cutR
  by_cases h : 0 ≤ idxB c s.data.toList 0
  · rw [if_pos h]
    simp only [go_sem, seval]
    exact Rf.cl (Cl.tu (Cls.cons (Cl.v _) (Cls.cons (Cl.v _) (Cls.cons (Cl.v _) Cls.nil))))
  · rw [if_neg h]
    simp only [go_sem, seval]
    exact Rf.cl (Cl.tu (Cls.cons (Cl.v _) (Cls.cons (Cl.v _) (Cls.cons (Cl.v _) Cls.nil))))
def fitB (w m : UInt8) : Bool := decide (w = m ∨ (m = 63 ∧ letr w = true))
def matchL : List UInt8 → List UInt8 → Bool
  | [], [] => true
  | w :: ws, m :: ms => fitB w m && matchL ws ms
  | _, _ => false
theorem matchL_len : ∀ (w m : List UInt8), w.length ≠ m.length → matchL w m = false
  | [], [], h => (h rfl).elim
  | _ :: _, [], _ => rfl
  | [], _ :: _, _ => rfl
  | w :: ws, m :: ms, h => by
    simp only [matchL, matchL_len ws ms (by simpa using h), Bool.and_false]
def S80 (w m : ByteArray) (k : Nat) (q : Nat → AV) : List AV := [.v (.string w), .v (.string m), q 2, q 3, .v (.bool false), q 5, q 6, q 7, q 8, q 9, q 10, q 11, .v (.int .i64 m.size), .v (.int .i64 k), q 14, q 15, q 16, q 17, q 18, q 19, q 20, q 21, q 22, q 23, q 24, q 25, q 26, q 27, q 28, q 29, q 30, q 31, q 32, q 33, q 34, q 35, q 36]
def J80 (w m : ByteArray) (n : Nat) (g : List AV) (H : List AO) : Prop :=
  ∃ k : Nat, k + n = m.size ∧ matchL w.data.toList m.data.toList = matchL (w.data.toList.drop k) (m.data.toList.drop k) ∧ (∃ q, g = S80 w m k q) ∧ H = []
set_option maxRecDepth 100000 in
set_option maxHeartbeats 1000000 in
theorem matches80 (w m : ByteArray) (hm : m.size < 1000000) : APure Try.prog 80 [.v (.string w), .v (.string m)] (.v (.bool (matchL w.data.toList m.data.toList))) := by
  refine call80 (LX_ok ?_)
  by_cases h0 : w.size = m.size
  · have h0' : (w.size : Int) = m.size := by omega
    simp only [go_sem, seval, L80, h0']
    refine LX_loop_inv (J80 w m) m.size ⟨0, by omega, by simp, exq rfl, rfl⟩ ?_
    rintro n g H ⟨k, hk, hi, ⟨q, rfl⟩, rfl⟩
    by_cases h3 : k < m.size
    · have h4 : (k : Int) < m.size := by omega
      obtain ⟨d, hd, hd'⟩ := dropG (l := m.data.toList) (k := k) (by rw [szL]; exact h3)
      obtain ⟨e, he, he'⟩ := dropG (l := w.data.toList) (k := k) (by rw [szL]; omega)
      rw [hd', he'] at hi
      by_cases h5 : e = d
      · subst h5
        simp only [go_sem, seval, L80_b0, S80, h4]
        refine LW_still dl80_6 mixedP dx80_6 ?_
        simp only [go_sem, seval, l80_6, hd, he, wrapS (k := k) (by omega)]
        refine ⟨n - 1, by omega, k + 1, by omega, ?_, exq rfl, rfl⟩
        rw [hi]; simp [matchL, fitB]
      · have h5' : ¬ (e.toNat : Int) = d.toNat := by rw [u8eq]; exact h5
        by_cases h6 : (d.toNat : Int) = 63
        · simp only [go_sem, seval, L80_b0, S80, h4]
          refine LW_still dl80_6 mixedP dx80_6 ?_
          have e6 : d = 63 := by rw [← u8eq]; exact h6
          have h5'' : ¬ (e.toNat : Int) = 63 := by omega
          simp only [go_sem, seval, l80_6, hd, he, h5', h6, h5'']
          refine ZCall_pure (letter82 e) (Cls.cons (Cl.v _) Cls.nil) ?_
          cases hl : letr e
          · simp only [go_sem, seval]
            have : matchL w.data.toList m.data.toList = false := by rw [hi]; simp [matchL, fitB, h5, hl]
            rw [this]
            exact Rf.cl (Cl.v _)
          · simp only [go_sem, seval, hd, he, wrapS (k := k) (by omega)]
            refine ⟨n - 1, by omega, k + 1, by omega, ?_, exq rfl, rfl⟩
            rw [hi]; simp [matchL, fitB, e6, hl]
        · simp only [go_sem, seval, L80_b0, S80, h4]
          refine LW_still dl80_6 mixedP dx80_6 ?_
          simp only [go_sem, seval, l80_6, hd, he, h5', h6]
          have e6 : ¬ d = 63 := by rw [← u8eq]; exact h6
          have : matchL w.data.toList m.data.toList = false := by rw [hi]; simp [matchL, fitB, h5, e6]
          rw [this]
          exact Rf.cl (Cl.v _)
    · have h4 : ¬ (k : Int) < m.size := by omega
      simp only [go_sem, seval, L80_b0, S80, h4]
      rw [List.drop_eq_nil_of_le (by rw [szL]; omega), List.drop_eq_nil_of_le (by rw [szL]; omega)] at hi
      rw [hi]
      exact Rf.cl (Cl.v _)
  · have h0' : ¬ (w.size : Int) = m.size := by omega
    simp only [go_sem, seval, L80, h0']
    rw [matchL_len _ _ (by rw [szL, szL]; exact h0)]
    exact Rf.cl (Cl.v _)
end Go.Proofs.Ytimblogmflmhkaa
namespace Go.Proofs.Ytimblogmflmhkaa
open Go Go.Abs
def fitsS (w before after : ByteArray) : Bool :=
  if (w.size : Int) - after.size < before.size then false
  else matchL (w.extract 0 before.size).data.toList before.data.toList && (matchL (w.extract (w.size - after.size) w.size).data.toList after.data.toList && !((w.extract before.size (w.size - after.size)).data.toList.any fun c => !letr c))
def fitsP (w m : ByteArray) : Bool :=
  if 0 ≤ idxB 42 m.data.toList 0 then fitsS w (m.extract 0 (idxB 42 m.data.toList 0).toNat) (m.extract ((idxB 42 m.data.toList 0).toNat + 1) m.size)
  else matchL w.data.toList m.data.toList
theorem ext_size (s : ByteArray) (a b : Nat) : (s.extract a b).size ≤ s.size := by
  rw [ByteArray.size_extract]; omega
theorem cutS (m : ByteArray) (hm : m.size < 1000000) (h : 0 ≤ idxB 42 m.data.toList 0) : ∃ before after : ByteArray, before.size ≤ m.size ∧ after.size ≤ m.size ∧ (∀ w, fitsP w m = fitsS w before after) ∧
    APure Try.prog 62 [.v (.string m), .v (.string ⟨#[42]⟩)] (.tu [.v (.string before), .v (.string after), .v (.bool true)]) := by
  refine ⟨_, _, ext_size m 0 (idxB 42 m.data.toList 0).toNat, ext_size m ((idxB 42 m.data.toList 0).toNat + 1) m.size, fun w => ?_, ?_⟩
  · unfold fitsP; rw [if_pos h]
  · have := cut62 m 42 hm
    unfold cutR at this
    rw [if_pos h] at this
    exact this
theorem cutN (m : ByteArray) (hm : m.size < 1000000) (h : ¬ 0 ≤ idxB 42 m.data.toList 0) :
    APure Try.prog 62 [.v (.string m), .v (.string ⟨#[42]⟩)] (.tu [.v (.string m), .v (.string ⟨#[]⟩), .v (.bool false)]) := by
  have := cut62 m 42 hm
  unfold cutR at this
  rw [if_neg h] at this
  exact this
theorem borrowC {s : ByteArray} {f : FuncId} {n : Nat} (hn : n = s.size) : Rfs [AO.cells 1 (List.map (fun b => AV.v (Value.int IntKind.u8 ↑b.toNat)) s.data.toList)] [AV.sl 0 0 n, AV.fn (.func f) [] []] [.im s.data.toList.length (byts s.data.toList), .fn (.func f) [] []] := by
  subst hn; exact borrowB
set_option maxRecDepth 100000 in
set_option maxHeartbeats 1000000 in
theorem fits65 (w m : ByteArray) (hw : w.size < 1000000) (hm : m.size < 1000000) : APure Try.prog 65 [.v (.string w), .v (.string m)] (.v (.bool (fitsP w m))) := by
  by_cases h : 0 ≤ idxB 42 m.data.toList 0
  · obtain ⟨before, after, hb', ha', hf, hcut⟩ := cutS m hm h
    rw [hf]
    unfold fitsS
    have hwr : IntKind.wrap .i64 ((w.size : Int) - after.size) = (w.size : Int) - after.size := wrapI (by omega) (by omega)
    by_cases h1 : (w.size : Int) - after.size < before.size
    · rw [if_pos h1]
      refine call65 (LX_ok ?_)
      simp only [go_sem, seval, L65]
      refine LCall_pure hcut (Cls.cons (Cl.v _) (Cls.cons (Cl.v _) Cls.nil)) ?_
      simp only [go_sem, seval, hwr, h1]
      exact Rf.cl (Cl.v _)
    · rw [if_neg h1]
      obtain ⟨b, hbb⟩ : ∃ b, b = w.size - after.size := ⟨_, rfl⟩
      have hb : (w.size : Int) - after.size = ((b : Nat) : Int) := by omega
      have hwr' : IntKind.wrap .i64 ((w.size : Int) - after.size) = (b : Int) := by rw [hwr, hb]
      have h1' : ¬ (b : Int) < before.size := by omega
      have h2 : (before.size : Int) ≤ b := by omega
      have h3 : (b : Int) ≤ w.size := by omega
      have h4 : (before.size : Int) ≤ w.size := by omega
      rw [← hbb]
      have hx := ext_size w before.size b
      have c1 := matches80 (w.extract 0 before.size) before (by omega)
      have c2 := matches80 (w.extract b w.size) after (by omega)
      have c3 := containsFunc77 81 (fun c => !letr c) fits81 (w.extract before.size b).data.toList (by rw [szL]; omega)
      cases hm1 : matchL (w.extract 0 before.size).data.toList before.data.toList
      · rw [hm1] at c1
        refine call65 (LX_ok ?_)
        simp only [go_sem, seval, L65]
        refine LCall_pure hcut (Cls.cons (Cl.v _) (Cls.cons (Cl.v _) Cls.nil)) ?_
        simp only [go_sem, seval, hwr', h1', h2, h3, h4]
        refine LCall_pure c1 (Cls.cons (Cl.v _) (Cls.cons (Cl.v _) Cls.nil)) ?_
        simp only [go_sem, seval, Bool.false_and]
        exact Rf.cl (Cl.v _)
      · rw [hm1] at c1
        cases hm2 : matchL (w.extract b w.size).data.toList after.data.toList
        · rw [hm2] at c2
          refine call65 (LX_ok ?_)
          simp only [go_sem, seval, L65]
          refine LCall_pure hcut (Cls.cons (Cl.v _) (Cls.cons (Cl.v _) Cls.nil)) ?_
          simp only [go_sem, seval, hwr', h1', h2, h3, h4]
          refine LCall_pure c1 (Cls.cons (Cl.v _) (Cls.cons (Cl.v _) Cls.nil)) ?_
          simp only [go_sem, seval, Bool.true_and, h3]
          refine LCall_pure c2 (Cls.cons (Cl.v _) (Cls.cons (Cl.v _) Cls.nil)) ?_
          simp only [go_sem, seval, Bool.false_and]
          exact Rf.cl (Cl.v _)
        · rw [hm2] at c2
          refine call65 (LX_ok ?_)
          simp only [go_sem, seval, L65]
          refine LCall_pure hcut (Cls.cons (Cl.v _) (Cls.cons (Cl.v _) Cls.nil)) ?_
          simp only [go_sem, seval, hwr', h1', h2, h3, h4]
          refine LCall_pure c1 (Cls.cons (Cl.v _) (Cls.cons (Cl.v _) Cls.nil)) ?_
          simp only [go_sem, seval, Bool.true_and, h3]
          refine LCall_pure c2 (Cls.cons (Cl.v _) (Cls.cons (Cl.v _) Cls.nil)) ?_
          simp only [go_sem, seval, Bool.true_and]
          refine LCall_borrow (borrowC rfl) c3 rfl ?_
          simp only [go_sem, seval]
          exact Rf.cl (Cl.v _)
  · unfold fitsP
    rw [if_neg h]
    refine call65 (LX_ok ?_)
    simp only [go_sem, seval, L65]
    refine LCall_pure (cutN m hm h) (Cls.cons (Cl.v _) (Cls.cons (Cl.v _) Cls.nil)) ?_
    simp only [go_sem, seval]
    refine LCall_pure (matches80 w m hm) (Cls.cons (Cl.v _) (Cls.cons (Cl.v _) Cls.nil)) ?_
    simp only [go_sem, seval]
    exact Rf.cl (Cl.v _)
set_option maxRecDepth 100000 in
theorem fits47 (w m : ByteArray) (hw : w.size < 1000000) : APure Try.prog 47 [.v (.string w), .v (.string m)] (.tu [.v (.bool (if maskE m = 0 then fitsP w m else false)), .v (.int .i64 (maskE m))]) := by
  have c1 := mask64 m
  by_cases h : maskE m = 0
  · have hm : m.size < 1000000 := by
      unfold maskE at h
      split at h
      · cases h
      · omega
    rw [h] at c1
    rw [if_pos h, h]
    refine call47 (LX_ok ?_)
    simp only [go_sem, seval, L47]
    refine LCall_pure c1 (Cls.cons (Cl.v _) Cls.nil) ?_
    simp only [go_sem, seval]
    refine LCall_pure (fits65 w m hw hm) (Cls.cons (Cl.v _) (Cls.cons (Cl.v _) Cls.nil)) ?_
    simp only [go_sem, seval]
    exact Rf.cl (Cl.tu (Cls.cons (Cl.v _) (Cls.cons (Cl.v _) Cls.nil)))
  · rw [if_neg h]
    refine call47 (LX_ok ?_)
    simp only [go_sem, seval, L47]
    refine LCall_pure c1 (Cls.cons (Cl.v _) Cls.nil) ?_
    simp only [go_sem, seval, h]
    exact Rf.cl (Cl.tu (Cls.cons (Cl.v _) (Cls.cons (Cl.v _) Cls.nil)))
end Go.Proofs.Ytimblogmflmhkaa
namespace Go.Proofs.Ytimblogmflmhkaa
open Go Go.Abs
def bs (l : List UInt8) : ByteArray := ⟨l.toArray⟩
theorem bs_data (l : List UInt8) : (bs l).data.toList = l := by simp [bs]
theorem bs_size (l : List UInt8) : (bs l).size = l.length := by simp [bs, ByteArray.size]
theorem bs_self (s : ByteArray) : bs s.data.toList = s := by cases s; simp [bs]
theorem bs_tail (c : UInt8) (l : List UInt8) : (bs (c :: l)).extract 1 (l.length + 1) = bs l := by
  rw [← bs_self ((bs (c :: l)).extract 1 (l.length + 1)), ← ByteArray.toList_eq, Go.Lib.extract_toList, bs_data]
  simp
theorem bs_cons_ne (c : UInt8) (l : List UInt8) : (bs (c :: l) = (⟨#[]⟩ : ByteArray)) = False := by
  refine eq_false fun h => ?_
  have := congrArg ByteArray.size h
  rw [bs_size] at this
  simp [ByteArray.size] at this
theorem le1 (n : Nat) : ((1 : Int) ≤ ((n + 1 : Nat) : Int)) = True := eq_true (by omega)
theorem bs_nil : bs [] = (⟨#[]⟩ : ByteArray) := by rfl
def starR (f : List UInt8 → Bool) : List UInt8 → Bool
  | [] => f []
  | c :: w => f (c :: w) || (letr c && starR f w)
def fitsR : List UInt8 → List UInt8 → Bool
  | [], w => w.isEmpty
  | m :: ms, w => if m = 42 then starR (fitsR ms) w else match w with
    | [] => false
    | c :: w' => (if m = 63 then letr c else decide (c = m)) && fitsR ms w'
set_option maxRecDepth 100000 in
set_option maxHeartbeats 1000000 in
theorem fits71 : ∀ (n : Nat) (w m : List UInt8), w.length + m.length = n → APure Try.prog 71 [.v (.string (bs w)), .v (.string (bs m))] (.v (.bool (fitsR m w))) := by
  intro n
  induction n using Nat.strongRecOn with
  | ind n ih =>
    intro w m hn
    cases m with
    | nil =>
      cases w with
      | nil =>
        refine call71 (LX_ok ?_)
        simp only [go_sem, seval, L71, bs_nil]
        exact Rf.cl (Cl.v _)
      | cons c w =>
        refine call71 (LX_ok ?_)
        simp only [go_sem, seval, L71, bs_nil, bs_cons_ne]
        exact Rf.cl (Cl.v _)
    | cons d m =>
      by_cases h42 : d = 42
      · have h42' : (d.toNat : Int) = 42 := by rw [h42]; rfl
        have c1 := ih (w.length + m.length) (by simp at hn; omega) w m rfl
        cases w with
        | nil =>
          have e : fitsR (d :: m) [] = fitsR m [] := by simp [fitsR, h42, starR]
          rw [e]
          cases hr : fitsR m [] <;> rw [hr] at c1 <;>
          · refine call71 (LX_ok ?_)
            simp only [go_sem, seval, L71, bs_cons_ne, bs_data, bs_size, bs_tail, le1, bs_nil, h42']
            rw [bs_nil] at c1
            refine LCall_pure c1 (Cls.cons (Cl.v _) (Cls.cons (Cl.v _) Cls.nil)) ?_
            simp only [go_sem, seval]
            exact Rf.cl (Cl.v _)
        | cons c w =>
          have c2 := ih (w.length + (d :: m).length) (by simp at hn ⊢; omega) w (d :: m) rfl
          have c3 := letter70 c
          have e : fitsR (d :: m) (c :: w) = (fitsR m (c :: w) || (letr c && fitsR (d :: m) w)) := by simp [fitsR, h42, starR]
          rw [e]
          cases hr : fitsR m (c :: w)
          · rw [hr] at c1
            cases hl : letr c
            · rw [hl] at c3
              refine call71 (LX_ok ?_)
              simp only [go_sem, seval, L71, bs_cons_ne, bs_data, bs_size, bs_tail, le1, h42']
              refine LCall_pure c1 (Cls.cons (Cl.v _) (Cls.cons (Cl.v _) Cls.nil)) ?_
              simp only [go_sem, seval, bs_cons_ne, bs_data, bs_size, bs_tail, le1]
              refine LCall_pure c3 (Cls.cons (Cl.v _) Cls.nil) ?_
              simp only [go_sem, seval, Bool.false_and, Bool.or_self]
              exact Rf.cl (Cl.v _)
            · rw [hl] at c3
              refine call71 (LX_ok ?_)
              simp only [go_sem, seval, L71, bs_cons_ne, bs_data, bs_size, bs_tail, le1, h42']
              refine LCall_pure c1 (Cls.cons (Cl.v _) (Cls.cons (Cl.v _) Cls.nil)) ?_
              simp only [go_sem, seval, bs_cons_ne, bs_data, bs_size, bs_tail, le1]
              refine LCall_pure c3 (Cls.cons (Cl.v _) Cls.nil) ?_
              simp only [go_sem, seval, bs_cons_ne, bs_data, bs_size, bs_tail, le1, Bool.true_and, Bool.false_or]
              refine LCall_pure c2 (Cls.cons (Cl.v _) (Cls.cons (Cl.v _) Cls.nil)) ?_
              simp only [go_sem, seval]
              exact Rf.cl (Cl.v _)
          · rw [hr] at c1
            refine call71 (LX_ok ?_)
            simp only [go_sem, seval, L71, bs_cons_ne, bs_data, bs_size, bs_tail, le1, h42']
            refine LCall_pure c1 (Cls.cons (Cl.v _) (Cls.cons (Cl.v _) Cls.nil)) ?_
            simp only [go_sem, seval, Bool.true_or]
            exact Rf.cl (Cl.v _)
      · have h42' : ¬ (d.toNat : Int) = 42 := by
          intro h; exact h42 ((u8eq d 42).1 h)
        cases w with
        | nil =>
          have e : fitsR (d :: m) [] = false := by simp [fitsR, h42]
          rw [e]
          refine call71 (LX_ok ?_)
          simp only [go_sem, seval, L71, bs_cons_ne, bs_data, bs_size, bs_tail, le1, bs_nil, h42']
          exact Rf.cl (Cl.v _)
        | cons c w =>
          have c2 := ih (w.length + m.length) (by simp at hn ⊢; omega) w m rfl
          have c3 := letter70 c
          by_cases h63 : d = 63
          · have h63' : (d.toNat : Int) = 63 := by rw [h63]; rfl
            have e : fitsR (d :: m) (c :: w) = (letr c && fitsR m w) := by simp [fitsR, h63]
            rw [e]
            cases hl : letr c
            · rw [hl] at c3
              refine call71 (LX_ok ?_)
              simp only [go_sem, seval, L71, bs_cons_ne, bs_data, bs_size, bs_tail, le1, h42', h63']
              refine LW_still dl71_8 mixedP dx71_8 ?_
              simp only [go_sem, seval, l71_8, bs_cons_ne, bs_data, bs_size, bs_tail, le1]
              refine ZCall_pure c3 (Cls.cons (Cl.v _) Cls.nil) ?_
              simp only [go_sem, seval, Bool.false_and]
              exact Rf.cl (Cl.v _)
            · rw [hl] at c3
              refine call71 (LX_ok ?_)
              simp only [go_sem, seval, L71, bs_cons_ne, bs_data, bs_size, bs_tail, le1, h42', h63']
              refine LW_still dl71_8 mixedP dx71_8 ?_
              simp only [go_sem, seval, l71_8, bs_cons_ne, bs_data, bs_size, bs_tail, le1]
              refine ZCall_pure c3 (Cls.cons (Cl.v _) Cls.nil) ?_
              simp only [go_sem, seval, bs_cons_ne, bs_data, bs_size, bs_tail, le1, Bool.true_and]
              refine ZCall_pure c2 (Cls.cons (Cl.v _) (Cls.cons (Cl.v _) Cls.nil)) ?_
              simp only [go_sem, seval]
              exact Rf.cl (Cl.v _)
          · have h63' : ¬ (d.toNat : Int) = 63 := by
              intro h; exact h63 ((u8eq d 63).1 h)
            have e : fitsR (d :: m) (c :: w) = (decide (c = d) && fitsR m w) := by simp [fitsR, h63, h42]
            rw [e]
            by_cases hcd : c = d
            · subst hcd
              refine call71 (LX_ok ?_)
              simp only [go_sem, seval, L71, bs_cons_ne, bs_data, bs_size, bs_tail, le1, h42', h63']
              refine LW_still dl71_9 mixedP dx71_9 ?_
              simp only [go_sem, seval, l71_9, bs_cons_ne, bs_data, bs_size, bs_tail, le1, Bool.true_and]
              refine ZCall_pure c2 (Cls.cons (Cl.v _) (Cls.cons (Cl.v _) Cls.nil)) ?_
              simp only [go_sem, seval]
              exact Rf.cl (Cl.v _)
            · have hcd' : ¬ (c.toNat : Int) = d.toNat := by rw [u8eq]; exact hcd
              rw [decide_eq_false hcd, Bool.false_and]
              refine call71 (LX_ok ?_)
              simp only [go_sem, seval, L71, bs_cons_ne, bs_data, bs_size, bs_tail, le1, h42', h63']
              refine LW_still dl71_9 mixedP dx71_9 ?_
              simp only [go_sem, seval, l71_9, bs_cons_ne, bs_data, bs_size, bs_tail, le1, hcd']
              exact Rf.cl (Cl.v _)
set_option maxRecDepth 100000 in
theorem fits55 (w m : ByteArray) : APure Try.prog 55 [.v (.string w), .v (.string m)] (.tu [.v (.bool (if maskE m = 0 then fitsR m.data.toList w.data.toList else false)), .v (.int .i64 (maskE m))]) := by
  have c1 := mask53 m
  have c2 := fits71 _ w.data.toList m.data.toList rfl
  rw [bs_self, bs_self] at c2
  by_cases h : maskE m = 0
  · rw [h] at c1
    rw [if_pos h, h]
    refine call55 (LX_ok ?_)
    simp only [go_sem, seval, L55]
    refine LCall_pure c1 (Cls.cons (Cl.v _) Cls.nil) ?_
    simp only [go_sem, seval]
    refine LCall_pure c2 (Cls.cons (Cl.v _) (Cls.cons (Cl.v _) Cls.nil)) ?_
    simp only [go_sem, seval]
    exact Rf.cl (Cl.tu (Cls.cons (Cl.v _) (Cls.cons (Cl.v _) Cls.nil)))
  · rw [if_neg h]
    refine call55 (LX_ok ?_)
    simp only [go_sem, seval, L55]
    refine LCall_pure c1 (Cls.cons (Cl.v _) Cls.nil) ?_
    simp only [go_sem, seval, h]
    exact Rf.cl (Cl.tu (Cls.cons (Cl.v _) (Cls.cons (Cl.v _) Cls.nil)))
end Go.Proofs.Ytimblogmflmhkaa
namespace Go.Proofs.Ytimblogmflmhkaa
open Go Go.Abs
theorem fitB_eq {c m : UInt8} (hc : letr c = true) : fitB c m = (if m = 63 then letr c else decide (c = m)) := by
  unfold fitB
  by_cases h : m = 63
  · simp [h, hc]
  · simp [h]
theorem fitsR_plain : ∀ (m w : List UInt8), (∀ c ∈ w, letr c = true) → 42 ∉ m → fitsR m w = matchL w m := by
  intro m
  induction m with
  | nil => intro w hw hm; cases w <;> simp [fitsR, matchL]
  | cons d m ih =>
    intro w hw hm
    have hd : d ≠ 42 := fun h => hm (by simp [h])
    have hm' : 42 ∉ m := fun h => hm (by simp [h])
    cases w with
    | nil => simp [fitsR, hd, matchL]
    | cons c w =>
      simp only [fitsR, if_neg hd, matchL]
      rw [ih w (fun c hc => hw c (List.mem_cons_of_mem _ hc)) hm', fitB_eq (hw c (List.mem_cons_self ..))]
theorem starR_eq (f : List UInt8 → Bool) (k : Nat) (hf : ∀ v, (∀ c ∈ v, letr c = true) → v.length ≠ k → f v = false) : ∀ v : List UInt8, (∀ c ∈ v, letr c = true) → starR f v = (decide (k ≤ v.length) && f (v.drop (v.length - k))) := by
  intro v
  induction v with
  | nil =>
    intro _
    by_cases h : k = 0
    · simp [starR, h]
    · simp [starR, hf [] (by simp) (by simp; omega), h]
  | cons c v ih =>
    intro hv
    have hc : letr c = true := hv c (List.mem_cons_self ..)
    simp only [starR, hc, Bool.true_and, ih (fun c h => hv c (List.mem_cons_of_mem _ h))]
    by_cases h : k = v.length + 1
    · have h9 : ¬ v.length + 1 ≤ v.length := by omega
      simp [h, h9]
    · rw [hf (c :: v) hv (by simp; omega), Bool.false_or]
      by_cases h2 : k ≤ v.length
      · have : (c :: v).length - k = (v.length - k) + 1 := by simp; omega
        rw [this, List.drop_succ_cons]
        simp [h2]; omega
      · have h3 : ¬ k ≤ (c :: v).length := by simp; omega
        simp [h2]; omega
theorem fitsR_star (before after : List UInt8) : ∀ (w : List UInt8), (∀ c ∈ w, letr c = true) → 42 ∉ before →
    fitsR (before ++ 42 :: after) w = (decide (before.length ≤ w.length) && (matchL (w.take before.length) before && starR (fitsR after) (w.drop before.length))) := by
  induction before with
  | nil => intro w hw hb; simp [fitsR, matchL]
  | cons d before ih =>
    intro w hw hb
    have hd : d ≠ 42 := fun h => hb (by simp [h])
    have hb' : 42 ∉ before := fun h => hb (by simp [h])
    cases w with
    | nil => simp [fitsR, hd]
    | cons c w =>
      have hc := hw c (List.mem_cons_self ..)
      simp only [List.cons_append, fitsR, if_neg hd]
      rw [ih w (fun c hc => hw c (List.mem_cons_of_mem _ hc)) hb', ← fitB_eq hc]
      simp only [List.length_cons, List.take_succ_cons, List.drop_succ_cons, matchL, Nat.add_le_add_iff_right]
      cases fitB c d <;> simp
theorem idxB_neg (c : UInt8) : ∀ (l : List UInt8) (k : Nat), (0 ≤ idxB c l k ↔ c ∈ l) := by
  intro l
  induction l with
  | nil => intro k; simp [idxB]
  | cons b l ih =>
    intro k
    by_cases hb : b = c
    · simp [idxB, hb]
    · simp only [idxB, if_neg hb]
      have : ((k : Int) + 1) = ((k + 1 : Nat) : Int) := rfl
      rw [this, ih (k + 1)]
      simp [Ne.symm hb]
theorem idxB_split (c : UInt8) : ∀ (l : List UInt8) (k i : Nat), idxB c l k = ((k + i : Nat) : Int) → l = l.take i ++ c :: l.drop (i + 1) ∧ c ∉ l.take i := by
  intro l
  induction l with
  | nil => intro k i h; simp [idxB] at h; omega
  | cons b l ih =>
    intro k i h
    by_cases hb : b = c
    · simp only [idxB, if_pos hb] at h
      have : i = 0 := by omega
      subst this; simp [hb]
    · simp only [idxB, if_neg hb] at h
      have e : ((k : Int) + 1) = ((k + 1 : Nat) : Int) := rfl
      rw [e] at h
      cases i with
      | zero =>
        have h0 : 0 ≤ idxB c l ((k + 1 : Nat) : Int) := by rw [h]; omega
        obtain ⟨j, hj, _⟩ := idxB_lt c l (k + 1) h0
        rw [hj] at h; omega
      | succ i =>
        obtain ⟨h1, h2⟩ := ih (k + 1) i (by rw [h]; congr 1; omega)
        refine ⟨?_, ?_⟩
        · simp only [List.take_succ_cons, List.drop_succ_cons, List.cons_append]
          rw [← h1]
        · simp [Ne.symm hb, h2]
theorem extL (s : ByteArray) (a b : Nat) : (s.extract a b).data.toList = (s.data.toList.drop a).take (b - a) := by
  rw [← ByteArray.toList_eq, Go.Lib.extract_toList]
theorem fitsP_eq (w m : ByteArray) (hw : ∀ c ∈ w.data.toList, letr c = true) (hm : maskE m = 0) : fitsP w m = fitsR m.data.toList w.data.toList := by
  have hc : m.data.toList.count 42 ≤ 1 := by
    unfold maskE at hm
    split at hm
    · cases hm
    · split at hm
      · cases hm
      · rename_i h; omega
  unfold fitsP
  by_cases h : 0 ≤ idxB 42 m.data.toList 0
  · rw [if_pos h]
    obtain ⟨i, h1, h2⟩ := idxB_lt 42 m.data.toList 0 h
    have h1' : idxB 42 m.data.toList 0 = (i : Int) := by have := h1; simpa using this
    obtain ⟨h3, h4⟩ := idxB_split 42 m.data.toList 0 i h1
    rw [h1', Int.toNat_natCast]
    have hb : (m.extract 0 i).data.toList = m.data.toList.take i := by rw [extL]; simp
    have ha : (m.extract (i + 1) m.size).data.toList = m.data.toList.drop (i + 1) := by
      rw [extL]; exact List.take_of_length_le (by simp)
    have hbs : (m.extract 0 i).size = (m.data.toList.take i).length := by rw [← szL, hb]
    have has : (m.extract (i + 1) m.size).size = (m.data.toList.drop (i + 1)).length := by rw [← szL, ha]
    have h5 : 42 ∉ m.data.toList.drop (i + 1) := by
      intro hmem
      have : 0 < (m.data.toList.drop (i + 1)).count 42 := List.count_pos_iff.2 hmem
      rw [h3, List.count_append, List.count_cons_self] at hc
      omega
    unfold fitsS
    simp only [extL (s := w), hb, ha, hbs, has]
    rw [← szL w]
    generalize hB : m.data.toList.take i = B at *
    generalize hA : m.data.toList.drop (i + 1) = A at *
    generalize hW : w.data.toList = W at *
    rw [h3, fitsR_star B A W hw h4]
    rw [starR_eq (fitsR A) A.length (fun v hl hv => by rw [fitsR_plain A v hl h5, matchL_len v A hv]) _ (fun c hc => hw c (List.mem_of_mem_drop hc))]
    by_cases h6 : (W.length : Int) - A.length < B.length
    · rw [if_pos h6]
      by_cases h7 : B.length ≤ W.length
      · have h8 : ¬ A.length ≤ (W.drop B.length).length := by rw [List.length_drop]; omega
        rw [decide_eq_false h8]; simp
      · rw [decide_eq_false h7]; simp
    · rw [if_neg h6]
      have h7 : B.length ≤ W.length := by omega
      have h8 : A.length ≤ (W.drop B.length).length := by rw [List.length_drop]; omega
      rw [decide_eq_true h7, decide_eq_true h8, List.drop_drop, List.length_drop]
      have e1 : B.length + (W.length - B.length - A.length) = W.length - A.length := by omega
      have e2 : (W.drop (W.length - A.length)).take (W.length - (W.length - A.length)) = W.drop (W.length - A.length) := List.take_of_length_le (by rw [List.length_drop]; omega)
      have e3 : (((W.drop B.length).take (W.length - A.length - B.length)).any fun c => !letr c) = false := by
        rw [List.any_eq_false]
        intro c hc
        simp [hw c (List.mem_of_mem_drop (List.mem_of_mem_take hc))]
      rw [e1, e2, e3, fitsR_plain A _ (fun c hc => hw c (List.mem_of_mem_drop hc)) h5]
      simp
  · rw [if_neg h]
    rw [fitsR_plain _ _ hw (fun hmem => h ((idxB_neg 42 _ 0).2 hmem))]
end Go.Proofs.Ytimblogmflmhkaa
