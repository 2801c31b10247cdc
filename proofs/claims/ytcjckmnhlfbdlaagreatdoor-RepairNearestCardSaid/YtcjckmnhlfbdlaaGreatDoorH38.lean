/- Part 38 of the texts that lead to repairNearestCard_holds. No condition. -/
import Derived.Test.YtcjckmnhlfbdlaaGreatDoorH8
set_option linter.all false
namespace Go.Rep
open Go Go.Abs
structure Ch where
  k : Int
  a : Int
  c : Int
def st (at' : Nat) (done : Bool) : Nat := if done then at' + 1 else at'
def seg (L : List Int) (at' a : Nat) (done : Bool) : List Int := (L.take a).drop (st at' done)
def stepP (x : Int → Int) (L : List Int) (s : List Int × Nat × Bool) (c : Ch) : Option (List Int × Nat × Bool) :=
 if c.a < s.2.1 ∨ (L.length : Int) < c.a ∨ (c.a = s.2.1 ∧ s.2.2 = true) then none
 else if c.k = 2 ∧ 0 ≤ c.c ∧ c.c ≤ 3 then some (s.1 ++ seg L s.2.1 c.a.toNat s.2.2 ++ [c.c], c.a.toNat, false)
 else if c.a = L.length then none
 else if c.k = 1 ∧ c.c = x (L.getD c.a.toNat 0) then some (s.1 ++ seg L s.2.1 c.a.toNat s.2.2 ++ [c.c], c.a.toNat, true)
 else if c.k = 3 ∧ c.c = 0 then some (s.1 ++ seg L s.2.1 c.a.toNat s.2.2, c.a.toNat, true)
 else none
def runP (x : Int → Int) (L : List Int) : List Ch → List Int × Nat × Bool → Option (List Int)
 | [], s => some (s.1 ++ seg L s.2.1 L.length s.2.2)
 | c :: l, s => match stepP x L s c with
  | some s => runP x L l s
  | none => none
def badP : Option Ch → Ch → Bool
 | some p, c => decide (c.a < p.a ∨ (p.a = c.a ∧ p.k ≠ 2))
 | none, _ => false
def fitR (x : Int → Int) (L : List Int) (p : Option Ch) (c : Ch) : Bool :=
 if c.a < 0 ∨ (L.length : Int) < c.a ∨ (c.k ≠ 2 ∧ c.a = L.length) then false
 else if badP p c = true then false
 else if c.k = 1 then decide (c.c = x (L.getD c.a.toNat 0))
 else if c.k = 2 then decide (0 ≤ c.c ∧ c.c < 4)
 else if c.k = 3 then decide (c.c = 0)
 else false
def stepR (x : Int → Int) (L : List Int) (s : List Int × Nat) (c : Ch) : List Int × Nat :=
 (s.1 ++ (L.take c.a.toNat).drop s.2 ++ (if c.k = 3 then [] else [c.c]), if c.k = 2 then c.a.toNat else c.a.toNat + 1)
def runR (x : Int → Int) (L : List Int) : List Ch → Option Ch → List Int × Nat → Option (List Int)
 | [], _, s => some (s.1 ++ L.drop s.2)
 | c :: l, p, s => if fitR x L p c then runR x L l (some c) (stepR x L s c) else none
def Rel (p : Option Ch) (at' : Nat) (done : Bool) : Prop := match p with
 | none => at' = 0 ∧ done = false
 | some p => p.a = at' ∧ done = !decide (p.k = 2)
theorem run_eq (x : Int → Int) (L : List Int) : ∀ (l : List Ch) (p : Option Ch) (o : List Int) (t : Nat) (d : Bool), Rel p t d → t ≤ L.length → runP x L l (o, t, d) = runR x L l p (o, st t d)
 | [], p, o, t, d, h, ht => by
  simp only [runP, runR, seg, List.take_length]
 | c :: l, p, o, t, d, h, ht => by
  have pf : badP p c = true ↔ (p ≠ none ∧ (c.a < t ∨ (c.a = t ∧ d = true))) := by
   cases p with
   | none => simp [badP]
   | some p =>
    obtain ⟨h1, h2⟩ := h
    simp only [badP, decide_eq_true_eq]
    simp only [ne_eq, reduceCtorEq, not_false_eq_true, true_and]
    rw [h1, h2]
    simp only [Bool.not_eq_true', decide_eq_false_iff_not]
    constructor
    ·rintro (q | ⟨q, r⟩)
     ·exact .inl q
     ·exact .inr ⟨q.symm, r⟩
    ·rintro (q | ⟨q, r⟩)
     ·exact .inl q
     ·exact .inr ⟨q.symm, r⟩
  have pn : p = none → t = 0 ∧ d = false := fun e => by subst e; exact h
  by_cases hb : c.a < t ∨ (L.length : Int) < c.a ∨ (c.a = t ∧ d = true)
  ·have e1 : stepP x L (o, t, d) c = none := by simp only [stepP]; rw [if_pos hb]
   have e2 : fitR x L p c = false := by
    unfold fitR
    by_cases h0 : c.a < 0 ∨ (L.length : Int) < c.a ∨ (c.k ≠ 2 ∧ c.a = L.length)
    ·rw [if_pos h0]
    ·rw [if_neg h0]
     rw [if_pos]
     refine pf.2 ⟨fun e => ?_, ?_⟩
     ·obtain ⟨e1, e2⟩ := pn e
      subst e1; subst e2
      rcases hb with q | q | q
      ·exact h0 (.inl (by simpa using q))
      ·exact h0 (.inr (.inl q))
      ·cases q.2
     ·rcases hb with q | q | q
      ·exact .inl q
      ·exact absurd (.inr (.inl q)) h0
      ·exact .inr q
   simp only [runP, runR, e1, e2, Bool.false_eq_true, if_false]
  ·have n1 : ¬ c.a < t := fun q => hb (.inl q)
   have n2 : ¬ (L.length : Int) < c.a := fun q => hb (.inr (.inl q))
   have n3 : ¬ (c.a = t ∧ d = true) := fun q => hb (.inr (.inr q))
   have npf : ¬ badP p c = true := fun q => by
    rcases (pf.1 q).2 with q | q
    ·exact n1 q
    ·exact n3 q
   obtain ⟨a, ha⟩ : ∃ a : Nat, c.a = a := ⟨c.a.toNat, by omega⟩
   have hat : c.a.toNat = a := by omega
   have hle : a ≤ L.length := by omega
   by_cases k2 : c.k = 2
   ·by_cases kc : 0 ≤ c.c ∧ c.c ≤ 3
    ·have e1 : stepP x L (o, t, d) c = some (o ++ seg L t a d ++ [c.c], a, false) := by
      simp only [stepP]; rw [if_neg hb, if_pos ⟨k2, kc⟩, hat]
     have e2 : fitR x L p c = true := by
      unfold fitR
      rw [if_neg (by omega), if_neg npf, if_neg (by omega), if_pos k2]
      exact decide_eq_true (by omega)
     have e3 : stepR x L (o, st t d) c = (o ++ seg L t a d ++ [c.c], a) := by
      simp only [stepR, seg]; rw [if_neg (by omega), if_pos k2, hat]
     simp only [runP, runR, e1, e2, e3, if_true]
     have := run_eq x L l (some c) (o ++ seg L t a d ++ [c.c]) a false ⟨ha, by rw [k2]; rfl⟩ hle
     rw [this]; rfl
    ·have e1 : stepP x L (o, t, d) c = none := by
      simp only [stepP]; rw [if_neg hb, if_neg (fun q => kc q.2)]
      split
      ·rfl
      ·rw [if_neg (by omega), if_neg (by omega)]
     have e2 : fitR x L p c = false := by
      unfold fitR
      rw [if_neg (by omega), if_neg npf, if_neg (by omega), if_pos k2]
      exact decide_eq_false (by omega)
     simp only [runP, runR, e1, e2, Bool.false_eq_true, if_false]
   ·by_cases hn : c.a = L.length
    ·have e1 : stepP x L (o, t, d) c = none := by
      simp only [stepP]; rw [if_neg hb, if_neg (fun q => k2 q.1), if_pos hn]
     have e2 : fitR x L p c = false := by
      unfold fitR
      rw [if_pos (.inr (.inr ⟨k2, hn⟩))]
     simp only [runP, runR, e1, e2, Bool.false_eq_true, if_false]
    ·have z : ¬ (c.a < 0 ∨ (L.length : Int) < c.a ∨ (c.k ≠ 2 ∧ c.a = L.length)) := by omega
     by_cases h1 : c.k = 1 ∧ c.c = x (L.getD c.a.toNat 0)
     ·have e1 : stepP x L (o, t, d) c = some (o ++ seg L t a d ++ [c.c], a, true) := by
       simp only [stepP]; rw [if_neg hb, if_neg (fun q => k2 q.1), if_neg hn, if_pos h1, hat]
      have e2 : fitR x L p c = true := by
       unfold fitR
       rw [if_neg z, if_neg npf, if_pos h1.1]
       exact decide_eq_true h1.2
      have e3 : stepR x L (o, st t d) c = (o ++ seg L t a d ++ [c.c], a + 1) := by
       simp only [stepR, seg]; rw [if_neg (by omega), if_neg k2, hat]
      simp only [runP, runR, e1, e2, e3, if_true]
      have := run_eq x L l (some c) (o ++ seg L t a d ++ [c.c]) a true ⟨ha, by simp [k2]⟩ hle
      rw [this]; rfl
     ·by_cases h3 : c.k = 3 ∧ c.c = 0
      ·have e1 : stepP x L (o, t, d) c = some (o ++ seg L t a d, a, true) := by
        simp only [stepP]; rw [if_neg hb, if_neg (fun q => k2 q.1), if_neg hn, if_neg h1, if_pos h3, hat]
       have e2 : fitR x L p c = true := by
        unfold fitR
        rw [if_neg z, if_neg npf, if_neg (by omega), if_neg k2, if_pos h3.1]
        exact decide_eq_true h3.2
       have e3 : stepR x L (o, st t d) c = (o ++ seg L t a d, a + 1) := by
        simp only [stepR, seg]; rw [if_pos h3.1, if_neg k2, hat, List.append_nil]
       simp only [runP, runR, e1, e2, e3, if_true]
       have := run_eq x L l (some c) (o ++ seg L t a d) a true ⟨ha, by simp [k2]⟩ hle
       rw [this]; rfl
      ·have e1 : stepP x L (o, t, d) c = none := by
        simp only [stepP]; rw [if_neg hb, if_neg (fun q => k2 q.1), if_neg hn, if_neg h1, if_neg h3]
       have e2 : fitR x L p c = false := by
        unfold fitR
        rw [if_neg z, if_neg npf]
        by_cases q1 : c.k = 1
        ·rw [if_pos q1]; exact decide_eq_false fun q => h1 ⟨q1, q⟩
        ·rw [if_neg q1, if_neg k2]
         by_cases q3 : c.k = 3
         ·rw [if_pos q3]; exact decide_eq_false fun q => h3 ⟨q3, q⟩
         ·rw [if_neg q3]
       simp only [runP, runR, e1, e2, Bool.false_eq_true, if_false]
end Go.Rep
