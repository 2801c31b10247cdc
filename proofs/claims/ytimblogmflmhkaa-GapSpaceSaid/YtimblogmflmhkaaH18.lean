/- Part 18 of the texts that lead to gapFill_holds, gapSpace_holds, gapWider_holds. No condition. -/
import Derived.Lib.Join
import Derived.Test.YtimblogmflmhkaaH17
set_option linter.unusedSimpArgs false
set_option linter.unusedVariables false
set_option linter.unnecessarySimpa false
namespace Go.Proofs.Ytimblogmflmhkaa
open Go Go.Abs Go.RowKit
theorem enter33 (xs : Array Value) (w : World) : (callFunc 33 xs).run Try.prog w = .ok (.enter 33 xs) w := by
  have hn : (Try.f33.name == "runtime.NumGoroutine") = false := by decide
  have hb : Try.f33.body.isSome = true := by rfl
  obtain ⟨c, hc⟩ := Option.isSome_iff_exists.1 hb
  simp [callFunc, Try.func33, hn, hc]
  intro hh
  simp [hh] at hn
theorem ext_below {I : Nat → Prop} {w w' : World} (hI : ∀ b, I b → b < w.heap.size) (h : Below w.heap.size w w') : HR I [] [] w' ∧ Ext I [] (Own [] []) w I [] (Own [] []) w' :=
  ⟨HR.empty fun b hb => Nat.lt_of_lt_of_le (hI b hb) h.size, ⟨h.os, h.tape, h.output, h.size, fun b hb _ => h.block b hb, fun _ h => h, fun _ h => .inl h, ⟨[], by simp⟩, fun _ h => .inl h⟩⟩
theorem joinT_lib (l : List ByteArray) (sep : ByteArray) : joinT l sep = Lib.join (l.map (·.data.toList)) sep.data.toList := by
  cases l with
  | nil => rfl
  | cons x xs =>
    rw [List.map_cons, Lib.join_cons]
    simp [joinT, Lib.joinTail, List.flatMap, List.map_map]
    rfl
theorem join33 (l : List ByteArray) (sep : ByteArray) (hl : l.length < 1000000) (hj : (joinT l sep).length < 1000000) :
    APure Try.prog 33 [.im l.length (strs l), .v (.string sep)] (.v (.string (bs (joinT l sep)))) := by
  intro I m w xs hr hv
  simp only [VRs, VR] at hv
  obtain ⟨y, zs, h1, ⟨A, c, rfl, hc, h3⟩, y', zs', rfl, rfl, rfl⟩ := hv
  have hx : xs = #[.slice A l.length c, .string sep] := by
    apply Array.toList_inj.1; rw [h1]
  subst hx
  unfold CallsFn
  rw [enter33]
  have hlt : ∀ b, I b → b < w.heap.size := hr.ilt
  have fin : ∀ w', Below w.heap.size w w' → ∃ v, Ending.returned (Value.string (bs (joinT l sep))) = .returned v ∧ ∃ r H' I' m', Rf H' r (.v (.string (bs (joinT l sep)))) ∧ VR I' m' w' r v ∧ HR I' m' H' w' ∧ Ext I m (Own [] m) w I' m' (Own H' m') w' := by
    intro w' hb
    have hm : m = [] := List.length_eq_zero_iff.1 (by simpa using hr.len)
    subst hm
    obtain ⟨k1, k2⟩ := ext_below hlt hb
    exact ⟨_, rfl, .v _, [], I, [], Rf.cl (Cl.v _), by simp only [VR], k1, k2⟩
  rcases h3 with h3 | ⟨b, o, rfl, hb, hcr⟩
  · have : l = [] := by simpa [strs] using h3
    subst this
    refine (Try.strings_Join_none A c sep w).mono ?_
    rintro e w' ⟨rfl, rfl⟩
    exact fin _ (Below.refl _ _)
  · refine (Try.strings_Join b o c l sep w (fun j x hx => ?_) (hlt b hb) (by omega) hc (by rw [← joinT_lib]; omega)).mono ?_
    · have hs : (strs l)[j]? = some (.v (.string x)) := by simp [strs, hx]
      obtain ⟨z, h4, h5⟩ := hcr.get j _ hs
      simp only [VR] at h5
      rw [h4, h5]
    · rintro e w' ⟨rfl, hbl⟩
      rw [← joinT_lib]
      exact fin _ hbl
end Go.Proofs.Ytimblogmflmhkaa
namespace Go.Proofs.Ytimblogmflmhkaa
open Go Go.Abs
def spacedB (l h : Int) (ws : List ByteArray) : Bool := decide (l ≤ (joinT ws ⟨#[32]⟩).length ∧ ((joinT ws ⟨#[32]⟩).length : Int) ≤ h)
theorem Cl_seq (ws : List ByteArray) : Cl (.im ws.length (strs ws)) := Cl.im (Cls_strs ws)
set_option maxRecDepth 100000 in
set_option maxHeartbeats 1000000 in
theorem space32 (b a : ByteArray) (l h : Int) (m : ByteArray) (ws : List ByteArray) (hl : ws.length < 1000000) (hj : (joinT ws ⟨#[32]⟩).length < 1000000) :
    APure Try.prog 32 [gapV b a l h m, .im ws.length (strs ws)] (.v (.bool (spacedB l h ws))) := by
  have c1 := join33 ws ⟨#[32]⟩ hl hj
  unfold spacedB gapV
  by_cases h1 : l ≤ (joinT ws ⟨#[32]⟩).length
  · by_cases h2 : ((joinT ws ⟨#[32]⟩).length : Int) ≤ h
    · refine call32 (LX_ok ?_)
      simp only [go_sem, seval, L32]
      refine LCall_pure c1 (Cls.cons (Cl_seq ws) (Cls.cons (Cl.v _) Cls.nil)) ?_
      simp only [go_sem, seval, bs_size, ge_iff_le, h1, h2]
      exact Rf.cl (Cl.v _)
    · refine call32 (LX_ok ?_)
      simp only [go_sem, seval, L32]
      refine LCall_pure c1 (Cls.cons (Cl_seq ws) (Cls.cons (Cl.v _) Cls.nil)) ?_
      simp only [go_sem, seval, bs_size, ge_iff_le, h1, h2, and_false]
      exact Rf.cl (Cl.v _)
  · refine call32 (LX_ok ?_)
    simp only [go_sem, seval, L32]
    refine LCall_pure c1 (Cls.cons (Cl_seq ws) (Cls.cons (Cl.v _) Cls.nil)) ?_
    simp only [go_sem, seval, bs_size, ge_iff_le, h1, false_and]
    exact Rf.cl (Cl.v _)
set_option maxRecDepth 100000 in
set_option maxHeartbeats 1000000 in
theorem space37 (b a : ByteArray) (l h : Int) (m : ByteArray) (ws : List ByteArray) (hl : ws.length < 1000000) (hj : (joinT ws ⟨#[32]⟩).length < 1000000) :
    APure Try.prog 37 [gapV b a l h m, .im ws.length (strs ws)] (.v (.bool (spacedB l h ws))) := by
  have c1 := text39 ws ⟨#[32]⟩ hl hj
  unfold spacedB gapV
  by_cases h1 : l ≤ (joinT ws ⟨#[32]⟩).length
  · by_cases h2 : ((joinT ws ⟨#[32]⟩).length : Int) ≤ h
    · refine call37 (LX_ok ?_)
      simp only [go_sem, seval, L37]
      refine LCall_pure c1 (Cls.cons (Cl_seq ws) (Cls.cons (Cl.v _) Cls.nil)) ?_
      simp only [go_sem, seval, bs_size, ge_iff_le, h1, h2]
      exact Rf.cl (Cl.v _)
    · refine call37 (LX_ok ?_)
      simp only [go_sem, seval, L37]
      refine LCall_pure c1 (Cls.cons (Cl_seq ws) (Cls.cons (Cl.v _) Cls.nil)) ?_
      simp only [go_sem, seval, bs_size, ge_iff_le, h1, h2, and_false]
      exact Rf.cl (Cl.v _)
  · refine call37 (LX_ok ?_)
    simp only [go_sem, seval, L37]
    refine LCall_pure c1 (Cls.cons (Cl_seq ws) (Cls.cons (Cl.v _) Cls.nil)) ?_
    simp only [go_sem, seval, bs_size, ge_iff_le, h1, false_and]
    exact Rf.cl (Cl.v _)
def letteredB (m : ByteArray) (ws : List ByteArray) : Bool := decide (m = ⟨#[]⟩) || (if maskE m = 0 then fitsP (bs (joinT ws ⟨#[]⟩)) m else false)
def letteredR (m : ByteArray) (ws : List ByteArray) : Bool := decide (m = ⟨#[]⟩) || (if maskE m = 0 then fitsR m.data.toList (joinT ws ⟨#[]⟩) else false)
set_option maxRecDepth 100000 in
set_option maxHeartbeats 1000000 in
theorem letters29 (b a : ByteArray) (l h : Int) (m : ByteArray) (ws : List ByteArray) (hl : ws.length < 1000000) (hj : (joinT ws ⟨#[]⟩).length < 1000000) :
    APure Try.prog 29 [gapV b a l h m, .im ws.length (strs ws)] (.v (.bool (letteredB m ws))) := by
  have c1 := join33 ws ⟨#[]⟩ hl hj
  have c2 := fits47 (bs (joinT ws ⟨#[]⟩)) m (by rw [bs_size]; exact hj)
  unfold letteredB gapV
  by_cases h1 : m = ⟨#[]⟩
  · rw [decide_eq_true h1, Bool.true_or]
    refine call29 (LX_ok ?_)
    simp only [go_sem, seval, L29, h1]
    exact Rf.cl (Cl.v _)
  · rw [decide_eq_false h1, Bool.false_or]
    refine call29 (LX_ok ?_)
    simp only [go_sem, seval, L29, h1]
    refine LW_still dl29_3 mixedP dx29_3 ?_
    simp only [go_sem, seval, l29_3]
    refine ZCall_pure c1 (Cls.cons (Cl_seq ws) (Cls.cons (Cl.v _) Cls.nil)) ?_
    simp only [go_sem, seval]
    refine ZCall_pure c2 (Cls.cons (Cl.v _) (Cls.cons (Cl.v _) Cls.nil)) ?_
    simp only [go_sem, seval]
    exact Rf.cl (Cl.v _)
set_option maxRecDepth 100000 in
set_option maxHeartbeats 1000000 in
theorem lettered38 (b a : ByteArray) (l h : Int) (m : ByteArray) (ws : List ByteArray) (hl : ws.length < 1000000) (hj : (joinT ws ⟨#[]⟩).length < 1000000) :
    APure Try.prog 38 [gapV b a l h m, .im ws.length (strs ws)] (.v (.bool (letteredR m ws))) := by
  have c1 := text39 ws ⟨#[]⟩ hl hj
  have c2 := fits55 (bs (joinT ws ⟨#[]⟩)) m
  rw [bs_data] at c2
  unfold letteredR gapV
  by_cases h1 : m = ⟨#[]⟩
  · rw [decide_eq_true h1, Bool.true_or]
    refine call38 (LX_ok ?_)
    simp only [go_sem, seval, L38]
    refine LW_still dl38_1 mixedP dx38_1 ?_
    simp only [go_sem, seval, l38_1]
    refine ZCall_pure c1 (Cls.cons (Cl_seq ws) (Cls.cons (Cl.v _) Cls.nil)) ?_
    simp only [go_sem, seval]
    refine ZCall_pure c2 (Cls.cons (Cl.v _) (Cls.cons (Cl.v _) Cls.nil)) ?_
    simp only [go_sem, seval, h1]
    exact Rf.cl (Cl.v _)
  · rw [decide_eq_false h1, Bool.false_or]
    refine call38 (LX_ok ?_)
    simp only [go_sem, seval, L38]
    refine LW_still dl38_1 mixedP dx38_1 ?_
    simp only [go_sem, seval, l38_1]
    refine ZCall_pure c1 (Cls.cons (Cl_seq ws) (Cls.cons (Cl.v _) Cls.nil)) ?_
    simp only [go_sem, seval]
    refine ZCall_pure c2 (Cls.cons (Cl.v _) (Cls.cons (Cl.v _) Cls.nil)) ?_
    simp only [go_sem, seval, h1]
    exact Rf.cl (Cl.v _)
end Go.Proofs.Ytimblogmflmhkaa
namespace Go.Proofs.Ytimblogmflmhkaa
open Go Go.Abs
def geqB (p x : ByteArray) : Bool := !Op.bytesLess p.toList x.toList
theorem wrapD (k : Nat) (h : k < 1000000) : IntKind.wrap .i64 (((k + 1 : Nat) : Int) - 1) = (k : Int) := by
  rw [wrapI (by omega) (by omega)]; omega
set_option maxRecDepth 100000 in
set_option maxHeartbeats 1000000 in
theorem entry48_0 (l : List ByteArray) (x : ByteArray) (hx : l[0]? = some x) : APure Try.prog 48 [.im l.length (strs l), .v (.int .i64 0)] (.v (.int .i64 (wordE x))) := by
  have c1 := wrong66 x
  have h0 : 0 < l.length := (List.getElem?_eq_some_iff.1 hx).1
  have h1 : (0 : Int) < l.length := by omega
  by_cases he : wordE x = 0
  · rw [he] at c1 ⊢
    refine call48 (LX_ok ?_)
    simp only [go_sem, seval, L48, h0, h1, strs, List.length_map, List.getElem?_map, hx]
    refine LCall_pure c1 (Cls.cons (Cl.v _) Cls.nil) ?_
    simp only [go_sem, seval]
    refine LW_still dl48_4 mixedP dx48_4 ?_
    simp only [go_sem, seval, l48_4]
    exact Rf.cl (Cl.v _)
  · refine call48 (LX_ok ?_)
    simp only [go_sem, seval, L48, h0, h1, strs, List.length_map, List.getElem?_map, hx]
    refine LCall_pure c1 (Cls.cons (Cl.v _) Cls.nil) ?_
    simp only [go_sem, seval, he]
    exact Rf.cl (Cl.v _)
set_option maxRecDepth 100000 in
set_option maxHeartbeats 1000000 in
theorem entry48_s (l : List ByteArray) (hl : l.length < 1000000) (k : Nat) (p x : ByteArray) (hp : l[k]? = some p) (hx : l[k + 1]? = some x) :
    APure Try.prog 48 [.im l.length (strs l), .v (.int .i64 ((k + 1 : Nat) : Int))] (.v (.int .i64 (if wordE x ≠ 0 then wordE x else if geqB p x then 18 else 0))) := by
  have c1 := wrong66 x
  have h0 : k + 1 < l.length := (List.getElem?_eq_some_iff.1 hx).1
  have h1 : ((k + 1 : Nat) : Int) < l.length := by omega
  have h2 : (k : Int) < l.length := by omega
  have h3 : k < l.length := by omega
  have h4 : ((k + 1 : Nat) : Int) > 0 := by omega
  have e1 : l.drop (k + 1) = x :: l.drop (k + 2) := by
    obtain ⟨d, hd, hd'⟩ := dropG h0
    rw [hd'] ; rw [hx] at hd; injection hd with hd; rw [hd]
  have e2 : l.drop k = p :: l.drop (k + 1) := by
    obtain ⟨d, hd, hd'⟩ := dropG h3
    rw [hd'] ; rw [hp] at hd; injection hd with hd; rw [hd]
  by_cases he : wordE x = 0
  · rw [he] at c1 ⊢
    simp only [ne_eq, not_true_eq_false, if_false]
    unfold geqB
    cases hg : Op.bytesLess p.toList x.toList
    · refine call48 (LX_ok ?_)
      simp only [go_sem, seval, L48, h0, h1, strs, List.length_map, drop_map e1]
      refine LCall_pure c1 (Cls.cons (Cl.v _) Cls.nil) ?_
      simp only [go_sem, seval]
      refine LW_still dl48_4 mixedP dx48_4 ?_
      simp only [go_sem, seval, l48_4, h4, wrapD k (by omega), h0, h1, h2, h3, List.length_map, drop_map e1, drop_map e2, hg]
      exact Rf.cl (Cl.v _)
    · refine call48 (LX_ok ?_)
      simp only [go_sem, seval, L48, h0, h1, strs, List.length_map, drop_map e1]
      refine LCall_pure c1 (Cls.cons (Cl.v _) Cls.nil) ?_
      simp only [go_sem, seval]
      refine LW_still dl48_4 mixedP dx48_4 ?_
      simp only [go_sem, seval, l48_4, h4, wrapD k (by omega), h0, h1, h2, h3, List.length_map, drop_map e1, drop_map e2, hg]
      exact Rf.cl (Cl.v _)
  · rw [if_pos he]
    refine call48 (LX_ok ?_)
    simp only [go_sem, seval, L48, h0, h1, strs, List.length_map, drop_map e1]
    refine LCall_pure c1 (Cls.cons (Cl.v _) Cls.nil) ?_
    simp only [go_sem, seval, he]
    exact Rf.cl (Cl.v _)
end Go.Proofs.Ytimblogmflmhkaa
namespace Go.Proofs.Ytimblogmflmhkaa
open Go Go.Abs
def listG : Option ByteArray → List ByteArray → Int
  | _, [] => 0
  | q, x :: xs => if wordE x ≠ 0 then wordE x else if (match q with | none => false | some p => geqB p x) then 18 else listG (some x) xs
def listE (l : List ByteArray) : Int := if (400 : Int) < l.length then 3 else listG none l
def prevW (l : List ByteArray) (k : Nat) : Option ByteArray := if k = 0 then none else l[k - 1]?
def S25 (l : List ByteArray) (k : Nat) (q : Nat → AV) : List AV := [.ag [.im l.length (strs l)], .pt 0 0, .v (.int .i64 0), q 3, q 4, q 5, q 6, q 7, q 8, q 9, q 10, .v (.int .i64 l.length), .v (.int .i64 k), q 13, q 14, q 15, q 16, q 17, q 18, q 19, q 20, q 21, q 22]
def J25 (l : List ByteArray) (n : Nat) (g : List AV) (H : List AO) : Prop :=
  ∃ k : Nat, k + n = l.length ∧ listG none l = listG (prevW l k) (l.drop k) ∧ (∃ q, g = S25 l k q) ∧ H = [AO.cells 1 [.im l.length (strs l)]]
set_option maxRecDepth 100000 in
set_option maxHeartbeats 1000000 in
theorem valid25 (l : List ByteArray) : APure Try.prog 25 [.ag [.im l.length (strs l)]] (.v (.int .i64 (listE l))) := by
  unfold listE
  by_cases h1 : (400 : Int) < l.length
  · rw [if_pos h1]
    refine call25 (LX_ok ?_)
    simp only [go_sem, seval, L25, h1]
    exact Rf.cl (Cl.v _)
  · rw [if_neg h1]
    refine call25 (LX_ok ?_)
    simp only [go_sem, seval, L25, h1]
    refine LX_loop_inv (J25 l) l.length ⟨0, by omega, by simp [prevW], exq rfl, rfl⟩ ?_
    rintro n g H ⟨k, hk, hi, ⟨q, rfl⟩, rfl⟩
    by_cases h3 : k < l.length
    · have h4 : (k : Int) < l.length := by omega
      obtain ⟨x, hx, hx'⟩ := dropG h3
      rw [hx'] at hi
      have c1 : APure Try.prog 48 [.im l.length (strs l), .v (.int .i64 k)] (.v (.int .i64 (if wordE x ≠ 0 then wordE x else if (match prevW l k with | none => false | some p => geqB p x) then 18 else 0))) := by
        cases k with
        | zero =>
          have := entry48_0 l x hx
          simp only [prevW, if_true, Bool.false_eq_true, if_false]
          by_cases he : wordE x = 0
          · rw [if_neg (by simp [he])]; rw [he] at this; exact this
          · rw [if_pos he]; exact this
        | succ k =>
          obtain ⟨p, hp, hp'⟩ := dropG (l := l) (k := k) (by omega)
          have := entry48_s l (by omega) k p x hp hx
          simp only [prevW, Nat.succ_ne_zero, if_false, Nat.add_sub_cancel, hp]
          exact this
      by_cases he : wordE x = 0
      · cases hg : (match prevW l k with | none => false | some p => geqB p x)
        · rw [hg, if_neg (by simp [he])] at c1
          simp only [go_sem, seval, L25_b0, S25, h4]
          refine LCall_pure c1 (Cls.cons (Cl_seq l) (Cls.cons (Cl.v _) Cls.nil)) ?_
          simp only [go_sem, seval, Bool.false_eq_true, wrapS (k := k) (by omega)]
          refine ⟨n - 1, by omega, k + 1, by omega, ?_, exq rfl, rfl⟩
          have hpr : prevW l (k + 1) = some x := by simp [prevW, hx]
          rw [hi, hpr]
          simp only [listG, he, hg]
          simp
        · rw [hg, if_neg (by simp [he])] at c1
          simp only [go_sem, seval, L25_b0, S25, h4]
          refine LCall_pure c1 (Cls.cons (Cl_seq l) (Cls.cons (Cl.v _) Cls.nil)) ?_
          have e : listG none l = 18 := by rw [hi]; simp only [listG, he, hg]; simp
          simp only [go_sem, seval, e]
          exact Rf.cl (Cl.v _)
      · rw [if_pos he] at c1
        have e : listG none l = wordE x := by rw [hi]; simp only [listG]; rw [if_pos he]
        rw [e]
        simp only [go_sem, seval, L25_b0, S25, h4]
        refine LCall_pure c1 (Cls.cons (Cl_seq l) (Cls.cons (Cl.v _) Cls.nil)) ?_
        simp only [go_sem, seval, he]
        exact Rf.cl (Cl.v _)
    · have h4 : ¬ (k : Int) < l.length := by omega
      rw [List.drop_eq_nil_of_le (by omega)] at hi
      have e : listG none l = 0 := by rw [hi]; rfl
      simp only [go_sem, seval, L25_b0, S25, h4, e]
      exact Rf.cl (Cl.v _)
end Go.Proofs.Ytimblogmflmhkaa
namespace Go.Proofs.Ytimblogmflmhkaa
open Go Go.Abs
theorem less_total : ∀ a b : List UInt8, (!Op.bytesLess a b) = (Op.bytesLess b a || decide (b = a))
  | [], [] => by simp [Op.bytesLess]
  | [], _ :: _ => by simp [Op.bytesLess]
  | _ :: _, [] => by simp [Op.bytesLess]
  | x :: xs, y :: ys => by
    have ih := less_total xs ys
    simp only [Op.bytesLess]
    by_cases h1 : x = y
    · subst h1
      simp [ih]
    · by_cases h2 : x < y
      · have h3 : ¬ y < x := by simp only [UInt8.lt_iff_toNat_lt] at *; omega
        simp [h1, h2, h3, Ne.symm h1]
      · have h3 : y < x := by
          have : x.toNat ≠ y.toNat := fun h => h1 (UInt8.toNat_inj.1 h)
          simp only [UInt8.lt_iff_toNat_lt] at *; omega
        simp [h1, h2, h3, Ne.symm h1]
def listI : Option ByteArray → List ByteArray → Int → Int
  | _, [], _ => -1
  | q, x :: xs, k => if wordE x ≠ 0 then k else if (match q with | none => false | some p => geqB p x) then k else listI (some x) xs (k + 1)
def listJ (l : List ByteArray) : Int := if (400 : Int) < l.length then -1 else listI none l 0
theorem geqB_leq (p x : ByteArray) : (Op.bytesLess x.toList p.toList || decide (x = p)) = geqB p x := by
  unfold geqB
  rw [less_total]
  congr 1
  rw [← strEq, Bool.eq_iff_iff, decide_eq_true_eq, beq_iff_eq]
def S41 (l : List ByteArray) (k : Nat) (q : Nat → AV) : List AV := [.ag [.im l.length (strs l)], .pt 0 0, .v (.int .i64 0), .v (.int .i64 0), .v (.int .i64 k), q 5, q 6, q 7, q 8, q 9, q 10, q 11, q 12, q 13, q 14, q 15, q 16, q 17, q 18, q 19, q 20, q 21, q 22, q 23, q 24, q 25, q 26, q 27, q 28, q 29, q 30, q 31, q 32, q 33, q 34, q 35, q 36, q 37, q 38, q 39, q 40, q 41, q 42, q 43]
def J41 (l : List ByteArray) (n : Nat) (g : List AV) (H : List AO) : Prop :=
  ∃ k : Nat, k + n = l.length ∧ listG none l = listG (prevW l k) (l.drop k) ∧ listI none l 0 = listI (prevW l k) (l.drop k) k ∧ (∃ q, g = S41 l k q) ∧ H = [AO.cells 1 [.im l.length (strs l)]]
set_option maxRecDepth 100000 in
set_option maxHeartbeats 1000000 in
theorem check41 (l : List ByteArray) : APure Try.prog 41 [.ag [.im l.length (strs l)]] (.tu [.v (.int .i64 (listJ l)), .v (.int .i64 (listE l))]) := by
  unfold listE listJ
  by_cases h1 : (400 : Int) < l.length
  · rw [if_pos h1, if_pos h1]
    refine call41 (LX_ok ?_)
    simp only [go_sem, seval, L41, h1]
    exact Rf.cl (Cl.tu (Cls.cons (Cl.v _) (Cls.cons (Cl.v _) Cls.nil)))
  · rw [if_neg h1, if_neg h1]
    refine call41 (LX_ok ?_)
    simp only [go_sem, seval, L41, h1]
    refine LX_loop_inv (J41 l) l.length ⟨0, by omega, by simp [prevW], by simp [prevW], exq rfl, rfl⟩ ?_
    rintro n g H ⟨k, hk, hi, hj, ⟨q, rfl⟩, rfl⟩
    by_cases h3 : k < l.length
    · have h4 : (k : Int) < l.length := by omega
      obtain ⟨x, hx, hx'⟩ := dropG h3
      have e1 := hx'
      rw [hx'] at hi hj
      have c1 := word36 x
      by_cases he : wordE x = 0
      · rw [he] at c1
        by_cases h0 : k = 0
        · subst h0
          have h4' : (0 : Int) < l.length := by omega
          have w1 : IntKind.wrap .i64 (0 + 1) = 1 := by decide
          simp only [go_sem, seval, L41_b0, S41, h4', h3, strs, List.length_map, List.getElem?_map, hx]
          refine LCall_pure c1 (Cls.cons (Cl.v _) Cls.nil) ?_
          simp only [go_sem, seval]
          refine LW_still dl41_9 mixedP dx41_9 ?_
          simp only [go_sem, seval, l41_9, w1]
          have hpr : prevW l (0 + 1) = some x := by simp [prevW, hx]
          refine ⟨n - 1, by omega, 0 + 1, by omega, ?_, ?_, exq rfl, rfl⟩
          · rw [hi, hpr]; simp [listG, he, prevW]
          · rw [hj, hpr]; simp [listI, he, prevW]
        · obtain ⟨j, rfl⟩ : ∃ j, k = j + 1 := ⟨k - 1, by omega⟩
          obtain ⟨p, hp, e2⟩ := dropG (l := l) (k := j) (by omega)
          have hpp : prevW l (j + 1) = some p := by simp [prevW, hp]
          rw [hpp] at hi hj
          have h2 : (j : Int) < l.length := by omega
          have h2' : j < l.length := by omega
          have h5 : ((j + 1 : Nat) : Int) > 0 := by omega
          have hg' := geqB_leq p x
          cases hg : geqB p x
          · rw [hg] at hg'
            simp only [go_sem, seval, L41_b0, S41, h4, h3, strs, List.length_map, drop_map e1]
            refine LCall_pure c1 (Cls.cons (Cl.v _) Cls.nil) ?_
            simp only [go_sem, seval]
            refine LW_still dl41_9 mixedP dx41_9 ?_
            simp only [go_sem, seval, l41_9, h5, wrapD j (by omega), h3, h4, h2, h2', List.length_map, drop_map e1, drop_map e2, hg', wrapS (k := j + 1) (by omega)]
            have hpr : prevW l (j + 1 + 1) = some x := by simp [prevW, hx]
            refine ⟨n - 1, by omega, j + 1 + 1, by omega, ?_, ?_, exq rfl, rfl⟩
            · rw [hi, hpr]; simp [listG, he, hg]
            · rw [hj, hpr]; simp [listI, he, hg]
          · rw [hg] at hg'
            have f1 : listG none l = 18 := by rw [hi]; simp [listG, he, hg]
            have f2 : listI none l 0 = ((j + 1 : Nat) : Int) := by rw [hj]; simp [listI, he, hg]
            simp only [go_sem, seval, L41_b0, S41, h4, h3, strs, List.length_map, drop_map e1]
            refine LCall_pure c1 (Cls.cons (Cl.v _) Cls.nil) ?_
            simp only [go_sem, seval]
            refine LW_still dl41_9 mixedP dx41_9 ?_
            simp only [go_sem, seval, l41_9, h5, wrapD j (by omega), h3, h4, h2, h2', List.length_map, drop_map e1, drop_map e2, hg', f1, f2]
            exact Rf.cl (Cl.tu (Cls.cons (Cl.v _) (Cls.cons (Cl.v _) Cls.nil)))
      · have f1 : listG none l = wordE x := by rw [hi]; simp only [listG]; rw [if_pos he]
        have f2 : listI none l 0 = k := by rw [hj]; simp only [listI]; rw [if_pos he]
        rw [f1, f2]
        simp only [go_sem, seval, L41_b0, S41, h4, h3, strs, List.length_map, drop_map e1]
        refine LCall_pure c1 (Cls.cons (Cl.v _) Cls.nil) ?_
        simp only [go_sem, seval, he]
        exact Rf.cl (Cl.tu (Cls.cons (Cl.v _) (Cls.cons (Cl.v _) Cls.nil)))
    · have h4 : ¬ (k : Int) < l.length := by omega
      rw [List.drop_eq_nil_of_le (by omega)] at hi hj
      have f1 : listG none l = 0 := by rw [hi]; rfl
      have f2 : listI none l 0 = -1 := by rw [hj]; rfl
      simp only [go_sem, seval, L41_b0, S41, h4, f1, f2]
      exact Rf.cl (Cl.tu (Cls.cons (Cl.v _) (Cls.cons (Cl.v _) Cls.nil)))
set_option maxRecDepth 100000 in
theorem valid19 (l : List ByteArray) : APure Try.prog 19 [.ag [.im l.length (strs l)]] (.v (.int .i64 (listE l))) := by
  have c1 := check41 l
  refine call19 (LX_ok ?_)
  simp only [go_sem, seval, L19]
  refine LCall_pure c1 (Cls.cons (Cl.ag (Cls.cons (Cl_seq l) Cls.nil)) Cls.nil) ?_
  simp only [go_sem, seval]
  exact Rf.cl (Cl.v _)
end Go.Proofs.Ytimblogmflmhkaa
namespace Go.Proofs.Ytimblogmflmhkaa
open Go Go.Abs
def firstE : List ByteArray → Int
  | [] => 0
  | x :: xs => if wordE x ≠ 0 then wordE x else firstE xs
def fillF (let' : Bool) (b a : ByteArray) (l h : Int) (m : ByteArray) (ws : List ByteArray) : ByteArray × Int :=
  if gapE l h m ≠ 0 then (⟨#[]⟩, gapE l h m)
  else if (3 : Int) < ws.length then (⟨#[]⟩, 3)
  else if firstE ws ≠ 0 then (⟨#[]⟩, firstE ws)
  else if spacedB l h ws = false then (⟨#[]⟩, 6)
  else if let' = false then (⟨#[]⟩, 19)
  else if lineE (b ++ bs (joinT ws ⟨#[32]⟩) ++ a) ≠ 0 then (⟨#[]⟩, lineE (b ++ bs (joinT ws ⟨#[32]⟩) ++ a))
  else (b ++ bs (joinT ws ⟨#[32]⟩) ++ a, 0)
def resF (r : ByteArray × Int) : AV := .tu [.v (.string r.1), .v (.int .i64 r.2)]
def S18 (b a : ByteArray) (l h : Int) (m : ByteArray) (ws : List ByteArray) (k : Nat) (q : Nat → AV) : List AV := [gapV b a l h m, .im ws.length (strs ws), .pt 0 0, q 3, .v (.string ⟨#[]⟩), .v (.int .i64 0), q 6, .v (.int .i64 k), q 8, q 9, q 10, q 11, q 12, q 13, q 14, q 15, q 16, q 17, q 18, q 19, q 20, q 21, q 22, q 23, q 24, q 25, q 26, q 27, q 28, q 29, q 30, q 31, q 32, q 33, q 34, q 35, q 36, q 37, q 38, q 39, q 40, q 41, q 42, q 43, q 44, q 45, q 46, q 47, q 48, q 49, q 50, q 51, q 52, q 53, q 54]
def J18 (b a : ByteArray) (l h : Int) (m : ByteArray) (ws : List ByteArray) (n : Nat) (g : List AV) (H : List AO) : Prop :=
  ∃ k : Nat, k + n = ws.length ∧ firstE ws = firstE (ws.drop k) ∧ (∃ q, g = S18 b a l h m ws k q) ∧ H = [AO.cells 1 [.v (.string b), .v (.string a), .v (.int .i64 l), .v (.int .i64 h), .v (.string m)]]
set_option maxRecDepth 100000 in
set_option maxHeartbeats 1000000 in
theorem fill18 (b a : ByteArray) (l h : Int) (m : ByteArray) (ws : List ByteArray) (hb : b.size < 1000000) (ha : a.size < 1000000)
    (hj : (joinT ws ⟨#[32]⟩).length < 1000000) (hj' : (joinT ws ⟨#[]⟩).length < 1000000) :
    APure Try.prog 18 [gapV b a l h m, .im ws.length (strs ws)] (resF (fillF (letteredR m ws) b a l h m ws)) := by
  have c1 := valid35 b a l h m
  by_cases h1 : gapE l h m = 0
  · rw [h1] at c1
    by_cases h2 : (3 : Int) < ws.length
    · have e : fillF (letteredR m ws) b a l h m ws = (⟨#[]⟩, 3) := by simp [fillF, h1, h2]
      rw [e]
      refine call18 (LX_ok ?_)
      simp only [go_sem, seval, L18, gapV]
      refine LCall_pure c1 (Cls.cons (Cl_gapV b a l h m) Cls.nil) ?_
      simp only [go_sem, seval, h2]
      exact Rf.cl (Cl.tu (Cls.cons (Cl.v _) (Cls.cons (Cl.v _) Cls.nil)))
    · have hl : ws.length < 1000000 := by omega
      have c2 := space37 b a l h m ws hl hj
      have c3 := lettered38 b a l h m ws hl hj'
      have c4 := text39 ws ⟨#[32]⟩ hl hj
      have c5 := valid40 (b ++ bs (joinT ws ⟨#[32]⟩) ++ a)
      have z1 : b.size + (bs (joinT ws ⟨#[32]⟩)).size ≤ 9223372036854775807 := by rw [bs_size]; omega
      have z2 : b.size + (bs (joinT ws ⟨#[32]⟩)).size + a.size ≤ 9223372036854775807 := by rw [bs_size]; omega
      refine call18 (LX_ok ?_)
      simp only [go_sem, seval, L18, gapV]
      refine LCall_pure c1 (Cls.cons (Cl_gapV b a l h m) Cls.nil) ?_
      simp only [go_sem, seval, h2]
      refine LX_loop_inv (J18 b a l h m ws) ws.length ⟨0, by omega, by simp, exq rfl, rfl⟩ ?_
      rintro n g H ⟨k, hk, hi, ⟨q, rfl⟩, rfl⟩
      rcases Nat.lt_or_ge k ws.length with h3 | h3
      · have h4 : (k : Int) < ws.length := by omega
        obtain ⟨x, hx, hx'⟩ := dropG h3
        rw [hx'] at hi
        have d1 := word36 x
        rcases Decidable.em (wordE x = 0) with he | he
        · rw [he] at d1
          simp only [go_sem, seval, L18_b0, S18, h4, h3, strs, List.length_map, drop_map hx']
          refine LCall_pure d1 (Cls.cons (Cl.v _) Cls.nil) ?_
          simp only [go_sem, seval, wrapS (k := k) (by omega)]
          refine ⟨n - 1, by omega, k + 1, by omega, ?_, exq rfl, rfl⟩
          rw [hi]; simp [firstE, he]
        · have e : fillF (letteredR m ws) b a l h m ws = (⟨#[]⟩, wordE x) := by
            have : firstE ws = wordE x := by rw [hi]; simp [firstE, he]
            simp [fillF, h1, h2, this, he]
          rw [e]
          simp only [go_sem, seval, L18_b0, S18, h4, h3, strs, List.length_map, drop_map hx']
          refine LCall_pure d1 (Cls.cons (Cl.v _) Cls.nil) ?_
          simp only [go_sem, seval, he]
          exact Rf.cl (Cl.tu (Cls.cons (Cl.v _) (Cls.cons (Cl.v _) Cls.nil)))
      · have h4 : ¬ (k : Int) < ws.length := by omega
        rw [List.drop_eq_nil_of_le (by omega)] at hi
        have hf : firstE ws = 0 := by rw [hi]; rfl
        cases hs : spacedB l h ws
        · have e : fillF (letteredR m ws) b a l h m ws = (⟨#[]⟩, 6) := by simp [fillF, h1, h2, hf, hs]
          rw [hs] at c2
          rw [e]
          simp only [go_sem, seval, L18_b0, S18, h4, gapV]
          refine LCall_pure c2 (Cls.cons (Cl_gapV b a l h m) (Cls.cons (Cl_seq ws) Cls.nil)) ?_
          simp only [go_sem, seval]
          exact Rf.cl (Cl.tu (Cls.cons (Cl.v _) (Cls.cons (Cl.v _) Cls.nil)))
        · rw [hs] at c2
          cases ht : letteredR m ws
          · have e : fillF false b a l h m ws = (⟨#[]⟩, 19) := by simp [fillF, h1, h2, hf, hs]
            rw [ht] at c3
            rw [e]
            simp only [go_sem, seval, L18_b0, S18, h4, gapV]
            refine LCall_pure c2 (Cls.cons (Cl_gapV b a l h m) (Cls.cons (Cl_seq ws) Cls.nil)) ?_
            simp only [go_sem, seval]
            refine LCall_pure c3 (Cls.cons (Cl_gapV b a l h m) (Cls.cons (Cl_seq ws) Cls.nil)) ?_
            simp only [go_sem, seval]
            exact Rf.cl (Cl.tu (Cls.cons (Cl.v _) (Cls.cons (Cl.v _) Cls.nil)))
          · rw [ht] at c3
            rcases Decidable.em (lineE (b ++ bs (joinT ws ⟨#[32]⟩) ++ a) = 0) with hz | hz
            · have e : fillF true b a l h m ws = (b ++ bs (joinT ws ⟨#[32]⟩) ++ a, 0) := by simp [fillF, h1, h2, hf, hs, hz]
              rw [hz] at c5
              rw [e]
              simp only [go_sem, seval, L18_b0, S18, h4, gapV]
              refine LCall_pure c2 (Cls.cons (Cl_gapV b a l h m) (Cls.cons (Cl_seq ws) Cls.nil)) ?_
              simp only [go_sem, seval]
              refine LCall_pure c3 (Cls.cons (Cl_gapV b a l h m) (Cls.cons (Cl_seq ws) Cls.nil)) ?_
              simp only [go_sem, seval]
              refine LW_still dl18_16 mixedP dx18_16 ?_
              simp only [go_sem, seval, l18_16]
              refine ZCall_pure c4 (Cls.cons (Cl_seq ws) (Cls.cons (Cl.v _) Cls.nil)) ?_
              simp only [go_sem, seval, z1, z2]
              refine LCall_pure c5 (Cls.cons (Cl.v _) Cls.nil) ?_
              simp only [go_sem, seval]
              exact Rf.cl (Cl.tu (Cls.cons (Cl.v _) (Cls.cons (Cl.v _) Cls.nil)))
            · have e : fillF true b a l h m ws = (⟨#[]⟩, lineE (b ++ bs (joinT ws ⟨#[32]⟩) ++ a)) := by simp [fillF, h1, h2, hf, hs, hz]
              rw [e]
              simp only [go_sem, seval, L18_b0, S18, h4, gapV]
              refine LCall_pure c2 (Cls.cons (Cl_gapV b a l h m) (Cls.cons (Cl_seq ws) Cls.nil)) ?_
              simp only [go_sem, seval]
              refine LCall_pure c3 (Cls.cons (Cl_gapV b a l h m) (Cls.cons (Cl_seq ws) Cls.nil)) ?_
              simp only [go_sem, seval]
              refine LW_still dl18_16 mixedP dx18_16 ?_
              simp only [go_sem, seval, l18_16]
              refine ZCall_pure c4 (Cls.cons (Cl_seq ws) (Cls.cons (Cl.v _) Cls.nil)) ?_
              simp only [go_sem, seval, z1, z2]
              refine LCall_pure c5 (Cls.cons (Cl.v _) Cls.nil) ?_
              simp only [go_sem, seval, hz]
              exact Rf.cl (Cl.tu (Cls.cons (Cl.v _) (Cls.cons (Cl.v _) Cls.nil)))
  · have e : fillF (letteredR m ws) b a l h m ws = (⟨#[]⟩, gapE l h m) := by simp [fillF, h1]
    rw [e]
    refine call18 (LX_ok ?_)
    simp only [go_sem, seval, L18, gapV]
    refine LCall_pure c1 (Cls.cons (Cl_gapV b a l h m) Cls.nil) ?_
    simp only [go_sem, seval, h1]
    exact Rf.cl (Cl.tu (Cls.cons (Cl.v _) (Cls.cons (Cl.v _) Cls.nil)))
end Go.Proofs.Ytimblogmflmhkaa
namespace Go.Proofs.Ytimblogmflmhkaa
open Go Go.Abs
def S16 (b a : ByteArray) (l h : Int) (m : ByteArray) (ws : List ByteArray) (k : Nat) (q : Nat → AV) : List AV := [gapV b a l h m, .im ws.length (strs ws), .pt 0 0, q 3, .v (.string ⟨#[]⟩), .v (.int .i64 0), q 6, q 7, q 8, q 9, q 10, q 11, q 12, q 13, q 14, q 15, q 16, q 17, q 18, q 19, .im ws.length (strs ws), .v (.int .i64 ws.length), .v (.int .i64 k), q 23, q 24, q 25, q 26, q 27, q 28, q 29, q 30, q 31, q 32, q 33, q 34, q 35, q 36, q 37, q 38, q 39, q 40, q 41, q 42, q 43, q 44, q 45, q 46, q 47, q 48, q 49, q 50, q 51, q 52, q 53, q 54, q 55]
def J16 (b a : ByteArray) (l h : Int) (m : ByteArray) (ws : List ByteArray) (n : Nat) (g : List AV) (H : List AO) : Prop :=
  ∃ k : Nat, k + n = ws.length ∧ firstE ws = firstE (ws.drop k) ∧ (∃ q, g = S16 b a l h m ws k q) ∧ ∃ R, H = AO.cells 1 [.v (.string b), .v (.string a), .v (.int .i64 l), .v (.int .i64 h), .v (.string m)] :: R
set_option maxRecDepth 100000 in
set_option maxHeartbeats 1000000 in
theorem fill16 (b a : ByteArray) (l h : Int) (m : ByteArray) (ws : List ByteArray) (hb : b.size < 1000000) (ha : a.size < 1000000)
    (hj : (joinT ws ⟨#[32]⟩).length < 1000000) (hj' : (joinT ws ⟨#[]⟩).length < 1000000) :
    APure Try.prog 16 [gapV b a l h m, .im ws.length (strs ws)] (resF (fillF (letteredB m ws) b a l h m ws)) := by
  have c1 := valid24 b a l h m
  by_cases h1 : gapE l h m = 0
  · rw [h1] at c1
    by_cases h2 : (3 : Int) < ws.length
    · have e : fillF (letteredB m ws) b a l h m ws = (⟨#[]⟩, 3) := by simp [fillF, h1, h2]
      rw [e]
      refine call16 (LX_ok ?_)
      simp only [go_sem, seval, L16, gapV]
      refine LCall_pure c1 (Cls.cons (Cl_gapV b a l h m) Cls.nil) ?_
      simp only [go_sem, seval, h2]
      exact Rf.cl (Cl.tu (Cls.cons (Cl.v _) (Cls.cons (Cl.v _) Cls.nil)))
    · have hl : ws.length < 1000000 := by omega
      have c2 := space32 b a l h m ws hl hj
      have c3 := letters29 b a l h m ws hl hj'
      have c4 := join33 ws ⟨#[32]⟩ hl hj
      have c5 := valid34 (b ++ bs (joinT ws ⟨#[32]⟩) ++ a)
      have z1 : b.size + (bs (joinT ws ⟨#[32]⟩)).size ≤ 9223372036854775807 := by rw [bs_size]; omega
      have z2 : b.size + (bs (joinT ws ⟨#[32]⟩)).size + a.size ≤ 9223372036854775807 := by rw [bs_size]; omega
      refine call16 (LX_ok ?_)
      simp only [go_sem, seval, L16, gapV]
      refine LCall_pure c1 (Cls.cons (Cl_gapV b a l h m) Cls.nil) ?_
      simp only [go_sem, seval, h2]
      refine LX_loop_inv (J16 b a l h m ws) ws.length ⟨0, by omega, by simp, exq rfl, _, rfl⟩ ?_
      rintro n g H ⟨k, hk, hi, ⟨q, rfl⟩, R, rfl⟩
      rcases Nat.lt_or_ge k ws.length with h3 | h3
      · have h4 : (k : Int) < ws.length := by omega
        obtain ⟨x, hx, hx'⟩ := dropG h3
        rw [hx'] at hi
        have d1 : APure Try.prog 25 [.ag [.im 1 [.v (.string x)]]] (.v (.int .i64 (wordE x))) := by
          have := valid25 [x]
          have e0 : listE [x] = wordE x := by
            simp only [listE, listG, List.length_cons, List.length_nil]
            by_cases he : wordE x = 0 <;> simp [he]
          rw [e0] at this; exact this
        rcases Decidable.em (wordE x = 0) with he | he
        · rw [he] at d1
          simp only [go_sem, seval, L16_b0, S16, h4, h3, strs, List.length_map, drop_map hx']
          refine LCall_borrow (Rfs_co (Rf.ag (Rfs_co (Rf.sl (.inl (getLast _ _)) (Rfs.cls (Cls.cons (Cl.v _) Cls.nil))) Rfs_nil)) Rfs_nil) d1 rfl ?_
          simp only [go_sem, seval, wrapS (k := k) (by omega)]
          refine ⟨n - 1, by omega, k + 1, by omega, ?_, exq rfl, _, rfl⟩
          rw [hi]; simp [firstE, he]
        · have e : fillF (letteredB m ws) b a l h m ws = (⟨#[]⟩, wordE x) := by
            have : firstE ws = wordE x := by rw [hi]; simp [firstE, he]
            simp [fillF, h1, h2, this, he]
          rw [e]
          simp only [go_sem, seval, L16_b0, S16, h4, h3, strs, List.length_map, drop_map hx']
          refine LCall_borrow (Rfs_co (Rf.ag (Rfs_co (Rf.sl (.inl (getLast _ _)) (Rfs.cls (Cls.cons (Cl.v _) Cls.nil))) Rfs_nil)) Rfs_nil) d1 rfl ?_
          simp only [go_sem, seval, he]
          exact Rf.cl (Cl.tu (Cls.cons (Cl.v _) (Cls.cons (Cl.v _) Cls.nil)))
      · have h4 : ¬ (k : Int) < ws.length := by omega
        rw [List.drop_eq_nil_of_le (by omega)] at hi
        have hf : firstE ws = 0 := by rw [hi]; rfl
        cases hs : spacedB l h ws
        · have e : fillF (letteredB m ws) b a l h m ws = (⟨#[]⟩, 6) := by simp [fillF, h1, h2, hf, hs]
          rw [hs] at c2
          rw [e]
          simp only [go_sem, seval, L16_b0, S16, h4, gapV]
          refine LCall_pure c2 (Cls.cons (Cl_gapV b a l h m) (Cls.cons (Cl_seq ws) Cls.nil)) ?_
          simp only [go_sem, seval]
          exact Rf.cl (Cl.tu (Cls.cons (Cl.v _) (Cls.cons (Cl.v _) Cls.nil)))
        · rw [hs] at c2
          cases ht : letteredB m ws
          · have e : fillF false b a l h m ws = (⟨#[]⟩, 19) := by simp [fillF, h1, h2, hf, hs]
            rw [ht] at c3
            rw [e]
            simp only [go_sem, seval, L16_b0, S16, h4, gapV]
            refine LCall_pure c2 (Cls.cons (Cl_gapV b a l h m) (Cls.cons (Cl_seq ws) Cls.nil)) ?_
            simp only [go_sem, seval]
            refine LCall_pure c3 (Cls.cons (Cl_gapV b a l h m) (Cls.cons (Cl_seq ws) Cls.nil)) ?_
            simp only [go_sem, seval]
            exact Rf.cl (Cl.tu (Cls.cons (Cl.v _) (Cls.cons (Cl.v _) Cls.nil)))
          · rw [ht] at c3
            rcases Decidable.em (lineE (b ++ bs (joinT ws ⟨#[32]⟩) ++ a) = 0) with hz | hz
            · have e : fillF true b a l h m ws = (b ++ bs (joinT ws ⟨#[32]⟩) ++ a, 0) := by simp [fillF, h1, h2, hf, hs, hz]
              rw [hz] at c5
              rw [e]
              simp only [go_sem, seval, L16_b0, S16, h4, gapV]
              refine LCall_pure c2 (Cls.cons (Cl_gapV b a l h m) (Cls.cons (Cl_seq ws) Cls.nil)) ?_
              simp only [go_sem, seval]
              refine LCall_pure c3 (Cls.cons (Cl_gapV b a l h m) (Cls.cons (Cl_seq ws) Cls.nil)) ?_
              simp only [go_sem, seval]
              refine LW_still dl16_17 mixedP dx16_17 ?_
              simp only [go_sem, seval, l16_17]
              refine ZCall_pure c4 (Cls.cons (Cl_seq ws) (Cls.cons (Cl.v _) Cls.nil)) ?_
              simp only [go_sem, seval, z1, z2]
              refine LCall_pure c5 (Cls.cons (Cl.v _) Cls.nil) ?_
              simp only [go_sem, seval]
              exact Rf.cl (Cl.tu (Cls.cons (Cl.v _) (Cls.cons (Cl.v _) Cls.nil)))
            · have e : fillF true b a l h m ws = (⟨#[]⟩, lineE (b ++ bs (joinT ws ⟨#[32]⟩) ++ a)) := by simp [fillF, h1, h2, hf, hs, hz]
              rw [e]
              simp only [go_sem, seval, L16_b0, S16, h4, gapV]
              refine LCall_pure c2 (Cls.cons (Cl_gapV b a l h m) (Cls.cons (Cl_seq ws) Cls.nil)) ?_
              simp only [go_sem, seval]
              refine LCall_pure c3 (Cls.cons (Cl_gapV b a l h m) (Cls.cons (Cl_seq ws) Cls.nil)) ?_
              simp only [go_sem, seval]
              refine LW_still dl16_17 mixedP dx16_17 ?_
              simp only [go_sem, seval, l16_17]
              refine ZCall_pure c4 (Cls.cons (Cl_seq ws) (Cls.cons (Cl.v _) Cls.nil)) ?_
              simp only [go_sem, seval, z1, z2]
              refine LCall_pure c5 (Cls.cons (Cl.v _) Cls.nil) ?_
              simp only [go_sem, seval, hz]
              exact Rf.cl (Cl.tu (Cls.cons (Cl.v _) (Cls.cons (Cl.v _) Cls.nil)))
  · have e : fillF (letteredB m ws) b a l h m ws = (⟨#[]⟩, gapE l h m) := by simp [fillF, h1]
    rw [e]
    refine call16 (LX_ok ?_)
    simp only [go_sem, seval, L16, gapV]
    refine LCall_pure c1 (Cls.cons (Cl_gapV b a l h m) Cls.nil) ?_
    simp only [go_sem, seval, h1]
    exact Rf.cl (Cl.tu (Cls.cons (Cl.v _) (Cls.cons (Cl.v _) Cls.nil)))
end Go.Proofs.Ytimblogmflmhkaa
namespace Go.Proofs.Ytimblogmflmhkaa
open Go Go.Abs
theorem wordE_letr {x : ByteArray} (h : wordE x = 0) : ∀ c ∈ x.data.toList, letr c = true := by
  intro c hc
  unfold wordE at h
  split at h
  · cases h
  · split at h
    · cases h
    · split at h
      · cases h
      · rename_i h3
        have : smal c = true := by
          cases hs : smal c with
          | true => rfl
          | false => exact (h3 (List.any_eq_true.2 ⟨c, hc, by simp [hs]⟩)).elim
        simp only [smal, decide_eq_true_eq] at this
        exact this.1
theorem firstE_all : ∀ {ws : List ByteArray}, firstE ws = 0 → ∀ x ∈ ws, wordE x = 0
  | [], _, x, hx => by cases hx
  | y :: ys, h, x, hx => by
    simp only [firstE] at h
    by_cases he : wordE y = 0
    · rw [if_neg (by simp [he])] at h
      rcases List.mem_cons.1 hx with rfl | hx
      · exact he
      · exact firstE_all h x hx
    · rw [if_pos he] at h; exact (he h).elim
theorem joinT_letr {ws : List ByteArray} (h : ∀ x ∈ ws, wordE x = 0) : ∀ c ∈ joinT ws ⟨#[]⟩, letr c = true := by
  intro c hc
  cases ws with
  | nil => simp [joinT] at hc
  | cons x xs =>
    simp only [joinT, List.mem_append, List.mem_flatMap] at hc
    rcases hc with hc | ⟨y, hy, hc⟩
    · exact wordE_letr (h x (by simp)) c hc
    · have : c ∈ y.data.toList := by simpa using hc
      exact wordE_letr (h y (by simp [hy])) c this
theorem lettered_eq {m : ByteArray} {ws : List ByteArray} (h : ∀ x ∈ ws, wordE x = 0) : letteredB m ws = letteredR m ws := by
  unfold letteredB letteredR
  by_cases hm : maskE m = 0
  · rw [if_pos hm, if_pos hm, fitsP_eq _ _ (by rw [bs_data]; exact joinT_letr h) hm, bs_data]
  · rw [if_neg hm, if_neg hm]
theorem fillF_eq (b a : ByteArray) (l h : Int) (m : ByteArray) (ws : List ByteArray) : fillF (letteredB m ws) b a l h m ws = fillF (letteredR m ws) b a l h m ws := by
  by_cases hf : firstE ws = 0
  · rw [lettered_eq (firstE_all hf)]
  · unfold fillF; simp [hf]
end Go.Proofs.Ytimblogmflmhkaa
namespace Go.Proofs.Ytimblogmflmhkaa
open Go Go.Abs
def S31 (f : FuncId) (cap : List AV) (l : List ByteArray) (k : Nat) (q : Nat → AV) : List AV := [.im l.length (strs l), .fn (.func f) [] cap, q 2, q 3, .v (.int .i64 0), q 5, q 6, .v (.int .i64 l.length), .v (.int .i64 k), q 9, q 10, q 11, q 12, q 13, q 14, q 15, q 16, q 17, q 18]
def J31 (f : FuncId) (cap : List AV) (p : ByteArray → Bool) (l : List ByteArray) (n : Nat) (g : List AV) (H : List AO) : Prop :=
  ∃ k : Nat, k + n = l.length ∧ idxP p l 0 = idxP p (l.drop k) k ∧ (∃ q, g = S31 f cap l k q) ∧ H = []
set_option maxRecDepth 100000 in
set_option maxHeartbeats 1000000 in
theorem indexFunc31 (f : FuncId) (cap : List AV) (hcap : Cls cap) (p : ByteArray → Bool) (l : List ByteArray) (hp : ∀ c ∈ l, APure Try.prog f (.v (.string c) :: cap) (.v (.bool (p c)))) (hl : l.length < 1000000) :
    APure Try.prog 31 [.im l.length (strs l), .fn (.func f) [] cap] (.v (.int .i64 (idxP p l 0))) := by
  refine call31 (LX_ok ?_)
  simp only [go_sem, seval, L31]
  refine LX_loop_inv (J31 f cap p l) l.length ⟨0, by omega, by simp, exq rfl, rfl⟩ ?_
  rintro n g H ⟨k, hk, hi, ⟨q, rfl⟩, rfl⟩
  rcases Nat.lt_or_ge k l.length with h3 | h3
  · have h4 : (k : Int) < l.length := by omega
    obtain ⟨d, hd, hd'⟩ := dropG h3
    have c1 := hp d (List.mem_of_getElem? hd)
    cases hpd : p d
    · rw [hpd] at c1
      simp only [go_sem, seval, L31_b0, S31, h4, h3, strs, List.length_map, drop_map hd']
      refine LCall_pure c1 (Cls.cons (Cl.v _) hcap) ?_
      simp only [go_sem, seval, wrapS (k := k) (by omega)]
      refine ⟨n - 1, by omega, k + 1, by omega, ?_, exq rfl, rfl⟩
      rw [hi, hd']; simp [idxP, hpd]
    · rw [hpd] at c1
      have e : idxP p l 0 = k := by rw [hi, hd']; simp only [idxP, hpd, if_true]
      rw [e]
      simp only [go_sem, seval, L31_b0, S31, h4, h3, strs, List.length_map, drop_map hd']
      refine LCall_pure c1 (Cls.cons (Cl.v _) hcap) ?_
      simp only [go_sem, seval]
      exact Rf.cl (Cl.v _)
  · have h4 : ¬ (k : Int) < l.length := by omega
    have e : idxP p l 0 = -1 := by rw [hi, List.drop_eq_nil_of_le (by omega)]; rfl
    rw [e]
    simp only [go_sem, seval, L31_b0, S31, h4]
    exact Rf.cl (Cl.v _)
set_option maxRecDepth 100000 in
theorem containsFunc14 (f : FuncId) (cap : List AV) (hcap : Cls cap) (p : ByteArray → Bool) (l : List ByteArray) (hp : ∀ c ∈ l, APure Try.prog f (.v (.string c) :: cap) (.v (.bool (p c)))) (hl : l.length < 1000000) :
    APure Try.prog 14 [.im l.length (strs l), .fn (.func f) [] cap] (.v (.bool (l.any p))) := by
  have c1 := indexFunc31 f cap hcap p l hp hl
  refine call14 (LX_ok ?_)
  simp only [go_sem, seval, L14]
  refine LCall_pure c1 (Cls.cons (Cl_seq l) (Cls.cons (Cl.fn Cls.nil hcap) Cls.nil)) ?_
  simp only [go_sem, seval, ge_iff_le, idxP_any p l 0 (by omega)]
  exact Rf.cl (Cl.v _)
set_option maxRecDepth 100000 in
theorem fill15 (s : ByteArray) : APure Try.prog 15 [.v (.string s)] (.v (.bool (decide ((40 : Int) < s.size)))) := by
  refine call15 (LX_ok ?_)
  simp only [go_sem, seval, L15, gt_iff_lt]
  exact Rf.cl (Cl.v _)
end Go.Proofs.Ytimblogmflmhkaa
namespace Go.Proofs.Ytimblogmflmhkaa
open Go Go.Abs Go.RowKit
theorem enter17 (xs : Array Value) (w : World) : (callFunc 17 xs).run Try.prog w = .ok (.enter 17 xs) w := by
  have hn : (Try.f17.name == "runtime.NumGoroutine") = false := by decide
  have hb : Try.f17.body.isSome = true := by rfl
  obtain ⟨c, hc⟩ := Option.isSome_iff_exists.1 hb
  simp [callFunc, Try.func17, hn, hc]
  intro hh
  simp [hh] at hn
theorem own_row {I : Nat → Prop} {w w' : World} {l : List ByteArray} {v : Value} (hI : ∀ b, I b → b < w.heap.size) (h : Below w.heap.size w w') (ho : w'.ownsRow w.heap.size 9 1 v l.length (l.map Value.string)) :
    ∃ r H' I' m', Rf H' r (.im l.length (strs l)) ∧ VR I' m' w' r v ∧ HR I' m' H' w' ∧ Ext I [] (Own [] []) w I' m' (Own H' m') w' := by
  obtain ⟨hlen, h2⟩ := ho
  rcases h2 with ⟨rfl, hn⟩ | ⟨g, cap, cur, rfl, hg, hgb, hle, _, hsz, htk⟩
  · have : l = [] := List.length_eq_zero_iff.1 hn
    subst this
    obtain ⟨k1, k2⟩ := ext_below hI h
    exact ⟨.im 0 [], [], I, [], Rf.cl (Cl.im Cls.nil), by simp [VR], k1, k2⟩
  · have hglt : g < w'.heap.size := by
      rcases Nat.lt_or_ge g w'.heap.size with h | h
      · exact h
      · rw [Array.getElem?_eq_none h] at hgb; cases hgb
    refine ⟨.im l.length (strs l), [], fun b => I b ∨ b = g, [], Rf.cl (Cl_seq l), ?_, HR.empty ?_, ?_⟩
    · simp only [VR]
      refine ⟨_, cap, rfl, hle, .inr ⟨g, 0, rfl, .inr rfl, CR.of_get fun i c hc => ?_⟩⟩
      have hs : ∃ s, l[i]? = some s ∧ c = .v (.string s) := by
        simp only [strs, List.getElem?_map, Option.map_eq_some_iff] at hc
        obtain ⟨s, h1, h2⟩ := hc
        exact ⟨s, h1, h2.symm⟩
      obtain ⟨s, h1, rfl⟩ := hs
      have hi : i < l.length := (List.getElem?_eq_some_iff.1 h1).1
      have h3 : cur[i]? = some (Value.string s) := by
        have e := congrArg (fun x => x[i]?) htk
        simp only [List.getElem?_map, h1, Option.map_some] at e
        rw [List.getElem?_take_of_lt (by omega)] at e
        simpa using e
      refine ⟨.string s, ?_, by simp only [VR]⟩
      simp only [World.cell?, hgb, Nat.zero_add]
      exact h3
    · rintro b (hb | rfl)
      · exact Nat.lt_of_lt_of_le (hI b hb) h.size
      · exact hglt
    · exact ⟨h.os, h.tape, h.output, h.size, fun b hb _ => h.block b hb, fun _ h => .inl h, fun _ h => .inl h, ⟨[], by simp⟩, fun b hb => by
        rcases hb with hb | rfl
        · exact .inl hb
        · exact .inr (.inr hg)⟩
theorem clone17 (l : List ByteArray) (hl : l.length < 1000000) : APure Try.prog 17 [.im l.length (strs l)] (.im l.length (strs l)) := by
  intro I m w xs hr hv
  have hm : m = [] := List.length_eq_zero_iff.1 (by simpa using hr.len)
  subst hm
  simp only [VRs, VR] at hv
  obtain ⟨y, zs, h1, ⟨A, c, rfl, hc, h3⟩, rfl⟩ := hv
  have hx : xs = #[.slice A l.length c] := by
    apply Array.toList_inj.1; rw [h1]
  subst hx
  unfold CallsFn
  rw [enter17]
  have hlt : ∀ b, I b → b < w.heap.size := hr.ilt
  rcases h3 with h3 | ⟨b, o, rfl, hb, hcr⟩
  · have : l = [] := by simpa [strs] using h3
    subst this
    cases A with
    | none =>
      refine (Try.slices_Clone_string_nil 0 c w).mono ?_
      rintro e w' ⟨rfl, rfl⟩
      obtain ⟨k1, k2⟩ := ext_below hlt (Below.refl _ _)
      exact ⟨_, rfl, .im 0 [], [], I, [], Rf.cl (Cl.im Cls.nil), by simp [VR], k1, k2⟩
    | some a =>
      refine (Try.slices_Clone_string_zero a c w).mono ?_
      rintro e w' ⟨v', rfl, ho, _, hbl⟩
      exact ⟨_, rfl, own_row (l := []) hlt hbl ho⟩
  · refine (Try.slices_Clone_string b o l.length c l w (Nat.le_refl _) (by omega) (fun j hj => ?_)).mono ?_
    · have hs : (strs l)[j]? = some (.v (.string l[j])) := by simp [strs, hj]
      obtain ⟨z, h4, h5⟩ := hcr.get j _ hs
      simp only [VR] at h5
      rw [h4, h5]
      simp [List.getD, hj]
    · rintro e w' ⟨v', rfl, ho, _, hbl⟩
      rw [List.take_length] at ho
      exact ⟨_, rfl, own_row hlt hbl ho⟩
end Go.Proofs.Ytimblogmflmhkaa
namespace Go.Proofs.Ytimblogmflmhkaa
open Go Go.Abs
def fewB (b a m : ByteArray) : Bool := decide ((b.size : Int) ≤ 150 ∧ (a.size : Int) ≤ 150 ∧ (m.size : Int) ≤ 60)
set_option maxRecDepth 100000 in
theorem few7 (b a m : ByteArray) (l h : Int) : APure Try.prog 7 [gapV b a l h m] (.v (.bool (fewB b a m))) := by
  unfold fewB gapV
  by_cases h1 : (b.size : Int) ≤ 150
  · by_cases h2 : (a.size : Int) ≤ 150
    · by_cases h3 : (m.size : Int) ≤ 60 <;>
      · refine call7 (LX_ok ?_)
        simp only [go_sem, seval, L7, h1, h2, h3]
        exact Rf.cl (Cl.v _)
    · refine call7 (LX_ok ?_)
      simp only [go_sem, seval, L7, h1, h2, false_and, and_false]
      exact Rf.cl (Cl.v _)
  · refine call7 (LX_ok ?_)
    simp only [go_sem, seval, L7, h1, false_and, and_false]
    exact Rf.cl (Cl.v _)
theorem flat_len (sep : ByteArray) : ∀ (ws : List ByteArray), (∀ x ∈ ws, x.size ≤ 40) → (ws.flatMap fun y => sep.data.toList ++ y.data.toList).length ≤ ws.length * (sep.size + 40)
  | [], _ => by simp
  | x :: xs, h => by
    have ih := flat_len sep xs (fun y hy => h y (List.mem_cons_of_mem _ hy))
    have hx := h x (List.mem_cons_self ..)
    rw [List.flatMap_cons, List.length_append, List.length_append, szL, szL, List.length_cons, Nat.succ_mul]
    omega
theorem joinT_len (sep : ByteArray) (ws : List ByteArray) (h : ∀ x ∈ ws, x.size ≤ 40) : (joinT ws sep).length ≤ ws.length * (sep.size + 40) := by
  cases ws with
  | nil => simp [joinT]
  | cons x xs =>
    have ih := flat_len sep xs (fun y hy => h y (List.mem_cons_of_mem _ hy))
    have hx := h x (List.mem_cons_self ..)
    simp only [joinT]
    rw [List.length_append, szL, List.length_cons, Nat.succ_mul]
    omega
set_option maxRecDepth 100000 in
set_option maxHeartbeats 1000000 in
theorem gapFill4 (haw : APure Try.prog 6 [] (.v (.bool true))) (b a : ByteArray) (l h : Int) (m : ByteArray) (ws : List ByteArray) :
    APure Try.prog 4 [gapV b a l h m, .im ws.length (strs ws)] (.v (.bool true)) := by
  have c7 := few7 b a m l h
  cases hf : fewB b a m
  · rw [hf] at c7
    refine call4 (LX_ok ?_)
    simp only [go_sem, seval, L4, gapV]
    refine LCall_pure haw Cls.nil ?_
    simp only [go_sem, seval]
    refine LCall_pure c7 (Cls.cons (Cl_gapV b a l h m) Cls.nil) ?_
    simp only [go_sem, seval]
    refine LCall_pure haw Cls.nil ?_
    simp only [go_sem, seval]
    exact Rf.cl (Cl.v _)
  · rw [hf] at c7
    simp only [fewB, decide_eq_true_eq] at hf
    by_cases h5 : (5 : Int) < ws.length
    · refine call4 (LX_ok ?_)
      simp only [go_sem, seval, L4, gapV]
      refine LCall_pure haw Cls.nil ?_
      simp only [go_sem, seval]
      refine LCall_pure c7 (Cls.cons (Cl_gapV b a l h m) Cls.nil) ?_
      simp only [go_sem, seval, h5]
      refine LCall_pure haw Cls.nil ?_
      simp only [go_sem, seval]
      exact Rf.cl (Cl.v _)
    · have c14 := containsFunc14 15 [] Cls.nil (fun s => decide ((40 : Int) < s.size)) ws (fun c _ => fill15 c) (by omega)
      cases hc : ws.any (fun s => decide ((40 : Int) < s.size))
      · rw [hc] at c14
        have hs : ∀ x ∈ ws, x.size ≤ 40 := by
          intro x hx
          have := List.any_eq_false.1 hc x hx
          simp only [decide_eq_true_eq] at this
          omega
        have j1 := joinT_len ⟨#[32]⟩ ws hs
        have j2 := joinT_len ⟨#[]⟩ ws hs
        have e1 : ByteArray.size ⟨#[32]⟩ = 1 := by rfl
        have e2 : ByteArray.size ⟨#[]⟩ = 0 := by rfl
        rw [e1] at j1; rw [e2] at j2
        have c16 := fill16 b a l h m ws (by omega) (by omega) (by omega) (by omega)
        have c18 := fill18 b a l h m ws (by omega) (by omega) (by omega) (by omega)
        have c17 := clone17 ws (by omega)
        rw [fillF_eq] at c16
        generalize fillF (letteredR m ws) b a l h m ws = r at c16 c18
        refine call4 (LX_ok ?_)
        simp only [go_sem, seval, L4, gapV]
        refine LCall_pure haw Cls.nil ?_
        simp only [go_sem, seval]
        refine LCall_pure c7 (Cls.cons (Cl_gapV b a l h m) Cls.nil) ?_
        simp only [go_sem, seval, h5]
        refine LCall_pure c14 (Cls.cons (Cl_seq ws) (Cls.cons (Cl.fn Cls.nil Cls.nil) Cls.nil)) ?_
        simp only [go_sem, seval]
        refine LW_still dl4_3 mixedP dx4_3 ?_
        simp only [go_sem, seval, l4_3]
        refine ZCall_pure c17 (Cls.cons (Cl_seq ws) Cls.nil) ?_
        simp only [go_sem, seval]
        refine ZCall_pure c16 (Cls.cons (Cl_gapV b a l h m) (Cls.cons (Cl_seq ws) Cls.nil)) ?_
        simp only [go_sem, seval, resF]
        refine LCall_pure c18 (Cls.cons (Cl_gapV b a l h m) (Cls.cons (Cl_seq ws) Cls.nil)) ?_
        simp only [go_sem, seval, resF]
        exact Rf.cl (Cl.v _)
      · rw [hc] at c14
        refine call4 (LX_ok ?_)
        simp only [go_sem, seval, L4, gapV]
        refine LCall_pure haw Cls.nil ?_
        simp only [go_sem, seval]
        refine LCall_pure c7 (Cls.cons (Cl_gapV b a l h m) Cls.nil) ?_
        simp only [go_sem, seval, h5]
        refine LCall_pure c14 (Cls.cons (Cl_seq ws) (Cls.cons (Cl.fn Cls.nil Cls.nil) Cls.nil)) ?_
        simp only [go_sem, seval]
        refine LCall_pure haw Cls.nil ?_
        simp only [go_sem, seval]
        exact Rf.cl (Cl.v _)
end Go.Proofs.Ytimblogmflmhkaa
