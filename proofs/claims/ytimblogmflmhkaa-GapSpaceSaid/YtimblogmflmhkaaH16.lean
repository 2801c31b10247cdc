/- Part 16 of the texts that lead to gapFill_holds, gapSpace_holds, gapWider_holds. No condition. -/
import Derived.Test.YtimblogmflmhkaaH15
set_option linter.unusedSimpArgs false
set_option linter.unusedVariables false
set_option linter.unnecessarySimpa false
namespace Go.Proofs.Ytimblogmflmhkaa
open Go Go.Abs
def gapV (b a : ByteArray) (l h : Int) (m : ByteArray) : AV := .ag [.v (.string b), .v (.string a), .v (.int .i64 l), .v (.int .i64 h), .v (.string m)]
theorem Cl_gapV (b a : ByteArray) (l h : Int) (m : ByteArray) : Cl (gapV b a l h m) :=
  Cl.ag (Cls.cons (Cl.v _) (Cls.cons (Cl.v _) (Cls.cons (Cl.v _) (Cls.cons (Cl.v _) (Cls.cons (Cl.v _) Cls.nil)))))
def gapE (l h : Int) (m : ByteArray) : Int := if l < 0 ∨ h < l ∨ 30 < h then 6 else maskE m
set_option maxRecDepth 100000 in
set_option maxHeartbeats 1000000 in
theorem valid35 (b a : ByteArray) (l h : Int) (m : ByteArray) : APure Try.prog 35 [gapV b a l h m] (.v (.int .i64 (gapE l h m))) := by
  have c1 := mask53 m
  unfold gapE gapV
  by_cases h1 : l < 0
  · rw [if_pos (.inl h1)]
    refine call35 (LX_ok ?_)
    simp only [go_sem, seval, L35, h1]
    exact Rf.cl (Cl.v _)
  · by_cases h2 : h < l
    · rw [if_pos (.inr (.inl h2))]
      refine call35 (LX_ok ?_)
      simp only [go_sem, seval, L35, h1, gt_iff_lt, h2]
      exact Rf.cl (Cl.v _)
    · by_cases h3 : 30 < h
      · rw [if_pos (.inr (.inr h3))]
        refine call35 (LX_ok ?_)
        simp only [go_sem, seval, L35, h1, gt_iff_lt, h2, h3]
        exact Rf.cl (Cl.v _)
      · rw [if_neg (by omega)]
        refine call35 (LX_ok ?_)
        simp only [go_sem, seval, L35, h1, gt_iff_lt, h2, h3]
        refine LCall_pure c1 (Cls.cons (Cl.v _) Cls.nil) ?_
        simp only [go_sem, seval]
        exact Rf.cl (Cl.v _)
set_option maxRecDepth 100000 in
set_option maxHeartbeats 1000000 in
theorem valid24 (b a : ByteArray) (l h : Int) (m : ByteArray) : APure Try.prog 24 [gapV b a l h m] (.v (.int .i64 (gapE l h m))) := by
  have c1 := fits47 ⟨#[]⟩ m (by decide)
  unfold gapE gapV
  by_cases h1 : l < 0
  · rw [if_pos (.inl h1)]
    refine call24 (LX_ok ?_)
    simp only [go_sem, seval, L24, h1]
    exact Rf.cl (Cl.v _)
  · by_cases h2 : h < l
    · rw [if_pos (.inr (.inl h2))]
      refine call24 (LX_ok ?_)
      simp only [go_sem, seval, L24, h1, gt_iff_lt, h2]
      exact Rf.cl (Cl.v _)
    · by_cases h3 : 30 < h
      · rw [if_pos (.inr (.inr h3))]
        refine call24 (LX_ok ?_)
        simp only [go_sem, seval, L24, h1, gt_iff_lt, h2, h3]
        exact Rf.cl (Cl.v _)
      · rw [if_neg (by omega)]
        refine call24 (LX_ok ?_)
        simp only [go_sem, seval, L24, h1, gt_iff_lt, h2, h3]
        refine LCall_pure c1 (Cls.cons (Cl.v _) (Cls.cons (Cl.v _) Cls.nil)) ?_
        simp only [go_sem, seval]
        exact Rf.cl (Cl.v _)
end Go.Proofs.Ytimblogmflmhkaa
namespace Go.Proofs.Ytimblogmflmhkaa
open Go Go.Abs
def strs (l : List ByteArray) : List AV := l.map fun s => .v (.string s)
theorem Cls_strs (l : List ByteArray) : Cls (strs l) := Cls.map _ fun _ => Cl.v _
def joinT (l : List ByteArray) (sep : ByteArray) : List UInt8 := match l with
  | [] => []
  | x :: xs => x.data.toList ++ xs.flatMap fun y => sep.data.toList ++ y.data.toList
def restT (l : List ByteArray) (sep : ByteArray) (k : Nat) : List UInt8 := if k = 0 then joinT l sep else (l.drop k).flatMap fun y => sep.data.toList ++ y.data.toList
theorem app_data (a b : ByteArray) : (a ++ b).data.toList = a.data.toList ++ b.data.toList := by
  rw [ByteArray.data_append, Array.toList_append]
theorem app_size (a b : ByteArray) : (a ++ b).size = a.size + b.size := by
  rw [← szL, app_data, List.length_append, szL, szL]
def S39 (l : List ByteArray) (sep o : ByteArray) (k : Nat) (q : Nat → AV) : List AV := [.im l.length (strs l), .v (.string sep), q 2, q 3, .v (.string ⟨#[]⟩), .v (.string o), .v (.int .i64 k), q 7, q 8, q 9, q 10, q 11, q 12, q 13, q 14, q 15, q 16, q 17, q 18, q 19, q 20, q 21, q 22, q 23, q 24]
def J39 (l : List ByteArray) (sep : ByteArray) (n : Nat) (g : List AV) (H : List AO) : Prop :=
  ∃ (k : Nat) (o : ByteArray), k + n = l.length ∧ joinT l sep = o.data.toList ++ restT l sep k ∧ (∃ q, g = S39 l sep o k q) ∧ H = []
set_option maxRecDepth 100000 in
set_option maxHeartbeats 1000000 in
theorem text39 (l : List ByteArray) (sep : ByteArray) (hl : l.length < 1000000) (hj : (joinT l sep).length < 1000000) :
    APure Try.prog 39 [.im l.length (strs l), .v (.string sep)] (.v (.string (bs (joinT l sep)))) := by
  refine call39 (LX_ok ?_)
  simp only [go_sem, seval, L39]
  refine LX_loop_inv (J39 l sep) l.length ⟨0, ⟨#[]⟩, by omega, by simp [restT], exq rfl, rfl⟩ ?_
  rintro n g H ⟨k, o, hk, hi, ⟨q, rfl⟩, rfl⟩
  have hlen : o.size + (restT l sep k).length < 1000000 := by
    have := congrArg List.length hi
    rw [List.length_append, szL] at this
    omega
  by_cases h3 : k < l.length
  · have h4 : (k : Int) < l.length := by omega
    obtain ⟨d, hd, hd'⟩ := dropG h3
    by_cases h0 : k = 0
    · subst h0
      have hr : restT l sep 0 = d.data.toList ++ restT l sep 1 := by
        simp only [restT, if_true, if_neg Nat.one_ne_zero]
        have : l = d :: l.drop 1 := by simpa using hd'
        rw [this]; simp [joinT]
      rw [hr, List.length_append, szL] at hlen
      have h5 : o.size + d.size ≤ 9223372036854775807 := by omega
      have h6 : ¬ ((0 : Nat) : Int) > 0 := by omega
      have h4' : (0 : Int) < l.length := by omega
      have w1 : IntKind.wrap .i64 (0 + 1) = 1 := by decide
      simp only [go_sem, seval, L39_b0, S39, h4', h3, strs, List.length_map, List.getElem?_map, hd, h5, w1]
      refine ⟨n - 1, by omega, 0 + 1, o ++ d, by omega, ?_, exq rfl, rfl⟩
      rw [app_data, hi, hr, List.append_assoc]
    · have hr : restT l sep k = sep.data.toList ++ d.data.toList ++ restT l sep (k + 1) := by
        simp only [restT, if_neg h0, if_neg (Nat.succ_ne_zero k), hd', List.flatMap_cons]
      rw [hr, List.length_append, List.length_append, szL, szL] at hlen
      have h5 : o.size + sep.size ≤ 9223372036854775807 := by omega
      have h5' : (o ++ sep).size + d.size ≤ 9223372036854775807 := by rw [app_size]; omega
      have h6 : (k : Int) > 0 := by omega
      simp only [go_sem, seval, L39_b0, S39, h4, h3, strs, List.length_map, drop_map hd', h5, h5', h6, wrapS (k := k) (by omega)]
      refine ⟨n - 1, by omega, k + 1, o ++ sep ++ d, by omega, ?_, exq rfl, rfl⟩
      rw [app_data, app_data, hi, hr]; simp
  · have h4 : ¬ (k : Int) < l.length := by omega
    have he : bs (joinT l sep) = o := by
      have hr : restT l sep k = [] := by
        unfold restT
        by_cases h0 : k = 0
        · have : l = [] := List.length_eq_zero_iff.1 (by omega)
          subst this; simp [h0, joinT]
        · rw [if_neg h0, List.drop_eq_nil_of_le (by omega)]; rfl
      rw [hi, hr, List.append_nil, bs_self]
    rw [he]
    simp only [go_sem, seval, L39_b0, S39, h4]
    exact Rf.cl (Cl.v _)
end Go.Proofs.Ytimblogmflmhkaa
