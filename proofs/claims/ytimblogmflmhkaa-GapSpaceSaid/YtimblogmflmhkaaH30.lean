/- The last part of the texts: it proves gapFill_holds, gapSpace_holds, gapWider_holds. No condition. -/
import Derived.OpenShut
import Derived.Test.YtimblogmflmhkaaH29
set_option linter.unusedSimpArgs false
set_option linter.unusedVariables false
set_option linter.unnecessarySimpa false
namespace Go.Proofs.Ytimblogmflmhkaa
open Go Go.Abs
open Go.ChangeShapes Go.WideShapes Go.ChangeAt Go.RowKit
open Go.ChangeMaps (open_string shut_string)
theorem okWide_array {P : Program} {w : World} {r : Reach} {base : Nat} {t e : TypeId} {v : Value} {n : Nat} (ht : P.underlying t = some (.array n e)) (h : Value.okWide P w r base t v) : ∃ cs, v = .agg cs ∧ cs.size = P.cellsOf t := by
  simp only [Value.okWide, ht] at h
  obtain ⟨cs, h1, h2, _⟩ := h
  exact ⟨cs, h1, h2⟩
theorem byte_of {n : Int} (h : (Lit.int .u8 n).wf = true) : ∃ x : UInt8, n = x.toNat := by
  simp [Lit.wf, IntKind.min, IntKind.max, IntKind.signed, IntKind.bits] at h
  refine ⟨UInt8.ofNat n.toNat, ?_⟩
  rw [show (UInt8.ofNat n.toNat).toNat = n.toNat % 2 ^ 8 from UInt8.toNat_ofNat']
  omega
section
variable {H : Type} {enc : TypeId × Value → H}
set_option maxRecDepth 100000 in
theorem open_pair {W : World} {base : Nat} {v : Value} {d : DataW H} {p : List MemPlace} (hval : Value.okWide Try.prog W .any base 27 v) (h : DataW.Trod enc Try.prog W 0 (fun _ => true) true 27 v d p) :
    ∃ (x y : UInt8), v = .agg #[.int .u8 x.toNat, .int .u8 y.toNat] := by
  obtain ⟨cs, rfl, hsz⟩ := okWide_array Try.underlying27 hval
  obtain ⟨fuel, hf⟩ := h
  obtain ⟨xs, n, _, _, hl, hlen, hf⟩ := DataW.trod_array Try.underlying27 hf
  have c27 : Try.prog.cellsOf 27 = 2 := by kernel_rfl
  have c5 : Try.prog.cellsOf 5 = 1 := by kernel_rfl
  rw [c27] at hsz
  obtain ⟨l⟩ := cs
  match l, hsz with
  | [x0, x1], _ =>
  match xs, hlen with
  | [y0, y1], _ =>
  have h0 := hf 0 (by decide)
  have h1 := hf 1 (by decide)
  simp only [Value.cells, c5, Nat.zero_mul, Nat.one_mul, List.drop_zero, List.drop_succ_cons, List.take_succ_cons, List.take_zero] at h0 h1
  obtain ⟨s0, e0, _, w0⟩ := DataW.trod_int Try.underlying5 h0
  obtain ⟨s1, e1, _, w1⟩ := DataW.trod_int Try.underlying5 h1
  cases e0; cases e1
  obtain ⟨x, rfl⟩ := byte_of w0
  obtain ⟨y, rfl⟩ := byte_of w1
  exact ⟨x, y, rfl⟩
end
theorem calls3 {xs : Array Value} {w : World} {K : Value → World → Prop} (h : CallsFn Try.prog 3 xs w K) : Calls Try.prog 3 xs w (fun e w'' => ∃ v, e = .returned v ∧ K v w'') := by
  have e0 : (callFunc 3 xs).run Try.prog w = .ok (.enter 3 xs) w := run_enter Try.func3 (by decide) rfl
  unfold CallsFn at h
  rw [e0] at h
  exact h
set_option maxRecDepth 100000 in
set_option maxHeartbeats 2000000 in
theorem gapWider_lifted (os : Os) (started : os.Started) (H : Type) (enc : TypeId × Value → H) :
    ReturnsInHanded {} Try.checked os 3 .any (Rows.gapWiderSpec.pre6 enc Try.prog Try.f3 Rows.gapWiderRow.domain false) (Rows.gapWiderSpec.post enc Try.prog Try.f3 false true false false) := by
  refine returnsInHanded_of_change (C := Try.checked) Try.own started (by kernel_rfl) Try.func3
    (ChangeSpec.witness6 (enc := enc) (C := Try.checked) false ⟨#[], #[.agg #[.string ⟨#[]⟩, .string ⟨#[]⟩, .int .i64 0, .int .i64 0, .string ⟨#[]⟩], .agg #[.slice none 0 0], .agg #[.int .u8 0, .int .u8 0]], []⟩ 8 (by kernel_rfl) (by kernel_rfl) (by kernel_rfl) (by kernel_rfl)) ?_
  intro W base args ds gs before hval0 hW _ _
  have hval : ∀ (j : Nat) t v, Try.f3.params[j]? = some t → args[j]? = some v → Value.okWide Try.prog W .any base t v := hval0
  have hW' := hW
  have hlt := hW.lt
  obtain ⟨p, q, hA0, hV, rfl, _, _⟩ := hW
  have hA : DataW.TrodAll enc Try.prog W 0 (fun _ => true) true Try.f3.params.toList args.toList ds p := hA0
  have pm : Try.f3.params = #[23, 26, 27] := by kernel_rfl
  rw [pm] at hA hval
  obtain ⟨v0, v1, v2, d0, d1, d2, p0, p1, p2, rfl, rfl, rfl, h0, h1, h2⟩ := trodAll_three hA
  obtain ⟨rfl, rfl⟩ := trodVars_none hV
  obtain ⟨b, a, l, hh, m, rfl⟩ := open_gap (hval 0 23 v0 rfl rfl) h0
  obtain ⟨ws, y, rfl, hws, hsz⟩ := open_list (hval 1 26 v1 rfl rfl) h1
  obtain ⟨x1, x2, rfl⟩ := open_pair (hval 2 27 v2 rfl rfl) h2
  have hb := calls3 ((APure.below (gapWider b a l hh m ws x1 x2) (w := W) (xs := #[.agg #[.string b, .string a, .int .i64 l, .int .i64 hh, .string m], .agg #[y], .agg #[.int .u8 x1.toNat, .int .u8 x2.toNat]]) (by
    simp only [VRs]
    refine ⟨_, _, rfl, ?_, _, _, rfl, ?_, _, _, rfl, ?_, rfl⟩
    · simp only [gapV, VR, VRs]
      exact ⟨_, rfl, _, _, rfl, rfl, _, _, rfl, rfl, _, _, rfl, rfl, _, _, rfl, rfl, _, _, rfl, rfl, rfl⟩
    · rw [VR]
      exact ⟨_, rfl, by simp only [VRs]; exact ⟨_, _, rfl, hws, rfl⟩⟩
    · simp only [byV, VR, VRs]
      exact ⟨_, rfl, _, _, rfl, rfl, _, _, rfl, rfl, rfl⟩)))
  refine hb.mono ?_
  rintro e W' ⟨v, rfl, rfl, bel⟩
  have t0 := Below.trod Try.laidOut (by kernel_rfl) (of_decide_eq_true (by kernel_rfl)) h0 bel fun x hx => hlt x (by simp [hx])
  have t1 := Below.trod Try.laidOut (by kernel_rfl) (of_decide_eq_true (by kernel_rfl)) h1 bel fun x hx => hlt x (by simp [hx])
  have t2 := Below.trod Try.laidOut (by kernel_rfl) (of_decide_eq_true (by kernel_rfl)) h2 bel fun x hx => hlt x (by simp [hx])
  refine ⟨_, rfl, _, _, _, [], p0 ++ (p1 ++ p2), [], hW', ?_, ?_, ?_, bel.frame _, fun h => by cases h⟩
  · exact trodAll_mk1 (shut_bool Try.underlying4 _)
  · rw [pm]
    exact trodAll_mk3 t0 t1 t2
  · rfl
theorem gapWider_holds : Rows.GapWiderSaid :=
  OpenClaim.holds_of_wide 3 Try.f3 rfl rfl rfl rfl rfl rfl rfl ⟨rfl, rfl, rfl, rfl, rfl⟩ rfl rfl rfl rfl rfl (by kernel_rfl) Try.func3 (by kernel_rfl)
    (of_decide_eq_true (by kernel_rfl)) (by unfold Func.isWrapper; rw [if_neg (of_decide_eq_false (by kernel_rfl))]; exact ⟨rfl, rfl⟩)
    (fun os started H enc _ => gapWider_lifted os started H enc)
end Go.Proofs.Ytimblogmflmhkaa
