/- Part 29 of the texts that lead to gapFill_holds, gapSpace_holds, gapWider_holds. No condition. -/
import Derived.Test.YtimblogmflmhkaaRows
import Derived.ProofKit
import Derived.SliceStrings
import Derived.JoinedOf
import Derived.JoinedAt
import Derived.RowKit3
import Derived.Carry
import Derived.ChangeMaps5
import Derived.Test.YtimblogmflmhkaaH28
set_option linter.unusedSimpArgs false
set_option linter.unusedVariables false
set_option linter.unnecessarySimpa false
namespace Go.Proofs.Ytimblogmflmhkaa
open Go Go.Abs
open Go.ChangeShapes Go.WideShapes Go.ChangeAt Go.RowKit
open Go.ChangeMaps (open_string shut_string)
theorem Try.own : ownKnob Try.prog.godebug = none := by kernel_rfl
theorem Try.laidOut : laidOutB Try.prog = true := by kernel_rfl
section
variable {H : Type} {enc : TypeId × Value → H}
set_option maxRecDepth 100000 in
theorem open_gap {W : World} {base : Nat} {sp : Nat → Bool} {v : Value} {d : DataW H} {p : List MemPlace} (hval : Value.okWide Try.prog W .any base 23 v) (h : DataW.Trod enc Try.prog W 0 sp true 23 v d p) :
    ∃ (b a : ByteArray) (l hh : Int) (m : ByteArray), v = .agg #[.string b, .string a, .int .i64 l, .int .i64 hh, .string m] := by
  obtain ⟨cs, rfl, hsz⟩ := okWide_struct Try.underlying23 hval
  obtain ⟨fuel, hf⟩ := h
  obtain ⟨xs, n, _, _, hl, hlen, hf⟩ := DataW.trod_struct Try.underlying23 hf
  have c23 : Try.prog.cellsOf 23 = 5 := by kernel_rfl
  have c9 : Try.prog.cellsOf 9 = 1 := by kernel_rfl
  have c3 : Try.prog.cellsOf 3 = 1 := by kernel_rfl
  rw [c23] at hsz
  obtain ⟨l⟩ := cs
  match l, hsz with
  | [x0, x1, x2, x3, x4], _ =>
  match xs, hlen with
  | [y0, y1, y2, y3, y4], _ =>
  have h0 := hf 0 _ rfl
  have h1 := hf 1 _ rfl
  have h2 := hf 2 _ rfl
  have h3 := hf 3 _ rfl
  have h4 := hf 4 _ rfl
  simp only [Value.cells, c9, c3, List.drop_zero, List.drop_succ_cons, List.take_succ_cons, List.take_zero] at h0 h1 h2 h3 h4
  obtain ⟨s0, e0, _⟩ := DataW.trod_string Try.underlying9 h0
  obtain ⟨s1, e1, _⟩ := DataW.trod_string Try.underlying9 h1
  obtain ⟨s2, e2, _⟩ := DataW.trod_int Try.underlying3 h2
  obtain ⟨s3, e3, _⟩ := DataW.trod_int Try.underlying3 h3
  obtain ⟨s4, e4, _⟩ := DataW.trod_string Try.underlying9 h4
  cases e0; cases e1; cases e2; cases e3; cases e4
  exact ⟨_, _, _, _, _, rfl⟩
end
theorem APure.below {P : Program} {n : FuncId} {args : List AV} {r : Value} (h : APure P n args (.v r)) {w : World} {xs : Array Value} (hv : VRs (fun b => b < w.heap.size) [] w args xs.toList) :
    CallsFn P n xs w (fun v w' => v = r ∧ Below w.heap.size w w') := by
  have hr : HR (fun b => b < w.heap.size) [] [] w := ⟨rfl, fun _ _ _ h => by simp at h, fun _ _ _ _ _ _ _ h => by simp at h, fun b _ ho => by
    obtain ⟨id, o, L, h1, _⟩ := ho
    simp at h1, fun b hb => hb⟩
  refine (h _ _ w xs hr hv).mono ?_
  rintro v w' ⟨r', H', I', m', h1, h2, h3, h4⟩
  have h5 := h1 _ _ _ _ h3 h2
  simp only [VR] at h5
  refine ⟨h5, h4.os, h4.tape, h4.output, h4.size, fun k hk => h4.blk k hk ?_⟩
  rintro ⟨id, o, L, h1, _⟩
  simp at h1
theorem CR_strs {I : Nat → Prop} {m : List Abs.Loc} {W : World} {b : Nat} : ∀ (l : List ByteArray) (o : Nat), (∀ (i : Nat) s, l[i]? = some s → W.cell? ⟨b, o + i, none⟩ = some (.string s)) → CR I m W b (strs l) o
  | [], _, _ => by simp only [strs, List.map_nil, CR]
  | x :: l, o, h => by
    simp only [strs, List.map_cons, CR]
    refine ⟨⟨_, h 0 x rfl, by simp only [VR]⟩, CR_strs l (o + 1) fun i s hs => ?_⟩
    have := h (i + 1) s (by simpa using hs)
    rw [show o + 1 + i = o + (i + 1) by omega]; exact this
theorem row_of {W : World} {a : Addr} {len cap : Nat} {ss : List ByteArray} (hl : len ≤ cap) (hz : ss.length = cap) (hc : ∀ i, i < ss.length → W.cell? (a.add i) = some (.string (ss.getD i ByteArray.empty))) :
    VR (fun b => b < W.heap.size) [] W (.im (ss.take len).length (strs (ss.take len))) (.slice (some a) len cap) := by
  have e : (ss.take len).length = len := by rw [List.length_take]; omega
  rw [e]
  simp only [VR]
  refine ⟨_, _, rfl, hl, ?_⟩
  by_cases h0 : len = 0
  · left; subst h0; simp [strs]
  · right
    have h1 := hc 0 (by omega)
    obtain ⟨b, o, sp⟩ := a
    have hb : b < W.heap.size ∧ sp = none := by
      unfold World.cell? at h1
      simp only [Addr.add] at h1
      split at h1
      · rename_i c _ _ hh
        refine ⟨lt_of_heap hh, ?_⟩
        cases sp with
        | none => rfl
        | some k => simp at h1
      · cases h1
    obtain ⟨hb, rfl⟩ := hb
    refine ⟨b, o, rfl, hb, CR_strs _ _ fun i s hs => ?_⟩
    have hi : i < len := by
      have := (List.getElem?_eq_some_iff.1 hs).1
      omega
    have h2 := hc i (by omega)
    have h3 : ss[i]? = some s := by
      rw [List.getElem?_take_of_lt hi] at hs; exact hs
    have h4 : ss.getD i ByteArray.empty = s := by simp [List.getD, h3]
    rw [h4] at h2
    rcases Nat.eq_zero_or_pos i with hi0 | hi0
    · subst hi0; simpa [Addr.add] using h2
    · simpa [Addr.add, show i ≠ 0 by omega] using h2
theorem run_enter {P : Program} {n : FuncId} {fn : Func} (hf : P.funcs[n]? = some fn) (hn : (fn.name == "runtime.NumGoroutine") = false) (hb : fn.body.isNone = false) {xs : Array Value} {w : World} : (callFunc n xs).run P w = .ok (.enter n xs) w := by
  cases h : fn.body with
  | none => rw [h] at hb; cases hb
  | some c =>
    have hn' : ¬ fn.name = "runtime.NumGoroutine" := by intro e; rw [e] at hn; simp at hn
    simp [callFunc, hf, hn', h]
theorem calls4 {xs : Array Value} {w : World} {K : Value → World → Prop} (h : CallsFn Try.prog 4 xs w K) : Calls Try.prog 4 xs w (fun e w'' => ∃ v, e = .returned v ∧ K v w'') := by
  have e0 : (callFunc 4 xs).run Try.prog w = .ok (.enter 4 xs) w := run_enter Try.func4 (by decide) rfl
  unfold CallsFn at h
  rw [e0] at h
  exact h
set_option maxRecDepth 100000 in
set_option maxHeartbeats 2000000 in
theorem gapFill_lifted (os : Os) (started : os.Started) (H : Type) (enc : TypeId × Value → H) :
    ReturnsInHanded {} Try.checked os 4 .any (Rows.gapFillSpec.pre6 enc Try.prog Try.f4 Rows.gapFillRow.domain false) (Rows.gapFillSpec.post enc Try.prog Try.f4 false true false false) := by
  refine returnsInHanded_of_change (C := Try.checked) Try.own started (by kernel_rfl) Try.func4
    (ChangeSpec.witness6 (enc := enc) (C := Try.checked) false ⟨#[], #[.agg #[.string ⟨#[]⟩, .string ⟨#[]⟩, .int .i64 0, .int .i64 0, .string ⟨#[]⟩], .slice none 0 0], []⟩ 8 (by kernel_rfl) (by kernel_rfl) (by kernel_rfl) (by kernel_rfl)) ?_
  intro W base args ds gs before hval0 hW _ _
  have hval : ∀ (j : Nat) t v, Try.f4.params[j]? = some t → args[j]? = some v → Value.okWide Try.prog W .any base t v := hval0
  have hW' := hW
  have hlt := hW.lt
  obtain ⟨p, q, hA0, hV, rfl, _, _⟩ := hW
  have hA : DataW.TrodAll enc Try.prog W 0 (fun _ => true) true Try.f4.params.toList args.toList ds p := hA0
  have pm : Try.f4.params = #[23, 24] := by kernel_rfl
  rw [pm] at hA hval
  obtain ⟨v0, v1, d0, d1, p0, p1, rfl, rfl, rfl, h0, h1⟩ := trodAll_two hA
  obtain ⟨rfl, rfl⟩ := trodVars_none hV
  obtain ⟨b, a, l, hh, m, rfl⟩ := open_gap (hval 0 23 v0 rfl rfl) h0
  obtain ⟨a0, len, cap, rfl⟩ := okWide_slice Try.underlying24 (hval 1 24 v1 rfl rfl)
  have hrow : ∃ ws : List ByteArray, VR (fun b => b < W.heap.size) [] W (.im ws.length (strs ws)) (.slice a0 len cap) := by
    obtain ⟨fuel, hf⟩ := h1
    rcases open_strings Try.underlying24 Try.underlying9 (by kernel_rfl) hf with ⟨hcs, _⟩ | ⟨ad, len', cap', ss, hcs, _, hl, _, hz, _, hcell, _⟩
    · simp [Value.cells] at hcs
      obtain ⟨rfl, rfl, rfl⟩ := hcs
      exact ⟨[], by simp only [VR, strs]; exact ⟨_, _, rfl, Nat.le_refl _, .inl rfl⟩⟩
    · simp [Value.cells] at hcs
      obtain ⟨rfl, rfl, rfl⟩ := hcs
      exact ⟨_, row_of hl (by simpa using hz) hcell⟩
  obtain ⟨ws, hws⟩ := hrow
  have hb := calls4 ((APure.below (gapFill b a l hh m ws) (w := W) (xs := #[.agg #[.string b, .string a, .int .i64 l, .int .i64 hh, .string m], .slice a0 len cap]) (by
    simp only [VRs]
    refine ⟨_, _, rfl, ?_, _, _, rfl, hws, rfl⟩
    simp only [gapV, VR, VRs]
    exact ⟨_, rfl, _, _, rfl, rfl, _, _, rfl, rfl, _, _, rfl, rfl, _, _, rfl, rfl, _, _, rfl, rfl, rfl⟩)))
  refine hb.mono ?_
  rintro e W' ⟨v, rfl, rfl, bel⟩
  have t0 := Below.trod Try.laidOut (by kernel_rfl) (of_decide_eq_true (by kernel_rfl)) h0 bel fun x hx => hlt x (by simp [hx])
  have t1 := Below.trod Try.laidOut (by kernel_rfl) (of_decide_eq_true (by kernel_rfl)) h1 bel fun x hx => hlt x (by simp [hx])
  refine ⟨_, rfl, _, _, _, [], p0 ++ p1, [], hW', ?_, ?_, ?_, bel.frame _, fun h => by cases h⟩
  · exact trodAll_mk1 (shut_bool Try.underlying4 _)
  · rw [pm]
    exact trodAll_mk2 t0 t1
  · rfl
theorem gapFill_holds : Rows.GapFillSaid :=
  OpenClaim.holds_of_wide 4 Try.f4 rfl rfl rfl rfl rfl rfl rfl ⟨rfl, rfl, rfl, rfl, rfl⟩ rfl rfl rfl rfl rfl (by kernel_rfl) Try.func4 (by kernel_rfl)
    (of_decide_eq_true (by kernel_rfl)) (by unfold Func.isWrapper; rw [if_neg (of_decide_eq_false (by kernel_rfl))]; exact ⟨rfl, rfl⟩)
    (fun os started H enc _ => gapFill_lifted os started H enc)
section
variable {H : Type} {enc : TypeId × Value → H}
set_option maxRecDepth 100000 in
theorem open_list {W : World} {base : Nat} {v : Value} {d : DataW H} {p : List MemPlace} (hval : Value.okWide Try.prog W .any base 26 v) (h : DataW.Trod enc Try.prog W 0 (fun _ => true) true 26 v d p) :
    ∃ (ws : List ByteArray) (y : Value), v = .agg #[y] ∧ VR (fun b => b < W.heap.size) [] W (.im ws.length (strs ws)) y ∧ ∀ w ∈ ws, w.size ≤ maxLen := by
  obtain ⟨cs, rfl, hsz⟩ := okWide_struct Try.underlying26 hval
  obtain ⟨fuel, hf⟩ := h
  obtain ⟨xs, n, _, _, hl, hlen, hf⟩ := DataW.trod_struct Try.underlying26 hf
  have c26 : Try.prog.cellsOf 26 = 1 := by kernel_rfl
  have c24 : Try.prog.cellsOf 24 = 1 := by kernel_rfl
  rw [c26] at hsz
  obtain ⟨l⟩ := cs
  match l, hsz with
  | [x0], _ =>
  match xs, hlen with
  | [y0], _ =>
  have h0 := hf 0 _ rfl
  simp only [Value.cells, c24, List.drop_zero, List.take_succ_cons, List.take_zero] at h0
  rcases open_strings Try.underlying24 Try.underlying9 (by kernel_rfl) h0 with ⟨hcs, _⟩ | ⟨ad, len', cap', ss, hcs, _, hl2, _, hz, _, hcell, hsz⟩
  · cases hcs
    exact ⟨[], _, rfl, by simp only [VR, strs]; exact ⟨_, _, rfl, Nat.le_refl _, .inl rfl⟩, by simp⟩
  · cases hcs
    exact ⟨_, _, rfl, row_of hl2 (by simpa using hz) hcell, fun w hw => hsz w (List.mem_of_mem_take hw)⟩
end
theorem calls5 {xs : Array Value} {w : World} {K : Value → World → Prop} (h : CallsFn Try.prog 5 xs w K) : Calls Try.prog 5 xs w (fun e w'' => ∃ v, e = .returned v ∧ K v w'') := by
  have e0 : (callFunc 5 xs).run Try.prog w = .ok (.enter 5 xs) w := run_enter Try.func5 (by decide) rfl
  unfold CallsFn at h
  rw [e0] at h
  exact h
set_option maxRecDepth 100000 in
set_option maxHeartbeats 2000000 in
theorem gapSpace_lifted (os : Os) (started : os.Started) (H : Type) (enc : TypeId × Value → H) :
    ReturnsInHanded {} Try.checked os 5 .any (Rows.gapSpaceSpec.pre6 enc Try.prog Try.f5 Rows.gapSpaceRow.domain false) (Rows.gapSpaceSpec.post enc Try.prog Try.f5 false true false false) := by
  refine returnsInHanded_of_change (C := Try.checked) Try.own started (by kernel_rfl) Try.func5
    (ChangeSpec.witness6 (enc := enc) (C := Try.checked) false ⟨#[], #[.agg #[.string ⟨#[]⟩, .string ⟨#[]⟩, .int .i64 0, .int .i64 0, .string ⟨#[]⟩], .agg #[.slice none 0 0]], []⟩ 8 (by kernel_rfl) (by kernel_rfl) (by kernel_rfl) (by kernel_rfl)) ?_
  intro W base args ds gs before hval0 hW _ _
  have hval : ∀ (j : Nat) t v, Try.f5.params[j]? = some t → args[j]? = some v → Value.okWide Try.prog W .any base t v := hval0
  have hW' := hW
  have hlt := hW.lt
  obtain ⟨p, q, hA0, hV, rfl, _, _⟩ := hW
  have hA : DataW.TrodAll enc Try.prog W 0 (fun _ => true) true Try.f5.params.toList args.toList ds p := hA0
  have pm : Try.f5.params = #[23, 26] := by kernel_rfl
  rw [pm] at hA hval
  obtain ⟨v0, v1, d0, d1, p0, p1, rfl, rfl, rfl, h0, h1⟩ := trodAll_two hA
  obtain ⟨rfl, rfl⟩ := trodVars_none hV
  obtain ⟨b, a, l, hh, m, rfl⟩ := open_gap (hval 0 23 v0 rfl rfl) h0
  obtain ⟨ws, y, rfl, hws, hsz⟩ := open_list (hval 1 26 v1 rfl rfl) h1
  have hb := calls5 ((APure.below (gapSpace b a l hh m ws) (w := W) (xs := #[.agg #[.string b, .string a, .int .i64 l, .int .i64 hh, .string m], .agg #[y]]) (by
    simp only [VRs]
    refine ⟨_, _, rfl, ?_, _, _, rfl, ?_, rfl⟩
    · simp only [gapV, VR, VRs]
      exact ⟨_, rfl, _, _, rfl, rfl, _, _, rfl, rfl, _, _, rfl, rfl, _, _, rfl, rfl, _, _, rfl, rfl, rfl⟩
    · rw [VR]
      exact ⟨_, rfl, by simp only [VRs]; exact ⟨_, _, rfl, hws, rfl⟩⟩)))
  refine hb.mono ?_
  rintro e W' ⟨v, rfl, rfl, bel⟩
  have t0 := Below.trod Try.laidOut (by kernel_rfl) (of_decide_eq_true (by kernel_rfl)) h0 bel fun x hx => hlt x (by simp [hx])
  have t1 := Below.trod Try.laidOut (by kernel_rfl) (of_decide_eq_true (by kernel_rfl)) h1 bel fun x hx => hlt x (by simp [hx])
  refine ⟨_, rfl, _, _, _, [], p0 ++ p1, [], hW', ?_, ?_, ?_, bel.frame _, fun h => by cases h⟩
  · exact trodAll_mk1 (shut_bool Try.underlying4 _)
  · rw [pm]
    exact trodAll_mk2 t0 t1
  · rfl
theorem gapSpace_holds : Rows.GapSpaceSaid :=
  OpenClaim.holds_of_wide 5 Try.f5 rfl rfl rfl rfl rfl rfl rfl ⟨rfl, rfl, rfl, rfl, rfl⟩ rfl rfl rfl rfl rfl (by kernel_rfl) Try.func5 (by kernel_rfl)
    (of_decide_eq_true (by kernel_rfl)) (by unfold Func.isWrapper; rw [if_neg (of_decide_eq_false (by kernel_rfl))]; exact ⟨rfl, rfl⟩)
    (fun os started H enc _ => gapSpace_lifted os started H enc)
end Go.Proofs.Ytimblogmflmhkaa
