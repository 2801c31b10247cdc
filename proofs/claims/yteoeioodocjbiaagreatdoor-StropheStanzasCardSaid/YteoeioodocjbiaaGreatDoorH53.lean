/- The last part of the texts: it proves stropheStanzasCard_holds. No condition. -/
import Derived.Test.YteoeioodocjbiaaGreatDoorCards
import Derived.Test.YteoeioodocjbiaaGreatDoorTie
import Derived.ProofKit
import Derived.OpenShut
import Derived.LaidMore
import Derived.Lay
import Derived.SevenTiedAt
import Derived.Stop.Joined
import Derived.Deep.Slices
import Derived.Lib.LaidTab
import Derived.JoinedOf
import Derived.JoinedAt
import Derived.RowKit3
import Derived.Carry
import Derived.ChangeMaps5
import Derived.Test.YteoeioodocjbiaaGreatDoorH26
import Derived.Test.YteoeioodocjbiaaGreatDoorH48
import Derived.Test.YteoeioodocjbiaaGreatDoorH51
import Derived.Test.YteoeioodocjbiaaGreatDoorH52
set_option linter.unusedSimpArgs false
set_option linter.unusedVariables false
set_option linter.unnecessarySimpa false
namespace Go.Proofs.YteoeioodocjbiaaGreatDoor
open Go Go.Abs Go.Proofs.YteoeioodocjbiaaGreatDoor
open Go.ChangeShapes hiding strs
open Go.WideShapes Go.ChangeAt Go.RowKit
set_option maxRecDepth 100000
theorem own : ownKnob Tryz.prog.godebug = none := by kernel_rfl
theorem laidOut : laidOutB Tryz.prog = true := by kernel_rfl
theorem u3 : Tryz.prog.underlying 3 = some (.int .i64) := by kernel_rfl
theorem u4 : Tryz.prog.underlying 4 = some .bool := by kernel_rfl
theorem u9 : Tryz.prog.underlying 9 = some .string := by kernel_rfl
theorem u22 : Tryz.prog.underlying 22 = some (.slice 9) := by kernel_rfl
theorem k9 : Tryz.prog.cellsOf 9 = 1 := by kernel_rfl
theorem pm3 : Tryz.f3.params = #[22, 3] := by kernel_rfl
set_option maxRecDepth 1000000 in
theorem awake4 : APure Tryz.prog 4 [] (.v (.bool true)) := APure_of (show AFn Tryz.prog 4 0 [] [] (fun v Ho => v = .v (.bool true) ∧ Ho = []) from Go.Proofs.m3368)
set_option maxRecDepth 1000000 in
theorem gl_of {W : World} (h : laidMetH Tryz.prog Rows.stropheStanzasRow.laid W) : Gl (fun b => b < W.heap.size) W := by
  rw [MakeChecks.laidMetH_plain _ _ _ (by kernel_rfl)] at h
  obtain ⟨ps, ⟨g0, t0, cs0, f0, p0, q0, hg0, ht0, hv0, hd0, ⟨g1, t1, cs1, f1, p1, q1, hg1, ht1, hv1, hd1, ⟨g2, t2, cs2, f2, p2, q2, hg2, ht2, hv2, hd2, _, _⟩, _⟩, _⟩, _, _⟩ := h
  obtain rfl := Option.some.inj ((show Tryz.prog.globalNamed "internal/strconv.uint64pow10" = some 1 by kernel_rfl).symm.trans hg2)
  intro p hp
  simp only [glo, List.mem_singleton] at hp
  subst hp
  obtain ⟨t, ht⟩ : ∃ t, (Tryz.prog.globals[1]?).map (·.type) = some t := ⟨t2, ht2⟩
  have hz : (Rows.laid_internal_strconv_uint64pow10 : DataW Unit) = Lib.tabData .u64 ((List.range 20).map fun i => ((10 ^ i : Nat) : Int)) := by kernel_rfl
  rw [hz] at hd2
  obtain ⟨e, he1, he2, he3, he4⟩ : ∃ e, Tryz.prog.underlying t2 = some (.array 20 e) ∧ Tryz.prog.underlying e = some (.int .u64) ∧ Tryz.prog.cellsOf e = 1 ∧ Tryz.prog.cellsOf t2 = 20 := by
    obtain rfl := Option.some.inj ((show (Tryz.prog.globals[1]?).map (·.type) = some 308 by kernel_rfl).symm.trans ht2)
    exact ⟨216, by kernel_rfl, by kernel_rfl, by kernel_rfl, by kernel_rfl⟩
  have hc := Lib.cells_of_tab he1 he2 he3 he4 hd2
  simp only [World.var?, hg2, Option.bind_some] at hv2
  split at hv2
  · rename_i cs t' fr hb
    cases hv2
    refine ⟨lt_of_heap hb, t', fr, ?_⟩
    rw [hb]
    congr 2
    apply Array.toList_inj.1
    rw [hc]
    simp
  · cases hv2
section
variable {H : Type} {enc : TypeId × Value → H}
theorem CR_strs {I : Nat → Prop} {m : List Abs.Loc} {W : World} {b : Nat} : ∀ (l : List ByteArray) (o : Nat), (∀ (i : Nat) s, l[i]? = some s → W.cell? ⟨b, o + i, none⟩ = some (.string s)) → CR I m W b (strs l) o
  | [], _, _ => by simp only [strs, List.map_nil, CR]
  | s :: l, o, h => by
    simp only [strs, List.map_cons, CR]
    refine ⟨⟨_, h 0 s rfl, by simp only [VR]⟩, CR_strs l (o + 1) fun i s hs => ?_⟩
    have := h (i + 1) s (by simpa using hs)
    rw [show o + 1 + i = o + (i + 1) by omega]; exact this
theorem spot_none {W : World} {a : Addr} {v : Value} (h : W.cell? (a.add 0) = some v) : a.block < W.heap.size ∧ a.spot = none := by
  have e : a.add 0 = a := by simp [Addr.add]
  rw [e] at h
  obtain ⟨b, o, sp⟩ := a
  unfold World.cell? at h
  split at h
  · rename_i c _ _ hh
    refine ⟨lt_of_heap hh, ?_⟩
    cases sp with
    | none => rfl
    | some k => simp at h
  · cases h
set_option maxRecDepth 100000 in
theorem row_strs {W : World} {base : Nat} {v : Value} {d : DataW H} {p : List MemPlace} (h : DataW.Trod enc Tryz.prog W base (fun _ => true) true 22 v d p) (hs : ∃ A n c, v = .slice A n c) :
    ∃ l : List ByteArray, VR (fun b => b < W.heap.size) [] W (.im l.length (strs l)) v := by
  obtain ⟨A0, n0, c0, rfl⟩ := hs
  obtain ⟨fuel, hf⟩ := h
  have hf : DataW.trod enc Tryz.prog W base (fun _ => true) true fuel 22 [.slice A0 n0 c0] = some (d, p) := hf
  rcases Deep.open_slice u22 hf with ⟨hcs, _⟩ | ⟨ad, n, c, m, fu, D, Pl, hcs, hb, hl, hm, hmm, _, hx⟩
  · cases hcs
    exact ⟨[], by simp only [VR, strs]; exact ⟨_, _, rfl, Nat.le_refl _, .inl rfl⟩⟩
  · cases hcs
    have hlm : n0 ≤ m := by rw [hmm]; split <;> omega
    have each : ∀ i, i < m → ∃ q : ByteArray, W.cell? (ad.add i) = some (.string q) := by
      intro i hi
      obtain ⟨cs', h1, h2⟩ := hx i hi
      rw [k9] at h1
      obtain ⟨_, hlen, hcell⟩ := World.cells?_some h1
      match cs', hlen with
      | [v0], _ =>
        obtain ⟨s, r0, _⟩ := DataW.trod_string u9 h2
        cases r0
        have e0 := hcell 0 (by omega)
        rw [Deep.add_add] at e0
        exact ⟨s, by simpa using e0⟩
    obtain ⟨q, hq⟩ := Deep.choose_lt each
    refine ⟨(List.range n0).map q, ?_⟩
    have e : ((List.range n0).map q).length = n0 := by simp
    rw [e]
    simp only [VR]
    refine ⟨_, _, rfl, hl, ?_⟩
    by_cases h0 : n0 = 0
    · left; subst h0; simp [strs]
    · right
      obtain ⟨hbb, hsp⟩ := spot_none (a := ad) (by simpa using hq 0 (by omega))
      obtain ⟨b, o, spt⟩ := ad
      have hsp : spt = none := hsp
      have hbb : b < W.heap.size := hbb
      subst hsp
      refine ⟨b, o, rfl, hbb, CR_strs _ _ fun i x hx => ?_⟩
      have hi : i < n0 := by
        have := (List.getElem?_eq_some_iff.1 hx).1
        simpa using this
      rw [List.getElem?_map, List.getElem?_range hi] at hx
      cases hx
      have := hq i (by omega)
      rcases Nat.eq_zero_or_pos i with hj | hj
      · subst hj; simpa [Addr.add] using this
      · simpa [Addr.add, show i ≠ 0 by omega] using this
end
theorem below_of {P : Program} {n : FuncId} {args : List AV} {r : Value} (h : APure P n args (.v r)) {w : World} (hg : Gl (fun b => b < w.heap.size) w) {xs : Array Value} (hv : VRs (fun b => b < w.heap.size) [] w args xs.toList) :
    CallsFn P n xs w (fun v w' => v = r ∧ Below w.heap.size w w') := by
  have hr : HR (fun b => b < w.heap.size) [] [] w := HR.empty (fun b hb => hb) hg
  refine (h _ _ w xs hr hv).mono ?_
  rintro v w' ⟨r', H', I', m', h1, h2, h3, h4⟩
  have h5 := h1 _ _ _ _ h3 h2
  simp only [VR] at h5
  refine ⟨h5, h4.os, h4.tape, h4.output, h4.size, fun k hk => h4.blk k hk ?_⟩
  rintro ⟨id, o, L, h1, _⟩
  simp at h1
theorem enter_fn {P : Program} {n : FuncId} {fn : Func} (hf : P.funcs[n]? = some fn) (hn : (fn.name == "runtime.NumGoroutine") = false) (hb : fn.body.isNone = false) {xs : Array Value} {w : World} : (callFunc n xs).run P w = .ok (.enter n xs) w := by
  cases h : fn.body with
  | none => rw [h] at hb; cases hb
  | some c =>
    have hn' : ¬ fn.name = "runtime.NumGoroutine" := by intro e; rw [e] at hn; simp at hn
    simp [callFunc, hf, hn', h]
theorem calls3 {xs : Array Value} {w : World} {K : Value → World → Prop} (h : CallsFn Tryz.prog 3 xs w K) : Calls Tryz.prog 3 xs w (fun e w'' => ∃ v, e = .returned v ∧ K v w'') := by
  have e0 : (callFunc 3 xs).run Tryz.prog w = .ok (.enter 3 xs) w := enter_fn fn3 (by kernel_rfl) (by kernel_rfl)
  unfold CallsFn at h
  rw [e0] at h
  exact h
set_option maxRecDepth 100000 in
set_option maxHeartbeats 2000000 in
theorem lifted (os : Os) (started : os.Started) (H : Type) (enc : TypeId × Value → H) :
    ReturnsInHanded {} Tryz.checked os 3 .any (fun w args => (Rows.stropheStanzasSpec.pre enc Tryz.prog Tryz.f3 Rows.stropheStanzasRow.domain false w args ∧ laidMetH Tryz.prog Rows.stropheStanzasRow.laid w) ∧ sizedMet enc Tryz.prog Tryz.f3 (OpenSpec.ofChange Rows.stropheStanzasSpec) false w args)
      (Rows.stropheStanzasSpec.post enc Tryz.prog Tryz.f3 false true false false) := by
  refine returnsInHanded_of_change_and (C := Tryz.checked) (X := fun w _ => laidMetH Tryz.prog Rows.stropheStanzasRow.laid w) (fun _ _ _ hh h => h.of_heap hh) own started (by kernel_rfl) fn3
    (ChangeSpec.witness_shaped (enc := enc) (C := Tryz.checked) (os := os) (X := fun w _ => laidMetH Tryz.prog Rows.stropheStanzasRow.laid w) false (World.laidAll Tryz.prog os Rows.stropheStanzasRow.laid) #[.slice none 0 0, .int .i64 0] 8 (World.laidAll_os _ _ _)
      (World.shaped_of_ZipB (by kernel_rfl) (by kernel_rfl)) (by kernel_rfl) (by kernel_rfl) (by kernel_rfl)
      (by rw [MakeChecks.laidMetH_plain _ _ _ (by kernel_rfl)]; exact laidMet_laidAll _ (by kernel_rfl) (by kernel_rfl))) ?_
  intro W base args ds gs before hval0 hW hc _ hL _
  have hval : ∀ (j : Nat) t v, Tryz.f3.params[j]? = some t → args[j]? = some v → Value.okWide Tryz.prog W .any base t v := hval0
  have hW' := hW
  have hlt := hW.lt
  obtain ⟨p, q, hA0, hV, rfl, _, _⟩ := hW
  have hA : DataW.TrodAll enc Tryz.prog W 0 (fun _ => true) true Tryz.f3.params.toList args.toList ds p := hA0
  rw [pm3] at hA hval
  obtain ⟨v0, v1, d0, d1, p0, p1, rfl, rfl, rfl, h0, h1⟩ := trodAll_two hA
  obtain ⟨rfl, rfl⟩ := trodVars_none hV
  obtain ⟨A0, n0, c0, rfl⟩ : ∃ A n c, v0 = .slice A n c := okWide_slice u22 (hval 0 22 v0 rfl rfl)
  obtain ⟨l, hl0⟩ := row_strs h0 ⟨_, _, _, rfl⟩
  obtain ⟨z, rfl⟩ := okWide_int u3 (hval 1 3 v1 rfl rfl)
  have hb := calls3 ((below_of (law3 awake4 l z) (w := W) (gl_of hL) (xs := #[.slice A0 n0 c0, .int .i64 z]) (by
    simp only [VRs]
    exact ⟨_, _, rfl, hl0, _, _, rfl, by simp only [VR], rfl⟩)))
  refine hb.mono ?_
  rintro e W' ⟨v, rfl, rfl, bel⟩
  have t0 := Below.trod laidOut (by kernel_rfl) (of_decide_eq_true (by kernel_rfl)) h0 bel fun x hx => hlt x (by simp [hx])
  have t1 := Below.trod laidOut (by kernel_rfl) (of_decide_eq_true (by kernel_rfl)) h1 bel fun x hx => hlt x (by simp [hx])
  refine ⟨_, rfl, _, _, _, [], p0 ++ p1, [], hW', ?_, ?_, ?_, bel.frame _, fun h => by cases h⟩
  · exact trodAll_mk1 (shut_bool u4 _)
  · rw [pm3]
    exact trodAll_mk2 t0 t1
  · rfl
set_option maxRecDepth 1000000 in
theorem stropheStanzas_holds : Rows.StropheStanzasSaid :=
  OpenClaim.holds_of_wide 3 Tryz.f3 rfl rfl rfl rfl rfl rfl rfl ⟨rfl, rfl, rfl, rfl, rfl⟩ rfl rfl rfl rfl rfl fnRow fn3 closedRow instRow wrapRow
    (fun os started H enc _ => lifted os started H enc)
theorem wfText : Rows.stropheStanzasRow.wfByText (OpenSpec.ofChange Rows.stropheStanzasSpec) = true := by kernel_rfl
theorem mainRow : Tryz.pinned.checked.prog.mainIs = some (true, "101240c4b9ad7e8806c6ffe86daed3919ec61765e3491ae48776bd5499c0922f".toList) := by kernel_rfl
theorem looksRow : false = Tryz.pinned.checked.prog.looks [] := by kernel_rfl
theorem standRow : ([22, 3].all fun u => !Tryz.prog.wantsStandIn u) = true := by kernel_rfl
set_option maxRecDepth 1000000 in
theorem stropheStanzasCard_holds : Rows.StropheStanzasCardSaid :=
  Claim7.holds_tied_plain_at .later [] [.data, .data, .data] true (true, "101240c4b9ad7e8806c6ffe86daed3919ec61765e3491ae48776bd5499c0922f") false
    stropheStanzas_holds (fun _ h => by cases h) wfText (fun _ h => by cases h) stropheStanzas_row_tie rfl ⟨rfl, rfl⟩ mainRow rfl
    (fun f fn hf hfn => by
      obtain rfl : f = 3 := Option.some.inj (fnRow.symm.trans hf) |>.symm
      obtain rfl : fn = Tryz.f3 := (Option.some.inj (fn3.symm.trans hfn)).symm
      exact ⟨looksRow, fun j t ht => by
        rw [pm3] at ht
        have hm : t ∈ [22, 3] := by simpa using Array.mem_of_getElem? ht
        exact (show Tryz.prog.wantsStandIn t = false by simpa using List.all_eq_true.1 standRow t hm)⟩)
    goesRow
end Go.Proofs.YteoeioodocjbiaaGreatDoor
