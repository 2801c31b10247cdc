/- The last part of the texts: it proves bestWeakenCard_holds. No condition. -/
import Derived.Test.YthoonenhakbkgaaGreatDoorCards
import Derived.Test.YthoonenhakbkgaaGreatDoorTie
import Derived.ProofKit
import Derived.OpenShut
import Derived.LaidMore
import Derived.Lay
import Derived.SevenTiedAt
import Derived.Stop.Joined
import Derived.Deep.Slices
import Derived.Lib.LaidTab
import Derived.JoinedOf
import Derived.JoinedAt
import Derived.RowKit3
import Derived.Carry
import Derived.ChangeMaps5
import Derived.Test.YthoonenhakbkgaaGreatDoorH19
import Derived.Test.YthoonenhakbkgaaGreatDoorH45
import Derived.Test.YthoonenhakbkgaaGreatDoorH48
import Derived.Test.YthoonenhakbkgaaGreatDoorH49
set_option linter.unusedSimpArgs false
set_option linter.unusedVariables false
set_option linter.unnecessarySimpa false
namespace Go.Proofs.YthoonenhakbkgaaGreatDoor
open Go Go.Abs Go.Wk Go.Proofs.YthoonenhakbkgaaGreatDoor
open Go.ChangeShapes Go.WideShapes Go.ChangeAt Go.RowKit
set_option maxRecDepth 100000
theorem own : ownKnob Tryz.prog.godebug = none := by kernel_rfl
theorem laidOut : laidOutB Tryz.prog = true := by kernel_rfl
theorem u3 : Tryz.prog.underlying 3 = some (.int .i64) := by kernel_rfl
theorem u4 : Tryz.prog.underlying 4 = some .bool := by kernel_rfl
theorem u22 : Tryz.prog.underlying 22 = some (.slice 32) := by kernel_rfl
theorem u24 : Tryz.prog.underlying 24 = some (.struct #[⟨ "Cost", 3, 0, false, "", "", 0⟩, ⟨ "Bounds", 22, 1, false, "", "", 8⟩]) := by kernel_rfl
theorem u32 : Tryz.prog.underlying 32 = some (.struct #[⟨ "Place", 3, 0, false, "", "", 0⟩, ⟨ "State", 3, 1, false, "", "", 8⟩, ⟨ "Value", 3, 2, false, "", "", 16⟩]) := by kernel_rfl
theorem k3 : Tryz.prog.cellsOf 3 = 1 := by kernel_rfl
theorem k32 : Tryz.prog.cellsOf 32 = 3 := by kernel_rfl
theorem k22 : Tryz.prog.cellsOf 22 = 1 := by kernel_rfl
theorem k24 : Tryz.prog.cellsOf 24 = 2 := by kernel_rfl
theorem pm3 : Tryz.f3.params = #[24, 3] := by kernel_rfl
set_option maxRecDepth 1000000 in
theorem awake4 : APure Tryz.prog 4 [] (.v (.bool true)) := APure_of (show AFn Tryz.prog 4 0 [] [] (fun v Ho => v = .v (.bool true) ∧ Ho = []) from Go.Proofs.m3815)
set_option maxRecDepth 1000000 in
theorem gl_of {W : World} (h : laidMetH Tryz.prog Rows.bestWeakenRow.laid W) : Gl (fun b => b < W.heap.size) W := by
  rw [MakeChecks.laidMetH_plain _ _ _ (by kernel_rfl)] at h
  obtain ⟨ps, ⟨g0, t0, cs0, f0, p0, q0, hg0, ht0, hv0, hd0, ⟨g1, t1, cs1, f1, p1, q1, hg1, ht1, hv1, hd1, ⟨g2, t2, cs2, f2, p2, q2, hg2, ht2, hv2, hd2, _, _⟩, _⟩, _⟩, _, _⟩ := h
  obtain rfl := Option.some.inj ((show Tryz.prog.globalNamed "internal/strconv.uint64pow10" = some 1 by kernel_rfl).symm.trans hg2)
  intro p hp
  simp only [glo, List.mem_singleton] at hp
  subst hp
  obtain ⟨t, ht⟩ : ∃ t, (Tryz.prog.globals[1]?).map (·.type) = some t := ⟨t2, ht2⟩
  have hz : (Rows.laid_internal_strconv_uint64pow10 : DataW Unit) = Lib.tabData .u64 ((List.range 20).map fun i => ((10 ^ i : Nat) : Int)) := by kernel_rfl
  rw [hz] at hd2
  obtain ⟨e, he1, he2, he3, he4⟩ : ∃ e, Tryz.prog.underlying t2 = some (.array 20 e) ∧ Tryz.prog.underlying e = some (.int .u64) ∧ Tryz.prog.cellsOf e = 1 ∧ Tryz.prog.cellsOf t2 = 20 := by
    obtain rfl := Option.some.inj ((show (Tryz.prog.globals[1]?).map (·.type) = some 484 by kernel_rfl).symm.trans ht2)
    exact ⟨408, by kernel_rfl, by kernel_rfl, by kernel_rfl, by kernel_rfl⟩
  have hc := Lib.cells_of_tab he1 he2 he3 he4 hd2
  simp only [World.var?, hg2, Option.bind_some] at hv2
  split at hv2
  · rename_i cs t' fr hb
    cases hv2
    refine ⟨lt_of_heap hb, t', fr, ?_⟩
    rw [hb]
    congr 2
    apply Array.toList_inj.1
    rw [hc]
    simp
  · cases hv2
section
variable {H : Type} {enc : TypeId × Value → H}
theorem CR_bds {I : Nat → Prop} {m : List Abs.Loc} {W : World} {b : Nat} : ∀ (l : List Bd) (o : Nat), (∀ (i : Nat) c, l[i]? = some c → W.cell? ⟨b, o + i * 3, none⟩ = some (.int .i64 c.p) ∧ W.cell? ⟨b, o + i * 3 + 1, none⟩ = some (.int .i64 c.s) ∧ W.cell? ⟨b, o + i * 3 + 2, none⟩ = some (.int .i64 c.v)) → CR I m W b (bds l) o
  | [], _, _ => by simp only [bds, List.flatMap_nil, CR]
  | x :: l, o, h => by
    have e : bds (x :: l) = .v (.int .i64 x.p) :: .v (.int .i64 x.s) :: .v (.int .i64 x.v) :: bds l := rfl
    rw [e]
    simp only [CR]
    obtain ⟨h0, h1, h2⟩ := h 0 x rfl
    refine ⟨⟨_, by simpa using h0, by simp only [VR]⟩, ⟨_, by simpa using h1, by simp only [VR]⟩, ⟨_, by simpa using h2, by simp only [VR]⟩, CR_bds l (o + 1 + 1 + 1) fun i s hs => ?_⟩
    have := h (i + 1) s (by simpa using hs)
    rw [show o + 1 + 1 + 1 + i * 3 = o + (i + 1) * 3 by omega]; exact this
theorem spot_none {W : World} {a : Addr} {v : Value} (h : W.cell? (a.add 0) = some v) : a.block < W.heap.size ∧ a.spot = none := by
  have e : a.add 0 = a := by simp [Addr.add]
  rw [e] at h
  obtain ⟨b, o, sp⟩ := a
  unfold World.cell? at h
  split at h
  · rename_i c _ _ hh
    refine ⟨lt_of_heap hh, ?_⟩
    cases sp with
    | none => rfl
    | some k => simp at h
  · cases h
set_option maxRecDepth 100000 in
theorem row_bds {W : World} {base fuel : Nat} {sp : Nat → Bool} {v : Value} {x : DataW H × List MemPlace} (hf : DataW.trod enc Tryz.prog W base sp true fuel 22 [v] = some x) :
    ∃ l : List Bd, VR (fun b => b < W.heap.size) [] W (.im l.length (bds l)) v := by
  rcases Deep.open_slice u22 hf with ⟨hcs, _⟩ | ⟨ad, n, c, m, fu, D, Pl, hcs, hb, hl, hm, hmm, _, hx⟩
  · cases hcs
    exact ⟨[], by simp only [VR, bds]; exact ⟨_, _, rfl, Nat.le_refl _, .inl rfl⟩⟩
  · cases hcs
    have hlm : n ≤ m := by rw [hmm]; split <;> omega
    have each : ∀ i, i < m → ∃ q : Bd, W.cell? (ad.add (i * 3)) = some (.int .i64 q.p) ∧ W.cell? (ad.add (i * 3 + 1)) = some (.int .i64 q.s) ∧ W.cell? (ad.add (i * 3 + 2)) = some (.int .i64 q.v) := by
      intro i hi
      obtain ⟨cs', h1, h2⟩ := hx i hi
      rw [k32] at h1
      obtain ⟨_, hlen, hcell⟩ := World.cells?_some h1
      obtain ⟨xs, k, hk, hxy, _, hxl, hf⟩ := DataW.trod_struct u32 h2
      match xs, hxl, cs', hlen with
      | [y0, y1, y2], _, [v0, v1, v2], _ =>
        have g0 := hf 0 _ rfl
        have g1 := hf 1 _ rfl
        have g2 := hf 2 _ rfl
        simp [k3] at g0 g1 g2
        have e0 := hcell 0 (by omega)
        have e1 := hcell 1 (by omega)
        have e2 := hcell 2 (by omega)
        rw [Deep.add_add] at e0 e1 e2
        obtain ⟨z0, r0, _⟩ := DataW.trod_int u3 g0
        obtain ⟨z1, r1, _⟩ := DataW.trod_int u3 g1
        obtain ⟨z2, r2, _⟩ := DataW.trod_int u3 g2
        cases r0; cases r1; cases r2
        exact ⟨⟨z0, z1, z2⟩, by simpa using e0, by simpa using e1, by simpa using e2⟩
    haveI : Inhabited Bd := ⟨⟨0, 0, 0⟩⟩
    obtain ⟨q, hq⟩ := Deep.choose_lt each
    refine ⟨(List.range n).map q, ?_⟩
    have e : ((List.range n).map q).length = n := by simp
    rw [e]
    simp only [VR]
    refine ⟨_, _, rfl, hl, ?_⟩
    by_cases h0 : n = 0
    · left; subst h0; simp [bds]
    · right
      obtain ⟨hbb, hsp⟩ := spot_none (a := ad) (by simpa using (hq 0 (by omega)).1)
      obtain ⟨b, o, spt⟩ := ad
      have hsp : spt = none := hsp
      have hbb : b < W.heap.size := hbb
      subst hsp
      refine ⟨b, o, rfl, hbb, CR_bds _ _ fun i x hx => ?_⟩
      have hi : i < n := by
        have := (List.getElem?_eq_some_iff.1 hx).1
        simpa using this
      rw [List.getElem?_map, List.getElem?_range hi] at hx
      cases hx
      obtain ⟨q0, q1, q2⟩ := hq i (by omega)
      have cast : ∀ {j : Nat} {v : Value}, W.cell? ((⟨b, o, none⟩ : Addr).add j) = some v → W.cell? ⟨b, o + j, none⟩ = some v := fun {j v} h => by
        rcases Nat.eq_zero_or_pos j with hj | hj
        · subst hj; simpa [Addr.add] using h
        · simpa [Addr.add, show j ≠ 0 by omega] using h
      exact ⟨cast q0, by rw [Nat.add_assoc]; exact cast q1, by rw [Nat.add_assoc]; exact cast q2⟩
set_option maxRecDepth 100000 in
theorem open_pr {W : World} {base : Nat} {v : Value} {d : DataW H} {p : List MemPlace} (hval : Value.okWide Tryz.prog W .any base 24 v) (h : DataW.Trod enc Tryz.prog W 0 (fun _ => true) true 24 v d p) :
    ∃ (c : Int) (l : List Bd) (y : Value), v = .agg #[.int .i64 c, y] ∧ VR (fun b => b < W.heap.size) [] W (.im l.length (bds l)) y := by
  obtain ⟨cs, rfl, hsz⟩ := okWide_struct u24 hval
  obtain ⟨fuel, hf⟩ := h
  obtain ⟨xs, n, _, _, hl, hlen, hf⟩ := DataW.trod_struct u24 hf
  rw [k24] at hsz
  obtain ⟨l⟩ := cs
  match l, hsz with
  | [x0, x1], _ =>
  match xs, hlen with
  | [y0, y1], _ =>
  have h0 := hf 0 _ rfl
  have h1 := hf 1 _ rfl
  simp only [Value.cells, k3, k22, List.drop_zero, List.drop_succ_cons, List.take_succ_cons, List.take_zero] at h0 h1
  obtain ⟨s0, e0, _⟩ := DataW.trod_int u3 h0
  cases e0
  obtain ⟨l, hl⟩ := row_bds h1
  exact ⟨_, l, _, rfl, hl⟩
end
theorem below_of {P : Program} {n : FuncId} {args : List AV} {r : Value} (h : APure P n args (.v r)) {w : World} (hg : Gl (fun b => b < w.heap.size) w) {xs : Array Value} (hv : VRs (fun b => b < w.heap.size) [] w args xs.toList) :
    CallsFn P n xs w (fun v w' => v = r ∧ Below w.heap.size w w') := by
  have hr : HR (fun b => b < w.heap.size) [] [] w := HR.empty (fun b hb => hb) hg
  refine (h _ _ w xs hr hv).mono ?_
  rintro v w' ⟨r', H', I', m', h1, h2, h3, h4⟩
  have h5 := h1 _ _ _ _ h3 h2
  simp only [VR] at h5
  refine ⟨h5, h4.os, h4.tape, h4.output, h4.size, fun k hk => h4.blk k hk ?_⟩
  rintro ⟨id, o, L, h1, _⟩
  simp at h1
theorem enter_fn {P : Program} {n : FuncId} {fn : Func} (hf : P.funcs[n]? = some fn) (hn : (fn.name == "runtime.NumGoroutine") = false) (hb : fn.body.isNone = false) {xs : Array Value} {w : World} : (callFunc n xs).run P w = .ok (.enter n xs) w := by
  cases h : fn.body with
  | none => rw [h] at hb; cases hb
  | some c =>
    have hn' : ¬ fn.name = "runtime.NumGoroutine" := by intro e; rw [e] at hn; simp at hn
    simp [callFunc, hf, hn', h]
theorem calls3 {xs : Array Value} {w : World} {K : Value → World → Prop} (h : CallsFn Tryz.prog 3 xs w K) : Calls Tryz.prog 3 xs w (fun e w'' => ∃ v, e = .returned v ∧ K v w'') := by
  have e0 : (callFunc 3 xs).run Tryz.prog w = .ok (.enter 3 xs) w := enter_fn fn3 (by kernel_rfl) (by kernel_rfl)
  unfold CallsFn at h
  rw [e0] at h
  exact h
set_option maxRecDepth 100000 in
set_option maxHeartbeats 2000000 in
theorem lifted (os : Os) (started : os.Started) (H : Type) (enc : TypeId × Value → H) :
    ReturnsInHanded {} Tryz.checked os 3 .any (fun w args => (Rows.bestWeakenSpec.pre enc Tryz.prog Tryz.f3 Rows.bestWeakenRow.domain false w args ∧ laidMetH Tryz.prog Rows.bestWeakenRow.laid w) ∧ sizedMet enc Tryz.prog Tryz.f3 (OpenSpec.ofChange Rows.bestWeakenSpec) false w args)
      (Rows.bestWeakenSpec.post enc Tryz.prog Tryz.f3 false true false false) := by
  refine returnsInHanded_of_change_and (C := Tryz.checked) (X := fun w _ => laidMetH Tryz.prog Rows.bestWeakenRow.laid w) (fun _ _ _ hh h => h.of_heap hh) own started (by kernel_rfl) fn3
    (ChangeSpec.witness_shaped (enc := enc) (C := Tryz.checked) (os := os) (X := fun w _ => laidMetH Tryz.prog Rows.bestWeakenRow.laid w) false (World.laidAll Tryz.prog os Rows.bestWeakenRow.laid) #[.agg #[.int .i64 0, .slice none 0 0], .int .i64 0] 8 (World.laidAll_os _ _ _)
      (World.shaped_of_ZipB (by kernel_rfl) (by kernel_rfl)) (by kernel_rfl) (by kernel_rfl) (by kernel_rfl)
      (by rw [MakeChecks.laidMetH_plain _ _ _ (by kernel_rfl)]; exact laidMet_laidAll _ (by kernel_rfl) (by kernel_rfl))) ?_
  intro W base args ds gs before hval0 hW hc _ hL _
  have hval : ∀ (j : Nat) t v, Tryz.f3.params[j]? = some t → args[j]? = some v → Value.okWide Tryz.prog W .any base t v := hval0
  have hW' := hW
  have hlt := hW.lt
  obtain ⟨p, q, hA0, hV, rfl, _, _⟩ := hW
  have hA : DataW.TrodAll enc Tryz.prog W 0 (fun _ => true) true Tryz.f3.params.toList args.toList ds p := hA0
  rw [pm3] at hA hval
  obtain ⟨v0, v1, d0, d1, p0, p1, rfl, rfl, rfl, h0, h1⟩ := trodAll_two hA
  obtain ⟨rfl, rfl⟩ := trodVars_none hV
  obtain ⟨c, l, y, rfl, hl0⟩ := open_pr (hval 0 24 v0 rfl rfl) h0
  obtain ⟨z, rfl⟩ := okWide_int u3 (hval 1 3 v1 rfl rfl)
  have hb := calls3 ((below_of (law3 awake4 c l z) (w := W) (gl_of hL) (xs := #[.agg #[.int .i64 c, y], .int .i64 z]) (by
    simp only [VRs]
    refine ⟨_, _, rfl, ?_, _, _, rfl, ?_, rfl⟩
    · simp only [prV, VR]
      refine ⟨_, rfl, ?_⟩
      simp only [VRs]
      refine ⟨_, _, rfl, by simp only [VR], _, _, rfl, hl0, rfl⟩
    · simp only [VR])))
  refine hb.mono ?_
  rintro e W' ⟨v, rfl, rfl, bel⟩
  have t0 := Below.trod laidOut (by kernel_rfl) (of_decide_eq_true (by kernel_rfl)) h0 bel fun x hx => hlt x (by simp [hx])
  have t1 := Below.trod laidOut (by kernel_rfl) (of_decide_eq_true (by kernel_rfl)) h1 bel fun x hx => hlt x (by simp [hx])
  refine ⟨_, rfl, _, _, _, [], p0 ++ p1, [], hW', ?_, ?_, ?_, bel.frame _, fun h => by cases h⟩
  · exact trodAll_mk1 (shut_bool u4 _)
  · rw [pm3]
    exact trodAll_mk2 t0 t1
  · rfl
set_option maxRecDepth 1000000 in
theorem bestWeaken_holds : Rows.BestWeakenSaid :=
  OpenClaim.holds_of_wide 3 Tryz.f3 rfl rfl rfl rfl rfl rfl rfl ⟨rfl, rfl, rfl, rfl, rfl⟩ rfl rfl rfl rfl rfl fnRow fn3 closedRow instRow wrapRow
    (fun os started H enc _ => lifted os started H enc)
theorem wfText : Rows.bestWeakenRow.wfByText (OpenSpec.ofChange Rows.bestWeakenSpec) = true := by kernel_rfl
theorem mainRow : Tryz.pinned.checked.prog.mainIs = some (true, "58b93cef7e99518cba58e060639a5a079b795fe821570469b5733649bcac8e83".toList) := by kernel_rfl
theorem looksRow : false = Tryz.pinned.checked.prog.looks [] := by kernel_rfl
theorem standRow : ([24, 3].all fun u => !Tryz.prog.wantsStandIn u) = true := by kernel_rfl
set_option maxRecDepth 1000000 in
theorem bestWeakenCard_holds : Rows.BestWeakenCardSaid :=
  Claim7.holds_tied_plain_at .later [] [.data, .data, .data] true (true, "58b93cef7e99518cba58e060639a5a079b795fe821570469b5733649bcac8e83") false
    bestWeaken_holds (fun _ h => by cases h) wfText (fun _ h => by cases h) bestWeaken_row_tie rfl ⟨rfl, rfl⟩ mainRow rfl
    (fun f fn hf hfn => by
      obtain rfl : f = 3 := Option.some.inj (fnRow.symm.trans hf) |>.symm
      obtain rfl : fn = Tryz.f3 := (Option.some.inj (fn3.symm.trans hfn)).symm
      exact ⟨looksRow, fun j t ht => by
        rw [pm3] at ht
        have hm : t ∈ [24, 3] := by simpa using Array.mem_of_getElem? ht
        exact (show Tryz.prog.wantsStandIn t = false by simpa using List.all_eq_true.1 standRow t hm)⟩)
    goesRow
end Go.Proofs.YthoonenhakbkgaaGreatDoor
