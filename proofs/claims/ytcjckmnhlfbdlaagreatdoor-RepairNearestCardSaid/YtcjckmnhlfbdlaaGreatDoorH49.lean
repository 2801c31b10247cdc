/- The last part of the texts: it proves repairNearestCard_holds. No condition. -/
import Derived.Test.YtcjckmnhlfbdlaaGreatDoorCards
import Derived.Test.YtcjckmnhlfbdlaaGreatDoorTie
import Derived.ProofKit
import Derived.OpenShut
import Derived.LaidMore
import Derived.Lay
import Derived.SevenTiedAt
import Derived.Stop.Joined
import Derived.Deep.Slices
import Derived.Lib.LaidTab
import Derived.JoinedOf
import Derived.JoinedAt
import Derived.RowKit3
import Derived.Carry
import Derived.ChangeMaps5
import Derived.Test.YtcjckmnhlfbdlaaGreatDoorH35
import Derived.Test.YtcjckmnhlfbdlaaGreatDoorH44
import Derived.Test.YtcjckmnhlfbdlaaGreatDoorH47
import Derived.Test.YtcjckmnhlfbdlaaGreatDoorH48
set_option linter.all false
set_option maxRecDepth 100000
namespace Go.Proofs.YtcjckmnhlfbdlaaGreatDoor
open Go Go.Abs Go.Rep Go.Ne Go.Proofs.YtcjckmnhlfbdlaaGreatDoor
open Go.ChangeShapes Go.WideShapes Go.ChangeAt Go.RowKit
set_option maxRecDepth 100000
theorem own : ownKnob Tryz.prog.godebug = none := by kernel_rfl
theorem laidOut : laidOutB Tryz.prog = true := by kernel_rfl
theorem u3 : Tryz.prog.underlying 3 = some (.int .i64) := by kernel_rfl
theorem u4 : Tryz.prog.underlying 4 = some .bool := by kernel_rfl
theorem u22 : Tryz.prog.underlying 22 = some (.slice 26) := by kernel_rfl
theorem u23 : Tryz.prog.underlying 23 = some (.slice 4) := by kernel_rfl
theorem u26 : Tryz.prog.underlying 26 = some (.slice 3) := by kernel_rfl
theorem u25 : Tryz.prog.underlying 25 = some (.struct #[⟨ "Letters", 3, 0, false, "", "", 0⟩, ⟨ "Start", 3, 1, false, "", "", 8⟩, ⟨ "Next", 22, 2, false, "", "", 16⟩, ⟨ "Accept", 23, 3, false, "", "", 40⟩]) := by kernel_rfl
theorem k3 : Tryz.prog.cellsOf 3 = 1 := by kernel_rfl
theorem k4 : Tryz.prog.cellsOf 4 = 1 := by kernel_rfl
theorem k22 : Tryz.prog.cellsOf 22 = 1 := by kernel_rfl
theorem k23 : Tryz.prog.cellsOf 23 = 1 := by kernel_rfl
theorem k25 : Tryz.prog.cellsOf 25 = 4 := by kernel_rfl
theorem k26 : Tryz.prog.cellsOf 26 = 1 := by kernel_rfl
theorem pm3 : Tryz.f3.params = #[25, 26] := by kernel_rfl
set_option maxRecDepth 1000000 in
theorem awake4 : APure Tryz.prog 4 [] (.v (.bool true)) := APure_of (show AFn Tryz.prog 4 0 [] [] (fun v Ho => v = .v (.bool true) ∧ Ho = []) from Go.Proofs.m3364)
set_option maxRecDepth 1000000 in
theorem gl_of {W : World} (h : laidMetH Tryz.prog Rows.repairNearestRow.laid W) : Gl (fun b => b < W.heap.size) W := by
 rw [MakeChecks.laidMetH_plain _ _ _ (by kernel_rfl)] at h
 obtain ⟨ps, ⟨g0, t0, cs0, f0, p0, q0, hg0, ht0, hv0, hd0, ⟨g1, t1, cs1, f1, p1, q1, hg1, ht1, hv1, hd1, ⟨g2, t2, cs2, f2, p2, q2, hg2, ht2, hv2, hd2, _, _⟩, _⟩, _⟩, _, _⟩ := h
 obtain rfl := Option.some.inj ((show Tryz.prog.globalNamed "internal/strconv.uint64pow10" = some 0 by kernel_rfl).symm.trans hg2)
 intro p hp
 simp only [glo, List.mem_singleton] at hp
 subst hp
 obtain ⟨t, ht⟩ : ∃ t, (Tryz.prog.globals[0]?).map (·.type) = some t := ⟨t2, ht2⟩
 have hz : (Rows.laid_internal_strconv_uint64pow10 : DataW Unit) = Lib.tabData .u64 ((List.range 20).map fun i => ((10 ^ i : Nat) : Int)) := by kernel_rfl
 rw [hz] at hd2
 obtain ⟨e, he1, he2, he3, he4⟩ : ∃ e, Tryz.prog.underlying t2 = some (.array 20 e) ∧ Tryz.prog.underlying e = some (.int .u64) ∧ Tryz.prog.cellsOf e = 1 ∧ Tryz.prog.cellsOf t2 = 20 := by
  obtain rfl := Option.some.inj ((show (Tryz.prog.globals[0]?).map (·.type) = some 517 by kernel_rfl).symm.trans ht2)
  exact ⟨317, by kernel_rfl, by kernel_rfl, by kernel_rfl, by kernel_rfl⟩
 have hc := Lib.cells_of_tab he1 he2 he3 he4 hd2
 simp only [World.var?, hg2, Option.bind_some] at hv2
 split at hv2
 ·rename_i cs t' fr hb
  cases hv2
  refine ⟨lt_of_heap hb, t', fr, ?_⟩
  rw [hb]
  congr 2
  apply Array.toList_inj.1
  rw [hc]
  simp
 ·cases hv2
section
variable {H : Type} {enc : TypeId × Value → H}
theorem CR_map {α : Type} {c : α → AV} {I : Nat → Prop} {m : List Abs.Loc} {W : World} {b : Nat} : ∀ (l : List α) (o : Nat), (∀ (i : Nat) a, l[i]? = some a → ∃ v, W.cell? ⟨b, o + i, none⟩ = some v ∧ VR I m W (c a) v) → CR I m W b (l.map c) o
 | [], _, _ => by simp only [List.map_nil, CR]
 | x :: l, o, h => by
  simp only [List.map_cons, CR]
  obtain ⟨v, h1, h2⟩ := h 0 x rfl
  refine ⟨⟨v, h1, h2⟩, CR_map l (o + 1) fun i a ha => ?_⟩
  have := h (i + 1) a (by simpa using ha)
  rw [show o + 1 + i = o + (i + 1) by omega]; exact this
theorem spot_none {W : World} {a : Addr} {v : Value} (h : W.cell? (a.add 0) = some v) : a.block < W.heap.size ∧ a.spot = none := by
 have e : a.add 0 = a := by simp [Addr.add]
 rw [e] at h
 obtain ⟨b, o, sp⟩ := a
 unfold World.cell? at h
 split at h
 ·rename_i c _ _ hh
  refine ⟨lt_of_heap hh, ?_⟩
  cases sp with
  | none => rfl
  | some k => simp at h
 ·cases h
theorem row_gen {α : Type} [Inhabited α] {c : α → AV} {W : World} {base fuel t e : Nat} {sp : Nat → Bool} {v : Value} {x : DataW H × List MemPlace} (ht : Tryz.prog.underlying t = some (.slice e)) (hc : Tryz.prog.cellsOf e = 1)
 (hel : ∀ (n : Nat) (y : Value) (z : DataW H × List MemPlace), DataW.trod enc Tryz.prog W base sp true n e [y] = some z → ∃ a : α, VR (fun b => b < W.heap.size) [] W (c a) y)
 (hf : DataW.trod enc Tryz.prog W base sp true fuel t [v] = some x) : ∃ l : List α, VR (fun b => b < W.heap.size) [] W (.im l.length (l.map c)) v := by
 rcases Deep.open_slice1 ht hc hf with ⟨hcs, _⟩ | ⟨ad, len, cap, m, n, V, D, Pl, hcs, _, hl, _, hmm, _, hx⟩
 ·cases hcs
  exact ⟨[], by simp only [VR, List.map_nil]; exact ⟨_, _, rfl, Nat.le_refl _, .inl (by first | trivial | rfl)⟩⟩
 ·cases hcs
  have hlm : len ≤ m := by rw [hmm]; split <;> omega
  obtain ⟨q, hq⟩ := Deep.choose_lt (p := fun i (a : α) => VR (fun b => b < W.heap.size) [] W (c a) (V i)) (n := m) fun i hi => hel _ _ _ (hx i hi).2
  refine ⟨(List.range len).map q, ?_⟩
  have e : ((List.range len).map q).length = len := by simp
  rw [e]
  simp only [VR]
  refine ⟨_, _, rfl, hl, ?_⟩
  by_cases h0 : len = 0
  ·left; subst h0; simp
  ·right
   obtain ⟨hbb, hsp⟩ := spot_none (a := ad) ((hx 0 (by omega)).1)
   obtain ⟨b, o, spt⟩ := ad
   have hsp : spt = none := hsp
   have hbb : b < W.heap.size := hbb
   subst hsp
   refine ⟨b, o, rfl, hbb, CR_map _ _ fun i a ha => ?_⟩
   have hi : i < len := by
    have := (List.getElem?_eq_some_iff.1 ha).1
    simpa using this
   rw [List.getElem?_map, List.getElem?_range hi] at ha
   cases ha
   refine ⟨V i, ?_, hq i (by omega)⟩
   have h2 := (hx i (by omega)).1
   rcases Nat.eq_zero_or_pos i with hi0 | hi0
   ·subst hi0; simpa [Addr.add] using h2
   ·simpa [Addr.add, show i ≠ 0 by omega] using h2
theorem row_ints {W : World} {base fuel : Nat} {sp : Nat → Bool} {v : Value} {x : DataW H × List MemPlace} (hf : DataW.trod enc Tryz.prog W base sp true fuel 26 [v] = some x) : ∃ l : List Int, VR (fun b => b < W.heap.size) [] W (.im l.length (ints l)) v :=
 row_gen u26 k3 (fun n y z h => by
  obtain ⟨s, e, _⟩ := DataW.trod_int u3 h
  cases e
  exact ⟨s, by simp only [VR]⟩) hf
theorem row_rows {W : World} {base fuel : Nat} {sp : Nat → Bool} {v : Value} {x : DataW H × List MemPlace} (hf : DataW.trod enc Tryz.prog W base sp true fuel 22 [v] = some x) : ∃ l : List (List Int), VR (fun b => b < W.heap.size) [] W (.im l.length (rows l)) v :=
 row_gen u22 k26 (fun n y z h => row_ints h) hf
theorem row_bls {W : World} {base fuel : Nat} {sp : Nat → Bool} {v : Value} {x : DataW H × List MemPlace} (hf : DataW.trod enc Tryz.prog W base sp true fuel 23 [v] = some x) : ∃ l : List Bool, VR (fun b => b < W.heap.size) [] W (.im l.length (bls l)) v :=
 row_gen u23 k4 (fun n y z h => by
  obtain ⟨s, e, _⟩ := DataW.trod_bool u4 h
  cases e
  exact ⟨s, by simp only [VR]⟩) hf
theorem open_dfa {W : World} {base : Nat} {v : Value} {d : DataW H} {p : List MemPlace} (hval : Value.okWide Tryz.prog W .any base 25 v) (h : DataW.Trod enc Tryz.prog W 0 (fun _ => true) true 25 v d p) :
 ∃ (a b : Int) (N : List (List Int)) (A : List Bool) (y z : Value), v = .agg #[.int .i64 a, .int .i64 b, y, z] ∧ VR (fun b => b < W.heap.size) [] W (.im N.length (rows N)) y ∧ VR (fun b => b < W.heap.size) [] W (.im A.length (bls A)) z := by
 obtain ⟨cs, rfl, hsz⟩ := okWide_struct u25 hval
 obtain ⟨fuel, hf⟩ := h
 obtain ⟨xs, n, _, _, hl, hlen, hf⟩ := DataW.trod_struct u25 hf
 rw [k25] at hsz
 obtain ⟨l⟩ := cs
 match l, hsz with
 | [x0, x1, x2, x3], _ =>
 match xs, hlen with
 | [y0, y1, y2, y3], _ =>
 have h0 := hf 0 _ rfl
 have h1 := hf 1 _ rfl
 have h2 := hf 2 _ rfl
 have h3 := hf 3 _ rfl
 simp only [Value.cells, k3, k22, k23, List.drop_zero, List.drop_succ_cons, List.take_succ_cons, List.take_zero] at h0 h1 h2 h3
 obtain ⟨s0, e0, _⟩ := DataW.trod_int u3 h0
 cases e0
 obtain ⟨s1, e1, _⟩ := DataW.trod_int u3 h1
 cases e1
 obtain ⟨N, hN⟩ := row_rows h2
 obtain ⟨A, hA⟩ := row_bls h3
 exact ⟨_, _, N, A, _, _, rfl, hN, hA⟩
end
theorem below_of {P : Program} {n : FuncId} {args : List AV} {r : Value} (h : APure P n args (.v r)) {w : World} (hg : Gl (fun b => b < w.heap.size) w) {xs : Array Value} (hv : VRs (fun b => b < w.heap.size) [] w args xs.toList) :
 CallsFn P n xs w (fun v w' => v = r ∧ Below w.heap.size w w') := by
 have hr : HR (fun b => b < w.heap.size) [] [] w := HR.empty (fun b hb => hb) hg
 refine (h _ _ w xs hr hv).mono ?_
 rintro v w' ⟨r', H', I', m', h1, h2, h3, h4⟩
 have h5 := h1 _ _ _ _ h3 h2
 simp only [VR] at h5
 refine ⟨h5, h4.os, h4.tape, h4.output, h4.size, fun k hk => h4.blk k hk ?_⟩
 rintro ⟨id, o, L, h1, _⟩
 simp at h1
theorem enter_fn {P : Program} {n : FuncId} {fn : Func} (hf : P.funcs[n]? = some fn) (hn : (fn.name == "runtime.NumGoroutine") = false) (hb : fn.body.isNone = false) {xs : Array Value} {w : World} : (callFunc n xs).run P w = .ok (.enter n xs) w := by
 cases h : fn.body with
 | none => rw [h] at hb; cases hb
 | some c =>
  have hn' : ¬ fn.name = "runtime.NumGoroutine" := by intro e; rw [e] at hn; simp at hn
  simp [callFunc, hf, hn', h]
theorem calls3 {xs : Array Value} {w : World} {K : Value → World → Prop} (h : CallsFn Tryz.prog 3 xs w K) : Calls Tryz.prog 3 xs w (fun e w'' => ∃ v, e = .returned v ∧ K v w'') := by
 have e0 : (callFunc 3 xs).run Tryz.prog w = .ok (.enter 3 xs) w := enter_fn fn3 (by kernel_rfl) (by kernel_rfl)
 unfold CallsFn at h
 rw [e0] at h
 exact h
set_option maxHeartbeats 2000000 in
theorem lifted (os : Os) (started : os.Started) (H : Type) (enc : TypeId × Value → H) :
 ReturnsInHanded {} Tryz.checked os 3 .any (fun w args => (Rows.repairNearestSpec.pre enc Tryz.prog Tryz.f3 Rows.repairNearestRow.domain false w args ∧ laidMetH Tryz.prog Rows.repairNearestRow.laid w) ∧ sizedMet enc Tryz.prog Tryz.f3 (OpenSpec.ofChange Rows.repairNearestSpec) false w args)
  (Rows.repairNearestSpec.post enc Tryz.prog Tryz.f3 false true false false) := by
 refine returnsInHanded_of_change_and (C := Tryz.checked) (X := fun w _ => laidMetH Tryz.prog Rows.repairNearestRow.laid w) (fun _ _ _ hh h => h.of_heap hh) own started (by kernel_rfl) fn3
  (ChangeSpec.witness_shaped (enc := enc) (C := Tryz.checked) (os := os) (X := fun w _ => laidMetH Tryz.prog Rows.repairNearestRow.laid w) false (World.laidAll Tryz.prog os Rows.repairNearestRow.laid) #[.agg #[.int .i64 0, .int .i64 0, .slice none 0 0, .slice none 0 0], .slice none 0 0] 8 (World.laidAll_os _ _ _)
   (World.shaped_of_ZipB (by kernel_rfl) (by kernel_rfl)) (by kernel_rfl) (by kernel_rfl) (by kernel_rfl)
   (by rw [MakeChecks.laidMetH_plain _ _ _ (by kernel_rfl)]; exact laidMet_laidAll _ (by kernel_rfl) (by kernel_rfl))) ?_
 intro W base args ds gs before hval0 hW hc _ hL _
 have hval : ∀ (j : Nat) t v, Tryz.f3.params[j]? = some t → args[j]? = some v → Value.okWide Tryz.prog W .any base t v := hval0
 have hW' := hW
 have hlt := hW.lt
 obtain ⟨p, q, hA0, hV, rfl, _, _⟩ := hW
 have hA : DataW.TrodAll enc Tryz.prog W 0 (fun _ => true) true Tryz.f3.params.toList args.toList ds p := hA0
 rw [pm3] at hA hval
 obtain ⟨v0, v1, d0, d1, p0, p1, rfl, rfl, rfl, h0, h1⟩ := trodAll_two hA
 obtain ⟨rfl, rfl⟩ := trodVars_none hV
 obtain ⟨a, b, N, A, y, z, rfl, hN, hAc⟩ := open_dfa (hval 0 25 v0 rfl rfl) h0
 obtain ⟨a1, n1, c1, rfl⟩ := okWide_slice u26 (hval 1 26 v1 rfl rfl)
 have h1' := h1
 obtain ⟨fuel, hf1⟩ := h1'
 obtain ⟨l, hl0⟩ := row_ints hf1
 have hb := calls3 ((below_of (law3 awake4 a b N A l) (w := W) (gl_of hL) (xs := #[.agg #[.int .i64 a, .int .i64 b, y, z], .slice a1 n1 c1]) (by
  simp only [VRs]
  refine ⟨_, _, rfl, ?_, _, _, rfl, hl0, rfl⟩
  simp only [aV, VR]
  refine ⟨_, rfl, ?_⟩
  simp only [VRs]
  exact ⟨_, _, rfl, by simp only [VR], _, _, rfl, by simp only [VR], _, _, rfl, hN, _, _, rfl, hAc, rfl⟩)))
 refine hb.mono ?_
 rintro e W' ⟨v, rfl, rfl, bel⟩
 have t0 := Below.trod laidOut (by kernel_rfl) (of_decide_eq_true (by kernel_rfl)) h0 bel fun x hx => hlt x (by simp [hx])
 have t1 := Below.trod laidOut (by kernel_rfl) (of_decide_eq_true (by kernel_rfl)) h1 bel fun x hx => hlt x (by simp [hx])
 refine ⟨_, rfl, _, _, _, [], p0 ++ p1, [], hW', ?_, ?_, ?_, bel.frame _, fun h => by cases h⟩
 ·exact trodAll_mk1 (shut_bool u4 _)
 ·rw [pm3]
  exact trodAll_mk2 t0 t1
 ·rfl
set_option maxRecDepth 1000000 in
theorem repairNearest_holds : Rows.RepairNearestSaid :=
 OpenClaim.holds_of_wide 3 Tryz.f3 rfl rfl rfl rfl rfl rfl rfl ⟨rfl, rfl, rfl, rfl, rfl⟩ rfl rfl rfl rfl rfl fnRow fn3 closedRow instRow wrapRow
  (fun os started H enc _ => lifted os started H enc)
theorem wfText : Rows.repairNearestRow.wfByText (OpenSpec.ofChange Rows.repairNearestSpec) = true := by kernel_rfl
theorem mainRow : Tryz.pinned.checked.prog.mainIs = some (true, "dac4f2a1c3dc7c16aa03eeff651b64efd58509cf2fd4a11cec6abd2fd7f76bf9".toList) := by kernel_rfl
theorem looksRow : false = Tryz.pinned.checked.prog.looks [] := by kernel_rfl
theorem standRow : ([25, 26].all fun u => !Tryz.prog.wantsStandIn u) = true := by kernel_rfl
set_option maxRecDepth 1000000 in
theorem repairNearestCard_holds : Rows.RepairNearestCardSaid :=
 Claim7.holds_tied_plain_at .later [] [.data, .data, .data] true (true, "dac4f2a1c3dc7c16aa03eeff651b64efd58509cf2fd4a11cec6abd2fd7f76bf9") false
  repairNearest_holds (fun _ h => by cases h) wfText (fun _ h => by cases h) repairNearest_row_tie rfl ⟨rfl, rfl⟩ mainRow rfl
  (fun f fn hf hfn => by
   obtain rfl : f = 3 := Option.some.inj (fnRow.symm.trans hf) |>.symm
   obtain rfl : fn = Tryz.f3 := (Option.some.inj (fn3.symm.trans hfn)).symm
   exact ⟨looksRow, fun j t ht => by
    rw [pm3] at ht
    have hm : t ∈ [25, 26] := by simpa using Array.mem_of_getElem? ht
    exact (show Tryz.prog.wantsStandIn t = false by simpa using List.all_eq_true.1 standRow t hm)⟩)
  goesRow
end Go.Proofs.YtcjckmnhlfbdlaaGreatDoor
