/- Part 10 of the texts that lead to repairNearestCard_holds. No condition. -/
import Derived.DeepKeys3
import Derived.MapKept
import Derived.Test.YtcjckmnhlfbdlaaGreatDoorH9
set_option linter.all false
namespace Go.Abs
open Go
def plainVs : List AV → Option (List Value)
 | [] => some []
 | .v x :: cs => match plainVs cs with
  | some xs => some (x :: xs)
  | none => none
 | _ :: _ => none
def toVal : AV → Option Value
 | .v x => some x
 | .ag cs => match plainVs cs with
  | some xs => some (.agg xs.toArray)
  | none => none
 | _ => none
theorem plainVs_spec {I : Nat → Prop} {m : List Loc} {w : World} : ∀ {cs : List AV} {xs ys : List Value}, plainVs cs = some xs → VRs I m w cs ys → ys = xs
 | [], xs, ys, h, k => by simp only [plainVs] at h; cases h; simpa only [VRs] using k
 | c :: cs, xs, ys, h, k => by
  simp only [VRs] at k
  obtain ⟨y, zs, rfl, k1, k2⟩ := k
  cases c <;> first | (simp [plainVs] at h; done) | skip
  rename_i x
  simp only [plainVs] at h
  cases hp : plainVs cs with
  | none => rw [hp] at h; cases h
  | some xs' =>
   rw [hp] at h; cases h
   simp only [VR] at k1
   rw [k1, plainVs_spec hp k2]
theorem toVal_spec {I : Nat → Prop} {m : List Loc} {w : World} {v : AV} {x y : Value} (h : toVal v = some x) (k : VR I m w v y) : y = x := by
 cases v <;> first | (simp [toVal] at h; done) | skip
 ·simp only [toVal] at h; cases h; simpa only [VR] using k
 ·rename_i cs
  simp only [toVal] at h
  cases hp : plainVs cs with
  | none => rw [hp] at h; cases h
  | some xs =>
   rw [hp] at h; cases h
   simp only [VR] at k
   obtain ⟨ys, rfl, k2⟩ := k
   have := plainVs_spec hp k2
   rw [← this]
def keyEq1 : Value → Value → Option Bool
 | .int k a, .int k' b => some (kindEq k k' && ieq a b)
 | .string a, .string b => some (a.data.toList == b.data.toList)
 | .bool a, .bool b => some (a == b)
 | _, _ => none
theorem keyEq1_spec {a b : Value} {r : Bool} (h : keyEq1 a b = some r) : r = true ↔ a = b := by
 unfold keyEq1 at h
 split at h
 ·cases h
  rw [Bool.and_eq_true, ieq_eq, beq_iff_eq]
  constructor
  ·rintro ⟨h1, rfl⟩; rw [kindEq_spec h1]
  ·intro e; cases e; exact ⟨by simp [kindEq], rfl⟩
 ·rename_i x y
  cases h
  rw [beq_iff_eq]
  constructor
  ·intro e
   obtain ⟨⟨x⟩⟩ := x
   obtain ⟨⟨y⟩⟩ := y
   dsimp only at e; rw [e]
  ·intro e; cases e; rfl
 ·cases h
  rw [beq_iff_eq]
  exact ⟨fun e => by rw [e], fun e => by cases e; rfl⟩
 ·cases h
def keyEqs : List Value → List Value → Option Bool
 | [], [] => some true
 | a :: as, b :: bs => match keyEq1 a b, keyEqs as bs with
  | some x, some y => some (x && y)
  | _, _ => none
 | _, _ => none
theorem keyEqs_spec : ∀ {a b : List Value} {r : Bool}, keyEqs a b = some r → (r = true ↔ a = b)
 | [], [], r, h => by cases h; simp
 | a :: as, b :: bs, r, h => by
  simp only [keyEqs] at h
  cases h1 : keyEq1 a b with
  | none => rw [h1] at h; cases h
  | some x =>
   cases h2 : keyEqs as bs with
   | none => rw [h1, h2] at h; cases h
   | some y =>
    rw [h1, h2] at h; cases h
    rw [Bool.and_eq_true, keyEq1_spec h1, keyEqs_spec h2, List.cons.injEq]
 | [], _ :: _, r, h => by cases h
 | _ :: _, [], r, h => by cases h
def keyEq : Value → Value → Option Bool
 | .agg xs, .agg ys => keyEqs xs.toList ys.toList
 | a, b => keyEq1 a b
theorem keyEq_spec {a b : Value} {r : Bool} (h : keyEq a b = some r) : r = true ↔ a = b := by
 unfold keyEq at h
 split at h
 ·rename_i xs ys
  rw [keyEqs_spec h]
  constructor
  ·intro e; congr 1; exact Array.ext' e
  ·intro e; cases e; rfl
 ·exact keyEq1_spec h
def posU (x : Value) : List Value → Nat → Option (Option Nat)
 | [], _ => some none
 | a :: ks, i => match keyEq a x, posU x ks (i + 1) with
  | some true, some none => some (some i)
  | some false, r => r
  | _, _ => none
theorem posU_spec {x : Value} : ∀ {ks : List Value} {i : Nat} {r : Option Nat}, posU x ks i = some r →
 (r = none ∧ ∀ a ∈ ks, a ≠ x) ∨ ∃ j, r = some (i + j) ∧ ks[j]? = some x ∧ ∀ j2, ks[j2]? = some x → j2 = j
 | [], i, r, h => by cases h; exact .inl ⟨rfl, fun a ha => by cases ha⟩
 | a :: ks, i, r, h => by
  simp only [posU] at h
  split at h
  ·rename_i h1 h2
   cases h
   rcases posU_spec h2 with ⟨_, q⟩ | ⟨j, q, _⟩
   ·have e : a = x := (keyEq_spec h1).1 rfl
    refine .inr ⟨0, rfl, by simp [e], fun j2 hj => ?_⟩
    cases j2 with
    | zero => rfl
    | succ j2 => simp at hj; exact (q _ (List.mem_of_getElem? hj) rfl).elim
   ·cases q
  ·rename_i h1
   have ne : a ≠ x := fun e => by have := (keyEq_spec h1).2 e; cases this
   rcases posU_spec h with ⟨q1, q2⟩ | ⟨j, q1, q2, q3⟩
   ·refine .inl ⟨q1, fun b hb => ?_⟩
    rcases List.mem_cons.1 hb with rfl | hb
    ·exact ne
    ·exact q2 b hb
   ·refine .inr ⟨j + 1, by rw [q1]; congr 1; omega, by simpa using q2, fun j2 hj => ?_⟩
    cases j2 with
    | zero => simp at hj; exact (ne hj).elim
    | succ j2 => rw [q3 j2 (by simpa using hj)]
  ·cases h
def isKeyB : TypeDesc → Value → Bool
 | .bool, .bool _ => true
 | .int k, .int k' _ => kindEq k' k
 | .string, .string _ => true
 | _, _ => false
theorem isKeyB_spec {d : TypeDesc} {v : Value} (h : isKeyB d v = true) : MapKept.IsKey d v := by
 unfold isKeyB at h
 split at h
 ·trivial
 ·exact kindEq_spec h
 ·trivial
 ·cases h
def goodK (P : Program) (k : TypeId) (v : Value) : Bool := match P.underlying k with
 | some (.array _ _) | some (.struct _) => P.keyTypeAt 64 k && P.tiled 64 k && (keyOf P k v).isSome
 | some d => isKeyB d v
 | none => false
section
variable {P : Program} {k : TypeId}
theorem goodK_cases {x : Value} (h : goodK P k x = true) : (∃ d, P.underlying k = some d ∧ MapKept.IsKey d x ∧ ∀ v, goodK P k v = true → MapKept.IsKey d v) ∨ (WideMaps.KeyLaw P k ∧ ∀ v, goodK P k v = true → ∃ l, keyOf P k v = some l) := by
 unfold goodK at h ⊢
 cases hu : P.underlying k with
 | none => rw [hu] at h; cases h
 | some d =>
  rw [hu] at h
  have deep : (match P.underlying k with | some (.array _ _) | some (.struct _) => true | _ => false) = true → P.keyTypeAt 64 k && P.tiled 64 k && (keyOf P k x).isSome → WideMaps.KeyLaw P k := fun hw q => by
   simp only [Bool.and_eq_true] at q
   exact deep_law (m := 64) (by omega) q.1.1 q.1.2 hw
  cases d <;> first
   | exact .inl ⟨_, rfl, isKeyB_spec h, fun v hv => isKeyB_spec hv⟩
   | exact .inr ⟨deep (by rw [hu]) h, fun v hv => by
    simp only [Bool.and_eq_true] at hv
    exact Option.isSome_iff_exists.1 hv.2⟩
theorem goodK_check {x : Value} (h : goodK P k x = true) (w : World) (em : Bool) : (Instr.checkKey em 10000 k x).run P w = .ok () w := by
 rcases goodK_cases h with ⟨d, h1, h2, _⟩ | ⟨h1, h2⟩
 ·exact MapKept.run_checkKey h1 h2 em 9999
 ·obtain ⟨l, hl⟩ := h2 x h
  exact h1.check w em hl
theorem goodK_stays {x : Value} (h : goodK P k x = true) (w : World) : (Instr.keyThatStays x x).run P w = .ok x w := by
 rcases goodK_cases h with ⟨d, h1, h2, _⟩ | ⟨h1, h2⟩
 ·exact MapKept.run_keyThatStays h2
 ·obtain ⟨l, hl⟩ := h2 x h
  exact h1.stays w hl
theorem goodK_find {x : Value} (h : goodK P k x = true) (w : World) (es : List MapEntry) (he : ∀ e ∈ es, goodK P k e.key = true) :
 ((Instr.findKey k x es).run P w = .ok none w ∧ ∀ e ∈ es, e.key ≠ x) ∨ ∃ j e, (Instr.findKey k x es).run P w = .ok (some (j, e.val)) w ∧ es[j]? = some e ∧ e.key = x := by
 rcases goodK_cases h with ⟨d, h1, h2, h3⟩ | ⟨h1, h2⟩
 ·rcases MapKept.findNow_spec h2 es 0 (fun e hm => h3 _ (he e hm)) with ⟨q1, q2⟩ | ⟨j, e, q1, q2, q3⟩
  ·exact .inl ⟨MapKept.run_findKey h1 q1, q2⟩
  ·exact .inr ⟨j, e, by rw [Nat.zero_add] at q1; exact MapKept.run_findKey h1 q1, q2, q3⟩
 ·obtain ⟨l, hl⟩ := h2 x h
  exact h1.find w hl es fun e hm => h2 _ (he e hm)
theorem goodK_pos {x : Value} {ks : List Value} {r : Option Nat} (h : goodK P k x = true) (w : World) {es : List MapEntry} (hk : es.map (·.key) = ks) (he : ks.all (goodK P k) = true) (hp : posU x ks 0 = some r) :
 (r = none ∧ (Instr.findKey k x es).run P w = .ok none w) ∨ ∃ j e, r = some j ∧ (Instr.findKey k x es).run P w = .ok (some (j, e.val)) w ∧ es[j]? = some e ∧ e.key = x := by
 have he' : ∀ e ∈ es, goodK P k e.key = true := fun e hm => List.all_eq_true.1 he _ (by rw [← hk]; exact List.mem_map_of_mem hm)
 rcases goodK_find h w es he' with ⟨q1, q2⟩ | ⟨j, e, q1, q2, q3⟩
 ·rcases posU_spec hp with ⟨r1, r2⟩ | ⟨j, r1, r2, r3⟩
  ·exact .inl ⟨r1, q1⟩
  ·exfalso
   rw [← hk, List.getElem?_map, Option.map_eq_some_iff] at r2
   obtain ⟨e, r4, r5⟩ := r2
   exact q2 e (List.mem_of_getElem? r4) r5
 ·rcases posU_spec hp with ⟨r1, r2⟩ | ⟨j2, r1, r2, r3⟩
  ·exfalso
   exact r2 e.key (by rw [← hk]; exact List.mem_map_of_mem (List.mem_of_getElem? q2)) q3
  ·have : j = j2 := r3 j (by rw [← hk, List.getElem?_map, q2, ← q3]; rfl)
   subst this
   exact .inr ⟨j, e, by rw [r1, Nat.zero_add], q1, q2, q3⟩
end
end Go.Abs
namespace Go.Abs
open Go
section
variable {P : Program} {I : Nat → Prop} {m : List Loc} {H : List AO} {w : World}
theorem SOK.makeMap (hr : HR I m H w) (t : TypeId) : SOK P I m H w (Instr.makeMap t none) (.mp H.length) (H ++ [.mapv [] []]) := by
 obtain ⟨h1, h2⟩ := hr.alloc (w' := { w with heap := w.heap.push (.map #[] 0) }) (o := .mapv [] []) (L := ⟨w.heap.size, 0, 1, 1⟩) rfl rfl rfl rfl rfl (by
  simp only [OR]
  exact ⟨by decide, #[], 0, by simp, rfl, by simp [VRs], rfl, rfl⟩)
 refine ⟨.map (some w.heap.size), _, _, ?_, ?_, h1, h2⟩
 ·simp [Instr.makeMap, newObj]
  rfl
 ·simp only [VR]
  exact ⟨_, by rw [← hr.len]; exact last_lk _ (by simp), rfl⟩
def zeroA (P : Program) (t : TypeId) : Option Value := match P.info? t with
 | some i => i.zero
 | none => none
theorem zeroA_run {t : TypeId} {z : Value} (h : zeroA P t = some z) (w : World) : (zeroValue t).run P w = .ok z w := by
 unfold zeroA at h
 split at h
 ·rename_i i hi
  simp [zeroValue, typeInfo, hi, h]
 ·cases h
theorem mapv_get (hr : HR I m H w) {id : Nat} {ks : List Value} {vs : List AV} (ho : H[id]? = some (.mapv ks vs)) {x : Value} (hx : VR I m w (.mp id) x) :
 ∃ L es cl, m[id]? = some L ∧ L.cap ≠ 0 ∧ x = .map (some L.b) ∧ w.heap[L.b]? = some (.map es cl) ∧ es.toList.map (·.key) = ks ∧ VRs I m w vs (es.toList.map (·.val)) ∧ es.toList.map (·.born) = List.range ks.length ∧ cl = ks.length := by
 simp only [VR] at hx
 obtain ⟨L, h1, rfl⟩ := hx
 have h2 := (lk_get h1).1
 obtain ⟨q1, es, cl, q2, q3, q4, q5, q6⟩ := hr.ob id _ L ho h2
 exact ⟨L, es, cl, h2, q1, rfl, q2, q3, q4, q5, q6⟩
theorem vals_get {vs : List AV} {es : Array MapEntry} (h : VRs I m w vs (es.toList.map (·.val))) {j : Nat} {e : MapEntry} (he : es.toList[j]? = some e) : ∃ v, vs[j]? = some v ∧ VR I m w v e.val := by
 have hl := h.len
 have hj : j < es.toList.length := (List.getElem?_eq_some_iff.1 he).1
 have hjv : j < vs.length := by rw [List.length_map] at hl; omega
 obtain ⟨y, q1, q2⟩ := h.get j vs[j] (List.getElem?_eq_getElem hjv)
 rw [List.getElem?_map, he] at q1
 cases q1
 exact ⟨_, List.getElem?_eq_getElem hjv, q2⟩
def okTu (ok : Bool) (v : AV) (b : Bool) : AV := match ok with
 | true => .tu [v, .v (.bool b)]
 | false => v
theorem okTu_vr {ok : Bool} {v : AV} {b : Bool} {y : Value} (h : VR I m w v y) : VR I m w (okTu ok v b) (if ok = true then .tuple #[y, .bool b] else y) := by
 cases ok
 ·exact h
 ·simp only [okTu, VR, VRs]
  exact ⟨_, rfl, _, _, rfl, h, _, _, rfl, rfl, rfl⟩
theorem SOK.lookup (hr : HR I m H w) {t k e : TypeId} (ht : P.underlying t = some (.map k e)) {id : Nat} {ks : List Value} {vs : List AV} (ho : H[id]? = some (.mapv ks vs)) {x i : Value} (hx : VR I m w (.mp id) x)
 (hi : goodK P k i = true) (hks : ks.all (goodK P k) = true) {r : Option Nat} (hp : posU i ks 0 = some r) {z : Value} (hz : zeroA P e = some z) (ok : Bool) {v : AV} (hv : match r with
  | some j => vs[j]? = some v
  | none => v = lift z) :
 SOK P I m H w (Instr.lookup t x i ok) (okTu ok v r.isSome) H := by
 obtain ⟨L, es, cl, q1, q2, rfl, q4, q5, q6, q7, q8⟩ := mapv_get hr ho hx
 rcases goodK_pos hi w q5 hks hp with ⟨rfl, h1⟩ | ⟨j, en, rfl, h1, h2, h3⟩
 ·refine SOK.same hr (y := if ok = true then .tuple #[z, .bool false] else z) ?_ (okTu_vr (b := false) (by rw [hv]; exact VR.lift z))
  simp [Instr.lookup, run_underlying ht, MapKept.run_getObj_map q4, goodK_check hi w, h1, zeroA_run hz, Result.andThen]
 ·obtain ⟨v', r1, r2⟩ := vals_get q6 h2
  rw [hv] at r1; cases r1
  refine SOK.same hr (y := if ok = true then .tuple #[en.val, .bool true] else en.val) ?_ (okTu_vr (b := true) r2)
  simp [Instr.lookup, run_underlying ht, MapKept.run_getObj_map q4, goodK_check hi w, h1, Result.andThen]
theorem SOK.lookup_nil (hr : HR I m H w) {t k e : TypeId} (ht : P.underlying t = some (.map k e)) {i : Value} (hi : goodK P k i = true) {z : Value} (hz : zeroA P e = some z) (ok : Bool) :
 SOK P I m H w (Instr.lookup t (.map none) i ok) (okTu ok (lift z) false) H := by
 have hf : (Instr.findKey k i []).run P w = .ok none w := by
  rcases goodK_pos hi w (es := []) (ks := []) rfl rfl rfl with ⟨_, h1⟩ | ⟨j, en, h0, _⟩
  ·exact h1
  ·cases h0
 refine SOK.same hr (y := if ok = true then .tuple #[z, .bool false] else z) ?_ (okTu_vr (b := false) (VR.lift z))
 simp [Instr.lookup, run_underlying ht, goodK_check hi w, hf, zeroA_run hz, Result.andThen]
theorem VRs.push {vs : List AV} {xs : List Value} {v : AV} {x : Value} (h : VRs I m w vs xs) (k : VR I m w v x) : VRs I m w (vs ++ [v]) (xs ++ [x]) := h.append (by simp only [VRs]; exact ⟨_, _, rfl, k, rfl⟩)
theorem VRs.put {vs : List AV} {xs : List Value} {v : AV} {x : Value} (h : VRs I m w vs xs) (k : VR I m w v x) (j : Nat) : VRs I m w (vs.set j v) (xs.set j x) := by
 refine VRs.of_get (by simp [h.len]) fun i c y h1 h2 => ?_
 rw [List.getElem?_set] at h1 h2
 have hl := h.len
 split at h1
 ·rename_i hij
  subst hij
  rw [if_pos rfl] at h2
  split at h1
  ·rw [if_pos (by omega)] at h2
   cases h1; cases h2; exact k
  ·cases h1
 ·rename_i hij
  rw [if_neg hij] at h2
  obtain ⟨y', q1, q2⟩ := h.get i c h1
  rw [h2] at q1; cases q1; exact q2
def updM (ks : List Value) (vs : List AV) (k : Value) (v : AV) : Option Nat → AO
 | some j => .mapv ks (vs.set j v)
 | none => .mapv (ks ++ [k]) (vs ++ [v])
theorem run_update (hr : HR I m H w) {t k e : TypeId} (ht : P.underlying t = some (.map k e)) {id : Nat} {ks : List Value} {vs : List AV} (ho : H[id]? = some (.mapv ks vs)) {x i y : Value} (hx : VR I m w (.mp id) x)
 (hi : goodK P k i = true) (hks : ks.all (goodK P k) = true) {r : Option Nat} (hp : posU i ks 0 = some r) {v : AV} (hy : VR I m w v y) :
 ∃ w', (Instr.mapUpdate t x i y).run P w = .ok () w' ∧ HR I m (H.set id (updM ks vs i v r)) w' ∧ Ext I m (Own H m) w I m (Own (H.set id (updM ks vs i v r)) m) w' := by
 obtain ⟨L, es, cl, q1, q2, rfl, q4, q5, q6, q7, q8⟩ := mapv_get hr ho hx
 have hlt := lt_of_heap q4
 have go : ∀ (es' : Array MapEntry) (cl' : Nat) (o' : AO), (∀ w' : World, w'.heap[L.b]? = some (.map es' cl') → (∀ b, I b → w'.heap[b]? = w.heap[b]?) → OR I m w' o' L) →
  HR I m (H.set id o') { w with heap := w.heap.setIfInBounds L.b (.map es' cl') } ∧ Ext I m (Own H m) w I m (Own (H.set id o') m) { w with heap := w.heap.setIfInBounds L.b (.map es' cl') } := fun es' cl' o' hor => by
  have hh := MapKept.heap_set (o' := .map es' cl') q4
  refine hr.set ho rfl q1 (by simp) (fun b hb => ?_) rfl rfl rfl (hor _ hh.1 fun b hb => ?_)
  ·exact hh.2 b (hb q2)
  ·exact hh.2 b fun e => hr.imm b hb ⟨id, _, L, ho, rfl, q1, q2, e.symm⟩
 have up : ∀ {w' : World} {c : AV} {z : Value}, (∀ b, I b → w'.heap[b]? = w.heap[b]?) → VR I m w c z → VR I m w' c z := fun hI k => by
  have := VR.mono (I' := I) (nu := []) (fun _ h => h) hI _ _ k
  simpa using this
 have ups : ∀ {w' : World} {c : List AV} {z : List Value}, (∀ b, I b → w'.heap[b]? = w.heap[b]?) → VRs I m w c z → VRs I m w' c z := fun hI k => by
  have := VRs.mono (I' := I) (nu := []) (fun _ h => h) hI _ _ k
  simpa using this
 rcases goodK_pos hi w q5 hks hp with ⟨rfl, h1⟩ | ⟨j, en, rfl, h1, h2, h3⟩
 ·have := go (es.push { key := i, val := y, born := cl }) (cl + 1) (updM ks vs i v none) (fun w' h hI => by
   simp only [updM, OR]
   refine ⟨q2, _, _, h, by simp [q5], ?_, ?_, ?_⟩
   ·simp only [Array.toList_push, List.map_append, List.map_cons, List.map_nil]
    exact (ups hI q6).push (up hI hy)
   ·simp only [Array.toList_push, List.map_append, List.map_cons, List.map_nil, List.length_append, List.length_cons, List.length_nil, Nat.zero_add, List.range_succ, q7, q8]
   ·simp [q8])
  refine ⟨_, ?_, this.1, this.2⟩
  simp [Instr.mapUpdate, run_underlying ht, MapKept.run_getObj_map q4, goodK_check hi w, h1, MapKept.run_setObj_map _ q4, Result.andThen]
 ·have hjl : j < es.size := by have := (List.getElem?_eq_some_iff.1 h2).1; simpa using this
  have hj : es[j]? = some en := by rw [← Array.getElem?_toList]; exact h2
  have hmod : ∀ f : MapEntry → MapEntry, (es.modify j f).toList = es.toList.set j (f en) := fun f => by
   apply List.ext_getElem?
   intro n
   rw [Array.getElem?_toList, Array.getElem?_modify, List.getElem?_set]
   by_cases hn : j = n
   ·subst hn
    rw [if_pos rfl, if_pos rfl, hj, if_pos (by simpa using hjl)]; rfl
   ·rw [if_neg hn, if_neg hn, Array.getElem?_toList]
  have := go (es.modify j fun e => { e with key := i, val := y }) cl (updM ks vs i v (some j)) (fun w' h hI => by
   simp only [updM, OR]
   refine ⟨q2, _, _, h, ?_, ?_, ?_, q8⟩
   ·rw [hmod, List.map_set, ← q5]
    apply List.ext_getElem?
    intro n
    rw [List.getElem?_set]
    split
    ·rename_i hn
     subst hn
     rw [List.getElem?_map, h2]
     simp only [Option.map_some, List.length_map]
     rw [if_pos (by simpa using hjl), h3]
    ·rfl
   ·rw [hmod, List.map_set]
    exact (ups hI q6).put (up hI hy) j
   ·rw [hmod, List.map_set, ← q7]
    apply List.ext_getElem?
    intro n
    rw [List.getElem?_set]
    split
    ·rename_i hn
     subst hn
     rw [List.getElem?_map, h2]
     simp only [Option.map_some, List.length_map]
     rw [if_pos (by simpa using hjl)]
    ·rfl)
  refine ⟨_, ?_, this.1, this.2⟩
  have e1 : ((es[j]?).map (·.key)).getD i = i := by rw [hj]; exact h3
  simp [Instr.mapUpdate, run_underlying ht, MapKept.run_getObj_map q4, goodK_check hi w, h1, hj, h3, goodK_stays hi w, MapKept.run_setObj_map _ q4, Result.andThen]
end
end Go.Abs
