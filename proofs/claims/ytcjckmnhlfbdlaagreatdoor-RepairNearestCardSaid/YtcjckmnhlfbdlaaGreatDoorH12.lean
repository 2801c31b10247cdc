/- Part 12 of the texts that lead to repairNearestCard_holds. No condition. -/
import Derived.Maps.RangeRun
import Derived.Test.YtcjckmnhlfbdlaaGreatDoorH11
set_option linter.all false
namespace Go.Abs
open Go
section
variable {P : Program} {I : Nat → Prop} {m : List Loc} {H : List AO} {w : World}
theorem mapv_all (hr : HR I m H w) {id : Nat} {ks : List Value} {vs : List AV} (ho : H[id]? = some (.mapv ks vs)) {x : Value} (hx : VR I m w (.mp id) x) :
 ∃ L es, m[id]? = some L ∧ L.cap ≠ 0 ∧ x = .map (some L.b) ∧ w.heap[L.b]? = some (.map es ks.length) ∧ es.toList.map (·.key) = ks ∧ VRs I m w vs (es.toList.map (·.val)) ∧ es.toList.map (·.born) = List.range ks.length := by
 simp only [VR] at hx
 obtain ⟨L, h1, rfl⟩ := hx
 have h2 := (lk_get h1).1
 obtain ⟨q1, es, cl, q2, q3, q4, q5, rfl⟩ := hr.ob id _ L ho h2
 exact ⟨L, es, h2, q1, rfl, q2, q3, q4, q5⟩
theorem SOK.rangeM (hr : HR I m H w) {t k e : TypeId} (ht : P.underlying t = some (.map k e)) {id : Nat} {ks : List Value} {vs : List AV} (ho : H[id]? = some (.mapv ks vs)) {x : Value} (hx : VR I m w (.mp id) x) :
 SOK P I m H w (Instr.range t x) (.pt H.length 0) (H ++ [.mi [.mp id] ks.length [] ks.length]) := by
 obtain ⟨L, es, q1, q2, rfl, q4, q5, q6, q7⟩ := mapv_all hr ho hx
 obtain ⟨h1, h2⟩ := hr.alloc (w' := w.alloc (.mapIter (some L.b) ks.length #[] ks.length)) (o := .mi [.mp id] ks.length [] ks.length) (L := ⟨w.heap.size, 0, 1, 1⟩) rfl rfl rfl rfl rfl (by
  simp only [OR]
  refine ⟨⟨by decide, trivial⟩, L.b, _root_.Go.heap_alloc_new w _, ?_⟩
  have hx' : VRs I m w [.mp id] [.map (some L.b)] := by simp only [VRs]; exact ⟨_, _, rfl, hx, rfl⟩
  exact VRs.mono (nu := [⟨w.heap.size, 0, 1, 1⟩]) (fun _ h => h) (fun b hb => @_root_.Go.heap_alloc_old w _ _ (hr.ilt b hb)) _ _ hx')
 refine ⟨_, _, _, run_range_map w t k e L.b es _ ht q4, ?_, h1, h2⟩
 simp only [VR]
 exact ⟨_, by rw [← hr.len]; exact last_lk _ (by simp), rfl⟩
theorem born_get {es : Array MapEntry} {n : Nat} (h : es.toList.map (·.born) = List.range n) {e : MapEntry} (he : e ∈ es.toList) : es.toList[e.born]? = some e ∧ e.born < n := by
 obtain ⟨i, hi⟩ := List.getElem?_of_mem he
 have h1 : (es.toList.map (·.born))[i]? = some e.born := by rw [List.getElem?_map, hi]; rfl
 rw [h, List.getElem?_range (by
  have := (List.getElem?_eq_some_iff.1 hi).1
  have hl := congrArg List.length h
  simp only [List.length_map, List.length_range] at hl
  omega)] at h1
 cases h1
 refine ⟨hi, ?_⟩
 have := (List.getElem?_eq_some_iff.1 hi).1
 have hl := congrArg List.length h
 simp only [List.length_map, List.length_range] at hl
 omega
def leftI (n : Nat) (sn : List Nat) : List Nat := (List.range n).filter fun j => !sn.contains j
theorem mem_left {es : Array MapEntry} {n : Nat} {sn : List Nat} (h : es.toList.map (·.born) = List.range n) {e : MapEntry} : e ∈ (leftOf es sn.toArray).toList ↔ e ∈ es.toList ∧ e.born ∈ leftI n sn := by
 unfold leftOf leftI
 rw [Array.toList_filter, List.mem_filter, List.mem_filter, List.mem_range]
 constructor
 ·rintro ⟨h1, h2⟩
  exact ⟨h1, (born_get h h1).2, by simpa using h2⟩
 ·rintro ⟨h1, h2, h3⟩
  exact ⟨h1, by simpa using h3⟩
theorem SOK.nextM (hr : HR I m H w) {id im s l : Nat} {sn : List Nat} {ks : List Value} {vs : List AV} (ho : H[id]? = some (.mi [.mp im] s sn l)) (hm : H[im]? = some (.mapv ks vs)) {x : Value} (hx : VR I m w (.pt id 0) x) (h1 : ks.length ≤ s) (h2 : s ≤ l) (t : TypeId) :
 (leftI ks.length sn = [] ∧ SOK P I m H w (Instr.next x false t) (.tu [.v (.bool false)]) H) ∨
 ∃ j k v, j ∈ leftI ks.length sn ∧ ks[j]? = some k ∧ vs[j]? = some v ∧ SOK P I m H w (Instr.next x false t) (.tu [.v (.bool true), .v k, v]) (H.set id (.mi [.mp im] s (sn ++ [j]) ks.length)) := by
 simp only [VR] at hx
 obtain ⟨L, g1, rfl⟩ := hx
 have g2 := (lk_get g1).1
 obtain ⟨⟨c1, c2⟩, b, c3, c4⟩ := hr.ob id _ L ho g2
 have c4' := c4
 simp only [VRs] at c4
 obtain ⟨_, _, e1, c5, _⟩ := c4
 obtain ⟨rfl, rfl⟩ := List.cons.inj e1
 obtain ⟨Lm, es, q1, q2, q3, q4, q5, q6, q7⟩ := mapv_all hr hm c5
 cases q3
 rw [c2, Nat.zero_add]
 have hold : ∀ y ∈ es.toList, y.born < s := fun y hy => Nat.lt_of_lt_of_le (born_get q7 hy).2 h1
 rcases run_next_at (P := P) w t L.b Lm.b s l sn.toArray es _ c3 q4 hold h2 with ⟨hz, hrun⟩ | ⟨e, he, w1, hw1, hrun⟩
 ·refine .inl ⟨?_, SOK.same hr hrun (by simp only [VR, VRs]; exact ⟨_, rfl, _, _, rfl, rfl, rfl⟩)⟩
  rw [List.eq_nil_iff_forall_not_mem]
  intro j hj
  have hjn : j < ks.length := by
   unfold leftI at hj
   rw [List.mem_filter, List.mem_range] at hj
   exact hj.1
  have hlen : es.toList.length = ks.length := by
   have := congrArg List.length q7
   simpa using this
  have hje : j < es.toList.length := by omega
  have hb : (es.toList[j]).born = j := by
   have h1 : (es.toList.map (·.born))[j]? = some (es.toList[j]).born := by rw [List.getElem?_map, List.getElem?_eq_getElem hje]; rfl
   rw [q7, List.getElem?_range hjn] at h1
   exact (Option.some.inj h1).symm
  have : es.toList[j] ∈ (leftOf es sn.toArray).toList := (mem_left q7).2 ⟨List.getElem_mem hje, by rw [hb]; exact hj⟩
  have hz' : (leftOf es sn.toArray).toList = [] := List.eq_nil_of_length_eq_zero (by simpa using hz)
  rw [hz'] at this
  cases this
 ·have he' := (mem_left q7).1 he
  obtain ⟨b1, b2⟩ := born_get q7 he'.1
  have hk : ks[e.born]? = some e.key := by rw [← q5, List.getElem?_map, b1]; rfl
  obtain ⟨v, hv1, hv2⟩ := vals_get q6 b1
  refine .inr ⟨e.born, e.key, v, he'.2, hk, hv1, ?_⟩
  have hheap : w1.heap = w.heap := by rcases hw1 with rfl | rfl <;> rfl
  have hset : (Go.ChangeMaps.setBlock w1 L.b (.mapIter (some Lm.b) s (sn.toArray.push e.born) ks.length)).heap = w.heap.setIfInBounds L.b (.mapIter (some Lm.b) s (sn.toArray.push e.born) ks.length) := by
   rw [← hheap]; rfl
  have hlt := lt_of_heap c3
  obtain ⟨r1, r2⟩ := hr.set (w' := Go.ChangeMaps.setBlock w1 L.b (.mapIter (some Lm.b) s (sn.toArray.push e.born) ks.length)) (o' := .mi [.mp im] s (sn ++ [e.born]) ks.length) ho rfl g2
   (by rw [hset]; simp) (fun b hb => by rw [hset, Array.getElem?_setIfInBounds_ne (Ne.symm (hb c1))])
   (by rcases hw1 with rfl | rfl <;> rfl) (by rcases hw1 with rfl | rfl <;> rfl) (by rcases hw1 with rfl | rfl <;> rfl) (by
    simp only [OR]
    refine ⟨⟨c1, c2⟩, Lm.b, ?_, ?_⟩
    ·rw [hset, Array.getElem?_setIfInBounds_self_of_lt hlt]
     simp
    ·have hne : ∀ b, I b → b ≠ L.b := fun b hb e => hr.imm b hb ⟨id, _, L, ho, rfl, g2, c1, e.symm⟩
     have := VRs.mono (I' := I) (nu := []) (w' := Go.ChangeMaps.setBlock w1 L.b (.mapIter (some Lm.b) s (sn.toArray.push e.born) ks.length)) (fun _ h => h) (fun b hb => by rw [hset, Array.getElem?_setIfInBounds_ne (Ne.symm (hne b hb))]) _ _ c4'
     simpa using this)
  refine ⟨_, _, _, hrun, ?_, r1, r2⟩
  simp only [VR, VRs]
  refine ⟨_, rfl, _, _, rfl, rfl, _, _, rfl, rfl, _, _, rfl, ?_, rfl⟩
  exact Ext.vr hr r2 hv2
theorem SOK.entryM (hr : HR I m H w) {id im s l j : Nat} {sn : List Nat} {ks : List Value} {vs : List AV} (ho : H[id]? = some (.mi [.mp im] s (sn ++ [j]) l)) (hm : H[im]? = some (.mapv ks vs)) {x : Value} (hx : VR I m w (.pt id 0) x) (hl : l = ks.length) {k : Value} {v : AV} (hk : ks[j]? = some k) (hv : vs[j]? = some v) :
 SOK P I m H w (Instr.entry x) (.tu [.v k, v]) H := by
 subst hl
 simp only [VR] at hx
 obtain ⟨L, g1, rfl⟩ := hx
 have g2 := (lk_get g1).1
 obtain ⟨⟨c1, c2⟩, b, c3, c4⟩ := hr.ob id _ L ho g2
 simp only [VRs] at c4
 obtain ⟨_, _, e1, c5, _⟩ := c4
 obtain ⟨rfl, rfl⟩ := List.cons.inj e1
 obtain ⟨Lm, es, q1, q2, q3, q4, q5, q6, q7⟩ := mapv_all hr hm c5
 cases q3
 rw [c2, Nat.zero_add]
 have hjn : j < ks.length := (List.getElem?_eq_some_iff.1 hk).1
 have hlen : es.toList.length = ks.length := by
  have := congrArg List.length q7
  simpa using this
 have hje : j < es.toList.length := by omega
 have hb : (es.toList[j]).born = j := by
  have h1 : (es.toList.map (·.born))[j]? = some (es.toList[j]).born := by rw [List.getElem?_map, List.getElem?_eq_getElem hje]; rfl
  rw [q7, List.getElem?_range hjn] at h1
  exact (Option.some.inj h1).symm
 have hb0 : es.toList[j]? = some es.toList[j] := List.getElem?_eq_getElem hje
 generalize es.toList[j] = e at hb hb0
 subst hb
 have hk' : ks[e.born]? = some e.key := by rw [← q5, List.getElem?_map, hb0]; rfl
 rw [hk'] at hk
 cases hk
 obtain ⟨v', hv1, hv2⟩ := vals_get q6 hb0
 rw [hv1] at hv
 cases hv
 have hrun := run_entry_at (P := P) w L.b Lm.b s sn.toArray es _ e (by rw [c3]; simp) q4 (List.mem_of_getElem? hb0) (by rw [q7]; exact List.nodup_range)
 refine SOK.same hr hrun ?_
 simp only [VR, VRs]
 exact ⟨_, rfl, _, _, rfl, rfl, _, _, rfl, hv2, rfl⟩
end
end Go.Abs
