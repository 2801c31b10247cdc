/- Part 3 of the texts that lead to stropheStanzasCard_holds. No condition. -/
import Derived.Test.YteoeioodocjbiaaGreatDoorH2
set_option linter.unusedSimpArgs false
set_option linter.unusedVariables false
set_option linter.unnecessarySimpa false
namespace Go.Abs
open Go
theorem set_then {α : Type} (l : List α) (n : Nat) (v : α) (vs : List α) (h : n < l.length) : (l.set n v).take (n + 1) ++ vs ++ (l.set n v).drop (n + 1 + vs.length) = l.take n ++ (v :: vs) ++ l.drop (n + (vs.length + 1)) := by
  have e1 : (l.set n v).take (n + 1) = l.take n ++ [v] := by
    apply List.ext_getElem?
    intro k
    simp only [List.getElem?_take, List.getElem?_set, List.getElem?_append, List.length_take]
    rcases Nat.lt_trichotomy k n with hk | hk | hk
    · rw [if_pos (by omega), if_neg (by omega), if_pos (by omega), if_pos hk]
    · subst hk
      rw [if_pos (by omega), if_pos rfl, if_pos h, if_neg (by omega)]
      rw [show k - min k l.length = 0 by omega]
      rfl
    · rw [if_neg (by omega), if_neg (by omega)]
      rw [List.getElem?_eq_none (by simp; omega)]
  have e2 : (l.set n v).drop (n + 1 + vs.length) = l.drop (n + 1 + vs.length) := by
    apply List.ext_getElem?
    intro k
    simp only [List.getElem?_drop, List.getElem?_set]
    rw [if_neg (by omega)]
  rw [e1, e2]
  simp only [List.append_assoc, List.cons_append, List.nil_append]
  rw [show n + 1 + vs.length = n + (vs.length + 1) by omega]
theorem foldl_set (off : Nat) : ∀ (vs : List Value) (k : Nat) (cells : Array Value), off + k + vs.length ≤ cells.size →
    ((vs.zipIdx k).foldl (fun (cs : Array Value) (x : Value × Nat) => cs.setIfInBounds (off + x.2) x.1) cells).toList = cells.toList.take (off + k) ++ vs ++ cells.toList.drop (off + k + vs.length)
  | [], k, cells, _ => by simp
  | v :: vs, k, cells, h => by
    simp only [List.zipIdx_cons, List.foldl_cons]
    rw [foldl_set off vs (k + 1) _ (by simp at h ⊢; omega)]
    rw [Array.toList_setIfInBounds]
    rw [show off + (k + 1) = off + k + 1 by omega]
    rw [set_then _ _ _ _ (by rw [Array.length_toList]; simp at h; omega)]
    rfl
section
variable {P : Program} {I : Nat → Prop} {m : List Loc} {H : List AO} {w : World}
theorem fill_ok {place : Nat → Option (Nat × Nat)} : ∀ (ps : List (Nat × AV)) (qs : List (Nat × Value)) {cs cs' : List AV} {xs : Array Value}, afill place cs ps = some cs' → VRs I m w cs xs.toList →
    ps.map (·.1) = qs.map (·.1) → VRs I m w (ps.map (·.2)) (qs.map (·.2)) → ∃ xs', Instr.fill place xs qs = some xs' ∧ VRs I m w cs' xs'.toList
  | [], qs, cs, cs', xs, h, hv, h1, h2 => by
    simp only [afill] at h
    injection h with h; subst h
    have : qs = [] := by simpa using h1.symm
    subst this
    exact ⟨xs, rfl, hv⟩
  | (i, v) :: ps, qs, cs, cs', xs, h, hv, h1, h2 => by
    cases qs with
    | nil => simp at h1
    | cons q qs =>
      obtain ⟨j, x⟩ := q
      simp only [List.map_cons, List.cons.injEq] at h1
      obtain ⟨rfl, h1⟩ := h1
      simp only [List.map_cons, VRs] at h2
      obtain ⟨x', zs, e, hx, h2⟩ := h2
      obtain ⟨rfl, rfl⟩ := List.cons.inj e
      simp only [afill] at h
      split at h
      · cases h
      · rename_i off size hpl
        split at h
        · rename_i hc
          have hf := VRs.flat hx hc.2.1
          have hl := hf.len
          have hl2 : x.cells.size = (flat v).length := by rw [← hl, Array.length_toList]
          have hxs : xs.size = cs.length := by rw [← hv.len, Array.length_toList]
          have hset := hv.setRange hf off
          have e1 : (x.cells.zipIdx.foldl (fun (cs : Array Value) (x : Value × Nat) => cs.setIfInBounds (off + x.2) x.1) xs).toList = xs.toList.take off ++ x.cells.toList ++ xs.toList.drop (off + x.cells.toList.length) := by
            rw [← Array.foldl_toList, Array.toList_zipIdx]
            have := foldl_set off x.cells.toList 0 xs (by rw [Array.length_toList]; omega)
            simpa using this
          obtain ⟨xs', h3, h4⟩ := fill_ok (xs := x.cells.zipIdx.foldl (fun (cs : Array Value) (x : Value × Nat) => cs.setIfInBounds (off + x.2) x.1) xs) ps qs h (by rw [e1]; exact hset) h1 h2
          refine ⟨xs', ?_, h4⟩
          simp only [Instr.fill, hpl]
          rw [if_neg (by rw [hl2]; simp; omega)]
          exact h3
        · cases h
theorem parts_ok {g : List AV} {a : Act} (h : VRs I m w g a.tmps.toList) (parts : Array (Nat × Operand)) :
    (parts.toList.map fun p => (p.1, ev g p.2)).map (·.1) = (parts.map fun (i, x) => (i, a.eval x)).toList.map (·.1) ∧
    VRs I m w ((parts.toList.map fun p => (p.1, ev g p.2)).map (·.2)) ((parts.map fun (i, x) => (i, a.eval x)).toList.map (·.2)) := by
  rw [Array.toList_map]
  generalize parts.toList = l
  induction l with
  | nil => simp [VRs]
  | cons p l ih =>
    obtain ⟨i, x⟩ := p
    simp only [List.map_cons, VRs]
    exact ⟨by rw [ih.1], _, _, rfl, VR.ev h x, ih.2⟩
theorem evs_ok {g : List AV} {a : Act} (h : VRs I m w g a.tmps.toList) : ∀ (xs : List Operand), VRs I m w (xs.map (ev g)) (xs.map a.eval)
  | [] => by simp [VRs]
  | x :: xs => by simp only [List.map_cons, VRs]; exact ⟨_, _, rfl, VR.ev h x, evs_ok h xs⟩
theorem run_mapM_fields : ∀ (fs : List Field), (∀ f ∈ fs, (ti P f.type).isSome = true) → (fs.mapM fun f => do let s ← sizeOf f.type; pure (f.offset, s) : Sem (List (Nat × Nat))).run P w = .ok (fs.map fun f => (f.offset, ((ti P f.type).map (·.size)).getD 0)) w
  | [], _ => by simp
  | f :: fs, h => by
    have h1 := h f (List.mem_cons_self ..)
    obtain ⟨i, hi⟩ := Option.isSome_iff_exists.1 h1
    have ih := run_mapM_fields fs fun f hf => h f (List.mem_cons_of_mem _ hf)
    simp only [List.mapM_cons, Sem.run_bind, run_sizeOf' hi, Result.andThen_ok, Sem.run_pure, ih, hi, List.map_cons]
    rfl
theorem SOK.build_struct (hr : HR I m H w) {t : TypeId} {fs : Array Field} {sz bt : Nat} {z : List Value} (hi : ti P t = some ⟨.struct fs, sz, bt, z⟩) (hf : (fs.toList.all fun f => (ti P f.type).isSome) = true) {ps : List (Nat × AV)} {qs : Array (Nat × Value)}
    {cs : List AV} (h : afill (fieldPlaces P fs) (z.map .v) ps = some cs) (h1 : ps.map (·.1) = qs.toList.map (·.1)) (h2 : VRs I m w (ps.map (·.2)) (qs.toList.map (·.2))) :
    SOK P I m H w (Instr.build t qs) (.ag cs) H := by
  obtain ⟨zv, hz, hz1, hz2⟩ := run_zeroValue' (w := w) hi
  have hall : ∀ f ∈ fs.toList, (ti P f.type).isSome = true := fun f hff => List.all_eq_true.1 hf f hff
  have hpl : (fun i => (fs.map fun f => (f.offset, ((ti P f.type).map (·.size)).getD 0))[i]?) = fieldPlaces P fs := by
    funext i
    simp only [fieldPlaces, Array.getElem?_map]
    cases hfi : fs[i]? with
    | none => simp
    | some f =>
      obtain ⟨j, hj⟩ := Option.isSome_iff_exists.1 (hall f (by have := Array.mem_of_getElem? hfi; simpa using this))
      simp [hj]
  obtain ⟨xs', h3, h4⟩ := fill_ok ps qs.toList (xs := zv.cells) h (by rw [hz1]; exact VRs.map_v z) h1 h2
  refine SOK.same hr (y := .agg xs') ?_ (by simp only [VR]; exact ⟨xs', rfl, h4⟩)
  rw [← hpl] at h3
  have hm := run_mapM_fields (P := P) (w := w) fs.toList hall
  simp only [Instr.build, Sem.run_bind, hz, Result.andThen_ok, run_underlying' hi, Array.mapM_eq_mapM_toList, Sem.run_map, hm]
  have e2 : (List.map (fun f : Field => (f.offset, ((ti P f.type).map (·.size)).getD 0)) fs.toList).toArray = fs.map fun f => (f.offset, ((ti P f.type).map (·.size)).getD 0) := by
    rw [← Array.toList_map]
  rw [e2, h3]
  rfl
theorem SOK.build_array (hr : HR I m H w) {t e : TypeId} {n sz bt : Nat} {z : List Value} (hi : ti P t = some ⟨.array n e, sz, bt, z⟩) {te : TI} (he : ti P e = some te) {ps : List (Nat × AV)} {qs : Array (Nat × Value)}
    {cs : List AV} (h : afill (fun i => some (i * te.size, te.size)) (z.map .v) ps = some cs) (h1 : ps.map (·.1) = qs.toList.map (·.1)) (h2 : VRs I m w (ps.map (·.2)) (qs.toList.map (·.2))) :
    SOK P I m H w (Instr.build t qs) (.ag cs) H := by
  obtain ⟨zv, hz, hz1, hz2⟩ := run_zeroValue' (w := w) hi
  obtain ⟨xs', h3, h4⟩ := fill_ok ps qs.toList (xs := zv.cells) h (by rw [hz1]; exact VRs.map_v z) h1 h2
  refine SOK.same hr (y := .agg xs') ?_ (by simp only [VR]; exact ⟨xs', rfl, h4⟩)
  simp only [Instr.build, Sem.run_bind, hz, Result.andThen_ok, run_underlying' hi, run_sizeOf' he, h3, Sem.run_pure]
theorem zeros_ok (z : Array Value) (hz : z.size ≠ 0) : ∀ n : Nat, ((Array.range (n * z.size)).map fun i => z[i % z.size]!).toList = (List.replicate n z.toList).flatten := by
  intro n
  induction n with
  | zero => simp
  | succ n ih =>
    rw [List.replicate_succ', List.flatten_append, ← ih]
    simp only [Array.toList_map, Array.toList_range, List.flatten_cons, List.flatten_nil, List.append_nil]
    rw [Nat.succ_mul, List.range_add, List.map_append, List.map_map]
    congr 1
    apply List.ext_getElem?
    intro k
    simp only [List.getElem?_map, List.getElem?_range, Function.comp]
    by_cases hk : k < z.size
    · rw [List.getElem?_range hk]
      simp only [Option.map_some]
      show some (z[(n * z.size + k) % z.size]!) = _
      rw [Nat.mul_comm n z.size, Nat.mul_add_mod, Nat.mod_eq_of_lt hk]
      simp [hk]
    · rw [List.getElem?_eq_none (by simp; omega)]
      simp
      omega
theorem VRs.flatten_v (n : Nat) (z : List Value) : VRs I m w ((List.replicate n (z.map AV.v)).flatten) ((List.replicate n z).flatten) := by
  induction n with
  | zero => simp [VRs]
  | succ n ih => simp only [List.replicate_succ, List.flatten_cons]; exact (VRs.map_v z).append ih
theorem SOK.buildSlice (hr : HR I m H w) {t e : TypeId} {d : TI} (hi : ti P t = some d) (hd : d.desc = .slice e) {te : TI} (he : ti P e = some te) {len : Nat} (hl : len * te.size ≤ 16777216) (hs : te.size ≠ 0) {ps : List (Nat × AV)} {qs : Array (Nat × Value)}
    {cs : List AV} (h : afill (fun i => some (i * te.size, te.size)) ((List.replicate len (te.zero.map AV.v)).flatten) ps = some cs) (h1 : ps.map (·.1) = qs.toList.map (·.1)) (h2 : VRs I m w (ps.map (·.2)) (qs.toList.map (·.2))) (hone : cs.all (·.one) = true) :
    SOK P I m H w (Instr.buildSlice t len qs) (.sl H.length 0 len) (H ++ [.cells te.size cs]) := by
  obtain ⟨zv, hz, hz1, hz2⟩ := run_zeroValue' (w := w) he
  have hnz : zv.cells.size ≠ 0 := by omega
  have hz' := zeros_ok zv.cells hnz len
  rw [hz2, hz1] at hz'
  by_cases h0 : len * te.size = 0
  · have hlen : len = 0 := (Nat.mul_eq_zero.1 h0).resolve_right hs
    subst hlen
    obtain ⟨xs', h3, h4⟩ := fill_ok ps qs.toList (xs := #[]) h (by simp [VRs]) h1 h2
    obtain ⟨h5, h6⟩ := hr.newCells (w' := { w with heap := w.heap.push (.cells xs' e) }) te.size h4 hone (rest := []) (arr := xs') (by simp) (E := e) (fz := (0, 0)) (by intro j _ h; simp at h) rfl rfl rfl rfl
    have hxs : xs'.size = 0 := by
      have := (fill_size ps qs.toList h3)
      simpa using this
    refine ⟨.slice (some ⟨w.heap.size, 0, none⟩) 0 0, _, _, ?_, ?_, h5, h6⟩
    · simp only [Instr.buildSlice, Sem.run_bind, run_underlying' hi, hd, Result.andThen_ok, run_sizeOf' he, Nat.zero_mul, Sem.run_ite]
      simp [newRow]
      rw [show Array.map (fun _ : Nat => (default : Value)) (Array.range 0) = #[] by simp [Array.range], h3]
      simp
    · simp only [VR]
      exact ⟨_, _, 0, by rw [← hr.len]; exact last_lk _ hs, by simp [hxs], by omega, .inl rfl, rfl⟩
  · obtain ⟨xs', h3, h4⟩ := fill_ok ps qs.toList (xs := (Array.range (len * te.size)).map fun i => zv.cells[i % zv.cells.size]!) h (by rw [hz2, hz']; exact VRs.flatten_v len te.zero) h1 h2
    obtain ⟨h5, h6⟩ := hr.newCells (w' := { w with heap := w.heap.push (.cells xs' e) }) te.size h4 hone (rest := []) (arr := xs') (by simp) (E := e) (fz := (0, 0)) (by intro j _ h; simp at h) rfl rfl rfl rfl
    have hxs : xs'.size = len * te.size := by
      have := (fill_size ps qs.toList h3)
      simpa using this
    refine ⟨.slice (some ⟨w.heap.size, 0, none⟩) len len, _, _, ?_, ?_, h5, h6⟩
    · simp only [Instr.buildSlice, Sem.run_bind, run_underlying' hi, hd, Result.andThen_ok, run_sizeOf' he, Sem.run_ite]
      rw [if_neg (by omega), if_neg h0]
      simp [hz, h3, newRow]
    · simp only [VR]
      exact ⟨_, _, len, by rw [← hr.len]; exact last_lk _ hs, by simp [hxs], by omega, .inr rfl, rfl⟩
where
  fill_size {place : Nat → Option (Nat × Nat)} : ∀ (ps : List (Nat × AV)) (qs : List (Nat × Value)) {xs xs' : Array Value}, Instr.fill place xs qs = some xs' → xs'.size = xs.size
  | ps, [], xs, xs', h => by simp only [Instr.fill] at h; injection h with h; rw [h]
  | ps, (i, v) :: qs, xs, xs', h => by
    simp only [Instr.fill] at h
    split at h
    · cases h
    · split at h
      · cases h
      · rw [fill_size ps qs h]
        have : ∀ (l : List (Value × Nat)) (f : Nat → Nat) (a : Array Value), (l.foldl (fun (cs : Array Value) (x : Value × Nat) => cs.setIfInBounds (f x.2) x.1) a).size = a.size := by
          intro l f
          induction l with
          | nil => intro a; rfl
          | cons x l ih => intro a; rw [List.foldl_cons, ih]; simp
        rw [← Array.foldl_toList]
        exact this _ _ _
end
end Go.Abs
