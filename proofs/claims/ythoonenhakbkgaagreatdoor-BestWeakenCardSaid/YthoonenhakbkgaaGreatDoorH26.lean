/- Part 26 of the texts that lead to bestWeakenCard_holds. No condition. -/
import Derived.Test.YthoonenhakbkgaaGreatDoorH25
set_option linter.unusedSimpArgs false
set_option linter.unusedVariables false
set_option linter.unnecessarySimpa false
namespace Go.Abs
open Go
abbrev Rd := Nat × Nat × List AV
noncomputable def rdO (a : Nat) (vs : List AV) : Option AO → Bool
  | some (.cells _ cs) => Nat.ble (a + vs.length) cs.length && beqVs ((cs.drop a).take vs.length) vs
  | _ => false
noncomputable def rdI (H : List AO) (r : Rd) : Bool := rdO r.2.1 r.2.2 H[r.1]?
structure Fg extends Fo where
  G : List Rd
def Fg.nil : Fg := ⟨⟨[], [], []⟩, []⟩
noncomputable def gOne (An : List (List Nat)) (i : Nat) (r : Rd) (j : Nat) (f : Fg) : Bool := Nat.beq i j || memN i (An.getD j []) || f.E.all fun p => !(Nat.beq p.1 r.1) || rdO r.2.1 r.2.2 (some p.2)
noncomputable def gOK (An : List (List Nat)) (acc : List Fg) : Bool := acc.zipIdx.all fun (f, i) => f.G.all fun r =>
  (acc.zipIdx.all fun (f', j) => gOne An i r j f') &&
  ((acc.zipIdx.all fun (f', j) => !decide (j < i) || !(memN r.1 (f'.E.map (·.1)))) || (acc.zipIdx.any fun (f', j) => decide (j < i) && memN r.1 (f'.E.map (·.1)) && memN j (An.getD i [])))
noncomputable def okG (k N : Nat) (An : List (List Nat)) (acc : List Fg) : Bool := okA k N An (acc.map (·.toFo)) && gOK An acc
theorem gOK_spec {An : List (List Nat)} {acc : List Fg} (h : gOK An acc = true) : ∀ (i : Nat) f, acc[i]? = some f → ∀ r ∈ f.G,
    (∀ (j : Nat) f', acc[j]? = some f' → j ≠ i → i ∉ An.getD j [] → ∀ p ∈ f'.E, p.1 = r.1 → rdO r.2.1 r.2.2 (some p.2) = true) ∧
    ((∀ (j : Nat) f', acc[j]? = some f' → j < i → r.1 ∉ f'.E.map (·.1)) ∨ ∃ (j : Nat) (f' : Fg), acc[j]? = some f' ∧ j < i ∧ r.1 ∈ f'.E.map (·.1) ∧ j ∈ An.getD i []) := by
  intro i f hi r hr
  have mem : ∀ (i : Nat) f, acc[i]? = some f → (f, i) ∈ acc.zipIdx := fun i f hi => by rw [List.mem_zipIdx_iff_getElem?]; exact hi
  have h1 := List.all_eq_true.1 (List.all_eq_true.1 h _ (mem i f hi)) r hr
  dsimp only at h1
  rw [Bool.and_eq_true, Bool.or_eq_true] at h1
  obtain ⟨h2, h3⟩ := h1
  refine ⟨fun j f' hj hji hA p hp hpr => ?_, ?_⟩
  · have h4 := List.all_eq_true.1 h2 _ (mem j f' hj)
    dsimp only [gOne] at h4
    rw [Bool.or_eq_true, Bool.or_eq_true] at h4
    rcases h4 with (h4 | h4) | h4
    · exact (hji (Nat.eq_of_beq_eq_true h4).symm).elim
    · exact (hA (memN_spec.1 h4)).elim
    · have h5 := List.all_eq_true.1 h4 p hp
      rw [hpr] at h5
      simpa using h5
  · rcases h3 with h3 | h3
    · refine .inl fun j f' hj hlt hm => ?_
      have h4 := List.all_eq_true.1 h3 _ (mem j f' hj)
      dsimp only at h4
      rw [memN_spec.2 hm] at h4
      simp at h4
      omega
    · obtain ⟨⟨f', j⟩, hm, h4⟩ := List.any_eq_true.1 h3
      rw [List.mem_zipIdx_iff_getElem?] at hm
      dsimp only at h4 hm
      rw [Bool.and_eq_true, Bool.and_eq_true] at h4
      exact .inr ⟨j, f', hm, by simpa using h4.1.1, memN_spec.1 h4.1.2, memN_spec.1 h4.2⟩
theorem apE_mem {id : Nat} : ∀ (E : List (Nat × AO)) (H : List AO), id ∈ E.map (·.1) → id < H.length → ∃ o, (id, o) ∈ E ∧ (apE E H)[id]? = some o
  | [], H, h, _ => by cases h
  | p :: E, H, h, hl => by
    rw [apE_cons]
    by_cases hm : id ∈ E.map (·.1)
    · obtain ⟨o, h1, h2⟩ := apE_mem E (H.set p.1 p.2) hm (by simpa using hl)
      exact ⟨o, List.mem_cons_of_mem _ h1, h2⟩
    · have hp : p.1 = id := by
        rcases List.mem_cons.1 h with h | h
        · exact h.symm
        · exact (hm h).elim
      refine ⟨p.2, by rw [← hp]; exact List.mem_cons_self .., ?_⟩
      rw [apE_other _ _ hm, ← hp]
      simp [hp, hl]
theorem hof_last {id : Nat} : ∀ (Es : List (List (Nat × AO))) (H : List AO) (n : Nat) (D : Nat → Bool), id < H.length →
    (∃ j E o, Es[j]? = some E ∧ D (n + j) = true ∧ (id, o) ∈ E ∧ (hof H Es n D)[id]? = some o) ∨ ((∀ (j : Nat) E, Es[j]? = some E → D (n + j) = true → id ∉ E.map (·.1)) ∧ (hof H Es n D)[id]? = H[id]?)
  | [], H, n, D, _ => .inr ⟨fun j E h => by simp at h, rfl⟩
  | E :: Es, H, n, D, hl => by
    have hl1 : id < (if D n then apE E H else H).length := by split <;> simp only [apE_len, hl]
    simp only [hof]
    rcases hof_last Es _ (n + 1) D hl1 with ⟨j, E', o, h1, h2, h3, h4⟩ | ⟨h1, h2⟩
    · exact .inl ⟨j + 1, E', o, by simpa using h1, by rw [show n + (j + 1) = n + 1 + j by omega]; exact h2, h3, h4⟩
    · by_cases hd : D n = true ∧ id ∈ E.map (·.1)
      · obtain ⟨o, h3, h4⟩ := apE_mem E H hd.2 hl
        exact .inl ⟨0, E, o, rfl, hd.1, h3, by rw [h2, if_pos hd.1]; exact h4⟩
      · refine .inr ⟨fun j E' hj hD => ?_, ?_⟩
        · cases j with
          | zero => simp at hj; subst hj; exact fun hm => hd ⟨hD, hm⟩
          | succ j => exact h1 j E' (by simpa using hj) (by rw [show n + 1 + j = n + (j + 1) by omega]; exact hD)
        · rw [h2]
          split
          · rename_i hD; exact apE_other _ _ fun hm => hd ⟨hD, hm⟩
          · rfl
section
variable {P : Program} {k N : Nat}
def LLg [DSt] (P : Program) (N : Nat) (op : Op) (g : List AV) (H : List AO) (f : Fg) (v : AV) : Prop :=
  (∀ r ∈ f.G, rdI H r = true) ∧ ∀ (H2 : List AO) (g' : List AV), H2.length = N → (∀ id ∈ f.F, H2[id]? = H[id]?) → (∀ r ∈ f.G, rdI H2 r = true) → (∀ x ∈ op.operands, ev g' x = ev g x) → OpD P op g' H2 f.ns v (apE f.E H2)
theorem LLg_of {D : DSt} {op : Op} {g : List AV} {H : List AO} {f : Fo} {v : AV} (h : LL P N op g H f v) : LLg P N op g H ⟨f, []⟩ v := ⟨fun r hr => (nomatch hr), fun H2 g' h1 h2 _ h4 => h H2 g' h1 h2 h4⟩
def DWg [DSt] (P : Program) (k N : Nat) (An : List (List Nat)) (Q : List AV → List AO → Prop) : List LOp → List AV → List AO → List Fg → Prop
  | [], g, H, acc => okG k N An acc.reverse = true ∧ Q g H
  | ⟨dst, op, none⟩ :: os, g, H, acc => ∃ f v, LLg P N op g H f v ∧ DWg P k N An Q os (put g dst v) (apE f.E H) (f :: acc)
  | ⟨dst, op, some (d, want)⟩ :: os, g, H, acc => match g[d]? with
    | some (.v (.bool b)) => if b = want then ∃ f v, LLg P N op g H f v ∧ DWg P k N An Q os (put g dst v) (apE f.E H) (f :: acc) else DWg P k N An Q os (put g dst (.v undef)) H (Fg.nil :: acc)
    | some (.v (.tuple _)) => DWg P k N An Q os (put g dst (.v undef)) H (Fg.nil :: acc)
    | _ => False
def LGg [DSt] (P : Program) (N : Nat) (ops : Array Oper) (o : Oper) (g : List AV) (H : List AO) (f : Fg) (v : AV) : Prop :=
  (wantA ops g o = some true ∧ LLg P N o.op g H f v) ∨ (wantA ops g o = some false ∧ f = Fg.nil ∧ v = .v undef)
theorem DWg_vals [DSt] {ops : Array Oper} {An : List (List Nat)} {Q : List AV → List AO → Prop} : ∀ (os : List Oper) (ls : List LOp) (i : Nat) (g : List AV) (H : List AO) (acc : List Fg), lowOps ops os = some ls → DWg P k N An Q ls g H acc →
    ∃ (vs : List AV) (fs : List Fg), vs.length = os.length ∧ fs.length = os.length ∧ okG k N An (acc.reverse ++ fs) = true ∧
      (∀ (j : Nat) o v f, os[j]? = some o → vs[j]? = some v → fs[j]? = some f → LGg P N ops o (gof g os vs i (fun t => decide (t < i + j))) (hof H (fs.map (fun f => f.E)) i (fun t => decide (t < i + j))) f v) ∧
      Q (gof g os vs i (fun t => decide (t < i + os.length))) (hof H (fs.map (fun f => f.E)) i (fun t => decide (t < i + os.length)))
  | [], ls, i, g, H, acc, hl, h => by
    simp only [lowOps] at hl; injection hl with hl; subst hl
    simp only [DWg] at h
    exact ⟨[], [], rfl, rfl, by simpa using h.1, fun j o v f h1 => by simp at h1, by simpa [gof, hof] using h.2⟩
  | o :: os, ls, i, g, H, acc, hl, h => by
    simp only [lowOps] at hl
    split at hl
    case h_2 => cases hl
    rename_i l ls' h1 h2
    injection hl with hl; subst hl
    have main : ∀ f v, LGg P N ops o g H f v → DWg P k N An Q ls' (put g o.dst v) (apE f.E H) (f :: acc) → ∃ (vs : List AV) (fs : List Fg), vs.length = (o :: os).length ∧ fs.length = (o :: os).length ∧ okG k N An (acc.reverse ++ fs) = true ∧
        (∀ (j : Nat) o' v f, (o :: os)[j]? = some o' → vs[j]? = some v → fs[j]? = some f → LGg P N ops o' (gof g (o :: os) vs i (fun t => decide (t < i + j))) (hof H (fs.map (fun f => f.E)) i (fun t => decide (t < i + j))) f v) ∧
        Q (gof g (o :: os) vs i (fun t => decide (t < i + (o :: os).length))) (hof H (fs.map (fun f => f.E)) i (fun t => decide (t < i + (o :: os).length))) := fun f v hg hd => by
      obtain ⟨vs, fs, q1, q2, q3, q4, q5⟩ := DWg_vals os ls' (i + 1) _ _ _ h2 hd
      refine ⟨v :: vs, f :: fs, by simp [q1], by simp [q2], by simpa using q3, fun j o' v' f' k1 k2 k3 => ?_, ?_⟩
      · cases j with
        | zero =>
          simp at k1 k2 k3
          subst k1; subst k2; subst k3
          simp only [Nat.add_zero]
          have e1 : gof g (o :: os) (v :: vs) i (fun t => decide (t < i)) = g := gof_all fun k => by simp
          have e2 : hof H ((f :: fs).map (fun f => f.E)) i (fun t => decide (t < i)) = H := by
            have : ∀ (Es : List (List (Nat × AO))) (n : Nat), i ≤ n → hof H Es n (fun t => decide (t < i)) = H := by
              intro Es
              induction Es with
              | nil => intro n _; rfl
              | cons E Es ih => intro n hn; simp only [hof]; rw [if_neg (by simp; omega)]; exact ih _ (by omega)
            exact this _ _ (Nat.le_refl _)
          rw [e1, e2]
          exact hg
        | succ j =>
          have := q4 j o' v' f' (by simpa using k1) (by simpa using k2) (by simpa using k3)
          simp only [gof, List.map_cons, hof]
          rw [if_pos (by simp), if_pos (by simp)]
          have e : i + (j + 1) = i + 1 + j := by omega
          simp only [e]
          exact this
      · simp only [gof, List.map_cons, hof, List.length_cons]
        rw [if_pos (by simp), if_pos (by simp)]
        have e : i + (os.length + 1) = i + 1 + os.length := by omega
        simp only [e]
        exact q5
    unfold lowOp at h1
    split at h1
    · rename_i hgd
      injection h1 with h1; subst h1
      simp only [DWg] at h
      obtain ⟨f, v, h3, h4⟩ := h
      exact main f v (.inl ⟨by simp only [wantA, hgd], h3⟩) h4
    · rename_i j want hgd
      split at h1
      · rename_i d hd
        injection h1 with h1; subst h1
        simp only [DWg] at h
        split at h
        · rename_i b hb
          have hw : wantA ops g o = some (b == want) := by simp only [wantA, hgd]; erw [hd]; simp only [hb]
          split at h
          · rename_i hbw
            obtain ⟨f, v, h3, h4⟩ := h
            exact main f v (.inl ⟨by rw [hw, hbw]; simp, h3⟩) h4
          · rename_i hbw
            exact main Fg.nil _ (.inr ⟨by rw [hw]; simpa using hbw, rfl, rfl⟩) h
        · rename_i t ht
          have hw : wantA ops g o = some false := by simp only [wantA, hgd]; erw [hd]; simp only [ht]
          exact main Fg.nil _ (.inr ⟨hw, rfl, rfl⟩) h
        · exact h.elim
      · cases h1
theorem BW_drawnG [DSt] {id : Nat} {ops : Array Oper} {ls : List LOp} {An : List (List Nat)} {Q : Exit → List AV → List AO → Prop} {g : List AV} {H : List AO} (hlow : lowOps ops ops.toList = some ls) (hm : P.follows .mixedOrders = true) (hlex : lexOK ops.toList = true) (han : ancOK ops.toList An = true)
    (s : Nat) (hk : k ≤ H.length) (h : DWg P H.length (H.length + s) An (Q .normal) ls g (H ++ List.replicate s .dead) []) : BW P k (.region id ops true) Q g H := by
  intro I m a w hr hg hd
  obtain ⟨vs, fs, hvl, hfl, hok, hstep, hfin⟩ := DWg_vals ops.toList ls 0 g _ [] hlow h
  simp only [List.reverse_nil, List.nil_append, Nat.zero_add, Array.length_toList] at hok hstep hfin hvl hfl
  obtain ⟨hw1, hw2⟩ := lexOK_spec hlex
  unfold okG at hok
  rw [Bool.and_eq_true] at hok
  obtain ⟨hok1, hok2⟩ := hok
  have hsp := okA_spec hok1
  have hmap : ∀ (i : Nat) (f : Fg), fs[i]? = some f → (fs.map (·.toFo))[i]? = some f.toFo := fun i f h => by simp [h]
  have hA1 := fun (i : Nat) (f : Fg) (hf : fs[i]? = some f) => hsp.1 i f.toFo (hmap i f hf)
  have hA2 := fun (i j : Nat) (f f' : Fg) (hf : fs[i]? = some f) (hf' : fs[j]? = some f') => hsp.2 i j f.toFo f'.toFo (hmap i f hf) (hmap j f' hf')
  have hGs := gOK_spec hok2
  generalize hH0 : H ++ List.replicate s AO.dead = H0 at *
  have hml := hr.len
  let m0 : List Loc := m ++ List.replicate s ⟨0, 0, 0, 0⟩
  have hH0l : H0.length = H.length + s := by rw [← hH0]; simp
  have hm0 : ∀ (j : Nat) L, lk m j = some L → lk m0 j = some L := fun j L hj => lk_pre hj
  have hm0r : ∀ (j : Nat) L, j < H.length → m0[j]? = some L → m[j]? = some L := fun j L hj hL => by
    rw [List.getElem?_append_left (by omega)] at hL; exact hL
  have hfree : ∀ j, H.length ≤ j → lk m0 j = none := fun j hj => by
    unfold lk
    rw [List.getElem?_append_right (by omega), List.getElem?_replicate]
    by_cases h : j - m.length < s
    · simp [h]
    · simp [h]
  have halv : ∀ (j : Nat) o L, H0[j]? = some o → m0[j]? = some L → o.alive = true → H[j]? = some o ∧ m[j]? = some L := fun j o L h1 h2 h3 => by
    rw [← hH0] at h1
    by_cases hj : j < H.length
    · rw [List.getElem?_append_left hj] at h1
      exact ⟨h1, hm0r j L hj h2⟩
    · rw [List.getElem?_append_right (by omega), List.getElem?_replicate] at h1
      split at h1
      · injection h1 with h1; subst h1; cases h3
      · cases h1
  have hown0 : ∀ b, Own H0 m0 b → Own H m b := fun b ⟨j, o, L, q1, q2, q3, q4, q5⟩ => by
    obtain ⟨r1, r2⟩ := halv j o L q1 q3 q2
    exact ⟨j, o, L, r1, q2, r2, q4, q5⟩
  have hr0 : HR I m0 H0 w := by
    refine ⟨by simp [m0, hH0l, hml], fun j o L h1 h2 => ?_, fun i j oi oj Li Lj hij hi hj ai aj mi mj => ?_, fun b hb hO => hr.imm b hb (hown0 b hO), hr.ilt, hr.gl⟩
    · by_cases hj : j < H.length
      · rw [← hH0, List.getElem?_append_left hj] at h1
        exact OR.le hm0 (fun _ h => h) (fun _ _ => rfl) (fun _ _ => rfl) (hr.ob j o L h1 (hm0r j L hj h2))
      · rw [← hH0, List.getElem?_append_right (by omega), List.getElem?_replicate] at h1
        split at h1
        · injection h1 with h1; subst h1; simp only [OR]
        · cases h1
    · obtain ⟨q1, q2⟩ := halv i oi Li hi mi ai
      obtain ⟨q3, q4⟩ := halv j oj Lj hj mj aj
      exact hr.inj i j oi oj Li Lj hij q1 q3 ai aj q2 q4
  let Es := fs.map (fun f => f.E)
  let S : (Nat → Bool) → Act → World → Prop := fun D a' w' => ∃ I' m', HR I' m' (hof H0 Es 0 D) w' ∧ VRs I' m' w' (gof g ops.toList vs 0 D) a'.tmps.toList ∧ a'.defers = DSt.l ∧ Ex I (Own H m) w I' (Own (hof H0 Es 0 D) m') w' ∧ (∀ id, id < H.length → m'[id]? = m[id]?) ∧ ∀ (i : Nat) f, fs[i]? = some f → D i = false → ∀ x ∈ f.ns, lk m' x = none
  refine draw_any hm (fun i o ho j hj => hw1 i o (by simpa using ho) j hj) S ?_ ?_ ?_
  · refine ⟨I, m0, ?_, ?_, hd, ⟨rfl, rfl, rfl, Nat.le_refl _, fun _ _ _ => rfl, fun _ h => h, fun b h => .inl ?_, fun _ h => .inl h⟩, fun id hid => by rw [List.getElem?_append_left (by omega)], fun i f hf _ x hx => hfree x (hA1 i f hf x hx).1⟩
    · have e : ∀ (Es : List (List (Nat × AO))) (n : Nat), hof H0 Es n (fun _ => false) = H0 := by
        intro Es
        induction Es with
        | nil => intro n; rfl
        | cons E Es ih => intro n; simp only [hof, Bool.false_eq_true, if_false]; exact ih _
      rw [e]
      exact HR.of_heap (w := w) (w' := { w with drawn := w.drawn + 1 }) rfl hr0
    · rw [gof_all fun k => rfl]
      exact VRs.of_heap (w := w) (w' := { w with drawn := w.drawn + 1 }) rfl (VRs.le hm0 (fun _ h => h) (fun _ _ => rfl) hg)
    · have e : ∀ (Es : List (List (Nat × AO))) (n : Nat), hof H0 Es n (fun _ => false) = H0 := by
        intro Es
        induction Es with
        | nil => intro n; rfl
        | cons E Es ih => intro n; simp only [hof, Bool.false_eq_true, if_false]; exact ih _
      rw [e] at h
      exact hown0 b h
  · rintro D a' w' i o ho hDi hwt hcl ⟨I', m', k1, k2, k3, k4, k5, k6⟩
    have hlt' : i < ops.size := (Array.getElem?_eq_some_iff.1 ho).1
    have hot : ops.toList[i]? = some o := by simpa using ho
    obtain ⟨v, hv⟩ : ∃ v, vs[i]? = some v := ⟨vs[i]'(by omega), List.getElem?_eq_getElem (by omega)⟩
    obtain ⟨f, hf⟩ : ∃ f, fs[i]? = some f := ⟨fs[i]'(by omega), List.getElem?_eq_getElem (by omega)⟩
    have hlook := gof_look (g := g) hlex hvl ho hDi hwt hcl
    have hput := gof_put (g := g) (D := D) hlex hvl ho hv
    obtain ⟨hops, hwant⟩ := looks_op hlook
    have hs := hstep i o v f hot hv hf
    have hanc := ancOK_spec han (D := D) (fun i hi o ho => hcl i hi o (by simpa using ho))
    have before : ∀ (j : Nat) f', fs[j]? = some f' → ∀ id ∈ f'.E.map (·.1), id ∈ f.F ∨ id ∈ f.E.map (·.1) → j ≠ i → D j = decide (j < i) := fun j f' hj id hid hF hne => by
      obtain ⟨q1, _⟩ := hA2 i j f f' hf hj (Ne.symm hne)
      obtain ⟨q2, q3⟩ := q1 id hid hF
      have hjl : j < ops.size := by have := (List.getElem?_eq_some_iff.1 hj).1; omega
      by_cases hlt2 : j < i
      · rw [hanc i o hot hwt j (q2 hlt2) (by simpa using hjl)]; simp [hlt2]
      · cases hh : D j with
        | false => simp [hlt2]
        | true =>
          have hjo : ops.toList[j]? = some ops[j] := by simp [hjl]
          have := hanc j ops[j] hjo (fun l hl => hcl j hh ops[j] (by simp [hjl]) l hl) i (q3 (by omega)) (by simpa using hlt')
          rw [hDi] at this; cases this
    have hEs : ∀ (j : Nat) E, Es[j]? = some E → ∃ f', fs[j]? = some f' ∧ E = f'.E := fun j E hE => by
      simp only [Es, List.getElem?_map, Option.map_eq_some_iff] at hE
      obtain ⟨f', h1, h2⟩ := hE
      exact ⟨f', h1, h2.symm⟩
    have hHi : ∀ id ∈ f.F, (hof H0 Es 0 D)[id]? = (hof H0 Es 0 (fun t => decide (t < i)))[id]? := fun id hid => by
      refine hof_congr Es H0 H0 0 D _ rfl rfl fun j E hE hm => ?_
      obtain ⟨f', h1, rfl⟩ := hEs j E hE
      rw [Nat.zero_add]
      by_cases hji : j = i
      · subst hji; rw [hDi]; simp
      · exact before j f' h1 id hm (.inl hid) hji
    have hnext : hof H0 Es 0 (Dset D i) = apE f.E (hof H0 Es 0 D) := by
      have := hof_step Es H0 0 i f.E D (by simp [Es, hf]) (by rw [Nat.zero_add]; exact hDi) fun j E' hj hE hDj id hid hid' => by
        obtain ⟨f', h1, rfl⟩ := hEs j E' hE
        have := before j f' h1 id hid' (.inr hid) (by omega)
        rw [Nat.zero_add] at hDj
        rw [hDj] at this
        simp at this; omega
      rwa [Nat.zero_add] at this
    unfold wpOp
    simp only [ho]
    rcases hs with ⟨hwa, hll⟩ | ⟨hwa, rfl, rfl⟩
    · rw [hwant] at hwa
      rw [if_pos (wantA_ok k2 hwa)]
      have hG : ∀ r ∈ f.G, rdI (hof H0 Es 0 D) r = true := fun r hr => by
        obtain ⟨gA, gB⟩ := hGs i f hf r hr
        have hpre := hll.1 r hr
        have hlt : r.1 < H0.length := by
          unfold rdI at hpre
          cases hx : (hof H0 Es 0 (fun t => decide (t < i)))[r.1]? with
          | none => rw [hx] at hpre; cases hpre
          | some o => have := (List.getElem?_eq_some_iff.1 hx).1; rw [hof_len] at this; exact this
        rcases hof_last Es H0 0 D hlt with ⟨j, E, o, q1, q2, q3, q4⟩ | ⟨q1, q2⟩
        · obtain ⟨f', hj, rfl⟩ := hEs j E q1
          rw [Nat.zero_add] at q2
          unfold rdI
          rw [q4]
          refine gA j f' hj (fun e => by subst e; rw [hDi] at q2; cases q2) (fun hm => ?_) _ q3 rfl
          have hjl : j < ops.size := by have := (List.getElem?_eq_some_iff.1 hj).1; omega
          have := hanc j ops[j] (by simp [hjl]) (fun l hl => hcl j q2 ops[j] (by simp [hjl]) l hl) i hm (by simpa using hlt')
          rw [hDi] at this; cases this
        · rcases gB with gB | ⟨j, f', hj, hji, hm, ha⟩
          · unfold rdI at hpre ⊢
            rw [q2]
            rcases hof_last Es H0 0 (fun t => decide (t < i)) hlt with ⟨j, E, o, t1, t2, t3, t4⟩ | ⟨t1, t2⟩
            · obtain ⟨f', hj, rfl⟩ := hEs j E t1
              exact (gB j f' hj (by simpa using t2) (List.mem_map.2 ⟨_, t3, rfl⟩)).elim
            · rw [t2] at hpre; exact hpre
          · have hjl : j < ops.size := by have := (List.getElem?_eq_some_iff.1 hj).1; omega
            have := hanc i o hot hwt j ha (by simpa using hjl)
            exact (q1 j f'.E (by simp [Es, hj]) (by rw [Nat.zero_add]; exact this) hm).elim
      have hop := hll.2 (hof H0 Es 0 D) (gof g ops.toList vs 0 D) (by rw [hof_len, hH0l]) hHi hG hops
      refine OWP.mono ?_ (hop I' m' a' w' o _ rfl k1 k2 k3 (fun x hx => k6 i f hf hDi x hx))
      rintro a2 w2 ⟨I2, m2, j1, j2, j3, j4, j5⟩
      rw [hput] at j2
      refine ⟨I2, m2, by rw [hnext]; exact j1, j2, j3, by rw [hnext]; exact k4.trans j4, fun id hid => ?_, fun j f' hj hDj x hx => ?_⟩
      · rw [j5 id fun h => by have := (hA1 i f hf id h).1; omega]; exact k5 id hid
      · have hji : j ≠ i := fun e => by subst e; simp [Dset] at hDj
        have hDj' : D j = false := by simpa [Dset, hji] using hDj
        have hx' : x ∉ f.ns := (hA2 j i f' f hj hf hji).2 x hx
        have := k6 j f' hj hDj' x hx
        unfold lk at this ⊢
        rw [j5 x hx']; exact this
    · rw [hwant] at hwa
      rw [if_neg (by rw [wantA_ok k2 hwa]; simp)]
      refine ⟨I', m', by rw [hnext]; exact k1, by rw [← hput]; exact put_ok k2 o.dst (by simp only [VR]), put_defers k3, by rw [hnext]; exact k4, k5, fun j f' hj hDj x hx => ?_⟩
      have hji : j ≠ i := fun e => by subst e; simp [Dset] at hDj
      exact k6 j f' hj (by simpa [Dset, hji] using hDj) x hx
  · rintro D a' w' hall ⟨I', m', k1, k2, k3, k4, k5, k6⟩
    have e1 : gof g ops.toList vs 0 D = gof g ops.toList vs 0 (fun j => decide (j < ops.size)) := gof_congr _ _ _ _ _ _ fun k hk => by
      simp only [Array.length_toList] at hk
      rw [Nat.zero_add, hall k hk]; simp [hk]
    have e2 : hof H0 Es 0 D = hof H0 Es 0 (fun j => decide (j < ops.size)) := by
      apply List.ext_getElem?
      intro t
      refine hof_congr Es H0 H0 0 _ _ rfl rfl fun k E hE _ => ?_
      have hk : k < ops.size := by
        have := (List.getElem?_eq_some_iff.1 hE).1
        simp only [Es, List.length_map] at this; omega
      rw [Nat.zero_add, hall k hk]; simp [hk]
    rw [e1] at k2
    rw [e2] at k1 k4
    exact ⟨_, _, I', m', hfin, k1, k2, k3, k4, fun i L hi hL => by rw [k5 i (by omega)]; exact hL⟩
end
theorem LLg_free [DSt] {P : Program} {N : Nat} {g : List AV} {H : List AO} {op : Op} {v : AV} (G : List Rd) (h0 : ∀ r ∈ G, rdI H r = true) (h : ∀ (H2 : List AO) (g' : List AV), (∀ r ∈ G, rdI H2 r = true) → (∀ x ∈ op.operands, ev g' x = ev g x) → aop P g' H2 op = some (v, H2)) : LLg P N op g H ⟨⟨[], [], []⟩, G⟩ v := by
  refine ⟨h0, fun H2 g' hl _ hG hops => ?_⟩
  intro I m a w o Q ho hr hg hd hv
  obtain ⟨y, w', m', h3, h4, h5, h6⟩ := op_sound (P := P) hr hg (o := o) (v := v) (H' := H2) (by rw [ho]; exact h H2 g' hG hops)
  have fin : ∃ I' m', HR I' m' (apE [] H2) w' ∧ VRs I' m' w' (put g' o.dst v) (a.put o.dst y).tmps.toList ∧ (a.put o.dst y).defers = DSt.l ∧ Ex I (Own H2 m) w I' (Own (apE [] H2) m') w' ∧ ∀ id, id ∉ ([] : List Nat) → m'[id]? = m[id]? := by
    obtain ⟨nu, rfl⟩ := h6.pre
    obtain rfl := nu_nil hr h5 rfl
    simp only [List.append_nil] at h4 h5 h6
    exact ⟨I, m, h5, put_ok (Ext.vrs hr h6 hg) o.dst h4, put_defers hd, h6.ex, fun _ _ => rfl⟩
  refine OWP.of ?_ (not_defer h3)
  unfold Oper.wp
  rcases h3 with h3 | ⟨h3, rfl⟩
  · rw [h3]; simp only [Oper.upon]; exact fin
  · rw [h3]; simp only [Oper.upon]; exact fin
end Go.Abs
namespace Go.Abs
open Go
def orE {α : Type} : Option α → Option α → Option α
  | some x, _ => some x
  | none, y => y
noncomputable def fExec (P : Program) (call : CT) (g : List AV) (h : HP) (s : Nat) (op : Op) : Option (AV × HP × Fo) := orE (dExec P call g h s op) (orE (dX P g h op) (dR P g h s op))
def gFree (h : HP) : Option AV → Option (AV × HP × Fg)
  | some v => some (v, h, Fg.nil)
  | none => none
def gL3 (h : HP) (v : AV) (r : Rd) : Bool → Option (AV × HP × Fg)
  | true => some (v, h, ⟨⟨[], [], []⟩, [r]⟩)
  | false => none
def vsAg : AV → List AV
  | .ag vs => vs
  | v => [v]
noncomputable def vsOf (P : Program) (t : TypeId) (v : AV) : List AV := match ti P t with
  | some i => match isAggD i.desc with
    | true => vsAg v
    | false => [v]
  | none => []
noncomputable def gL2 (P : Program) (h : HP) (t : TypeId) (id off : Nat) : Option AV → Option (AV × HP × Fg)
  | some v => gL3 h v (id, off, vsOf P t v) (rdO off (vsOf P t v) (rGet h id))
  | none => none
noncomputable def gLoad (P : Program) (h : HP) (t : TypeId) : AV → Option (AV × HP × Fg)
  | .pt id off => gL2 P h t id off (oLoad2 P t (fCells h (.pt id off)))
  | _ => none
noncomputable def gX (P : Program) (g : List AV) (h : HP) : Op → Option (AV × HP × Fg)
  | .move x => some (evF g x, h, Fg.nil)
  | .assign x => some (evF g x, h, Fg.nil)
  | .nilCheck x => gFree h (oNil (evF g x))
  | .fieldAddr t x f => gFree h (oFieldA P t f (evF g x))
  | .extract t i => gFree h (oExtract i (evF g t))
  | .load t a => gLoad P h t (evF g a)
  | _ => none
def gUp : Option (AV × HP × Fo) → Option (AV × HP × Fg)
  | some (v, h, f) => some (v, h, ⟨f, []⟩)
  | none => none
noncomputable def gExec (P : Program) (call : CT) (g : List AV) (h : HP) (s : Nat) (op : Op) : Option (AV × HP × Fg) := orE (gX P g h op) (gUp (fExec P call g h s op))
noncomputable def fStep (P : Program) (call : CT) (g : List AV) (h : HP) (s : Nat) (op : Op) : Option Bool → Option (AV × HP × Fg)
  | some true => gExec P call g h s op
  | some false => some (.v undef, h, Fg.nil)
  | none => none
abbrev GR := Option (List AV × HP × List Fg)
def gNext (ih : List AV → HP → List Fg → GR) (put : AV → List AV) (acc : List Fg) : Option (AV × HP × Fg) → GR
  | some (v, h', f) => ih (put v) h' (f :: acc)
  | none => none
noncomputable def slotG (k : Nat) (acc : List Fg) : Nat := slot k (acc.map (·.toFo))
noncomputable def fOps (P : Program) (call : CT) (k : Nat) (l : List LOp) : List AV → HP → List Fg → GR :=
  List.rec (motive := fun _ => List AV → HP → List Fg → GR) (fun g h acc => some (g, h, acc))
    (fun o _ ih g h acc => gNext ih (fun v => putF g v o.dst) acc (fStep P call g h (slotG k acc) o.op (dGuard g o.guard))) l
noncomputable def gEnd (k N : Nat) (An : List (List Nat)) : GR → Option (List AV × HP)
  | some (g, h, acc) => match okG k N An acc.reverse with
    | true => some (g, h)
    | false => none
  | none => none
theorem rdO_spec {a : Nat} {vs : List AV} {o : Option AO} (h : rdO a vs o = true) : ∃ sz cs, o = some (.cells sz cs) ∧ a + vs.length ≤ cs.length ∧ (cs.drop a).take vs.length = vs := by
  unfold rdO at h
  split at h
  · rename_i sz cs
    rw [Bool.and_eq_true] at h
    exact ⟨sz, cs, rfl, Nat.le_of_ble_eq_true h.1, beqVs_spec h.2⟩
  · cases h
theorem fApart_same {P : Program} {t : TypeId} {cs cs2 : List AV} {off : Nat} {v : AV} (h : fApart P t cs off = some v) (h1 : off + (vsOf P t v).length ≤ cs.length) (h2 : off + (vsOf P t v).length ≤ cs2.length) (h3 : (cs2.drop off).take (vsOf P t v).length = vsOf P t v) : fApart P t cs2 off = some v := by
  unfold fApart at h ⊢
  cases ht : ti P t with
  | none => rw [ht] at h; cases h
  | some i =>
    rw [ht] at h
    cases ha : isAggD i.desc
    · have hv : vsOf P t v = [v] := by unfold vsOf; rw [ht]; simp only [ha]
      rw [hv] at h2 h3
      simp only [ha] at h ⊢
      rw [nthO_eq]
      have := congrArg (fun l => l[0]?) h3
      simp only [List.length_cons, List.length_nil, List.getElem?_take, List.getElem?_drop] at this
      simpa using this
    · simp only [ha] at h ⊢
      split at h
      · rename_i hc
        cases h
        have hv : vsOf P t (.ag ((cs.drop off).take i.size)) = (cs.drop off).take i.size := by unfold vsOf; rw [ht]; simp only [ha]; rfl
        rw [hv] at h2 h3
        have hl : ((cs.drop off).take i.size).length = i.size := by rw [List.length_take, List.length_drop]; omega
        rw [hl] at h2 h3
        rw [if_pos h2, h3]
      · cases h
section
variable {P : Program} {call : CT} {k N : Nat} {An : List (List Nat)}
theorem fExec_ok [DSt] (hc : CTok P call) {g : List AV} {h : HP} (hk : h.ok) (hN : h.n = N) {op : Op} {acc : List Fo} {v : AV} {h1 : HP} {f : Fo} (e : fExec P call g h (slot k acc) op = some (v, h1, f)) (dst : Option Tmp) :
    (h1.ok ∧ h1.n = N) ∧ ∃ f0 v0, LL P N op g h.L f0 v0 ∧ put g dst v0 = put g dst v ∧ apE f0.E h.L = h1.L ∧ f0 :: acc = f :: acc := by
  unfold fExec at e
  cases hx : dExec P call g h (slot k acc) op with
  | some r =>
    rw [hx] at e
    cases e
    obtain ⟨q1, q2⟩ := dExec_keep hk hx
    have hY := dExec_ok (k := k) (N := N) (An := []) (Q := fun _ _ => True) (R := fun _ g1 H1 acc1 => g1 = put g dst v ∧ H1 = h1.L ∧ acc1 = f :: acc) (os := []) (dst := dst) hc hk hN hx ⟨rfl, rfl, rfl⟩
    obtain ⟨f0, v0, r1, r2, r3, r4⟩ := YDo_ok (by rw [HP.len hk]; exact hN) hY
    exact ⟨⟨q1, q2.trans hN⟩, f0, v0, r1, r2, r3, r4⟩
  | none =>
    rw [hx] at e
    cases hX : dX P g h op with
    | some r =>
      rw [hX] at e
      cases e
      obtain ⟨q1, q2, q3⟩ := dX_ok hk hN hX
      exact ⟨q1, f, v, q2, rfl, q3.symm, rfl⟩
    | none =>
      rw [hX] at e
      have e : dR P g h (slot k acc) op = some (v, h1, f) := e
      obtain ⟨q1, q2, q3⟩ := dR_ok hk hN e
      exact ⟨q1, f, v, q2, rfl, q3.symm, rfl⟩
theorem gX_ok [DSt] {g : List AV} {h : HP} (hk : h.ok) {op : Op} {v : AV} {h1 : HP} {f : Fg} (e : gX P g h op = some (v, h1, f)) : h1 = h ∧ f.E = [] ∧ LLg P N op g h.L f v := by
  have free : ∀ {op : Op} {v : AV}, (∀ g' H2, (∀ x ∈ op.operands, ev g' x = ev g x) → fop P g' (hpOf H2) op = some (v, hpOf H2)) → LLg P N op g h.L Fg.nil v := fun {op v} q =>
    LLg_free [] (fun r hr => (nomatch hr)) fun H2 g' _ hops => by
      have := (fop_ok (hpOf_ok H2) op (q g' H2 hops)).1
      rw [hpOf_L] at this
      exact this
  unfold gX at e
  split at e
  · rename_i x
    cases e
    exact ⟨rfl, rfl, free fun g' H2 hops => by simp only [fop, evF_eq]; rw [hops x (by simp [Op.operands])]⟩
  · rename_i x
    cases e
    exact ⟨rfl, rfl, free fun g' H2 hops => by simp only [fop, evF_eq]; rw [hops x (by simp [Op.operands])]⟩
  · rename_i x
    cases hq : oNil (evF g x) with
    | none => rw [hq] at e; cases e
    | some y =>
      rw [hq] at e
      cases e
      exact ⟨rfl, rfl, free fun g' H2 hops => by simp only [fop, evF_eq]; rw [hops x (by simp [Op.operands]), ← evF_eq, hq]; rfl⟩
  · rename_i t x fd
    cases hq : oFieldA P t fd (evF g x) with
    | none => rw [hq] at e; cases e
    | some y =>
      rw [hq] at e
      cases e
      exact ⟨rfl, rfl, free fun g' H2 hops => by simp only [fop, evF_eq]; rw [hops x (by simp [Op.operands]), ← evF_eq, hq]; rfl⟩
  · rename_i x i
    cases hq : oExtract i (evF g x) with
    | none => rw [hq] at e; cases e
    | some y =>
      rw [hq] at e
      cases e
      exact ⟨rfl, rfl, free fun g' H2 hops => by simp only [fop, evF_eq]; rw [hops x (by simp [Op.operands]), ← evF_eq, hq]; rfl⟩
  · rename_i t a
    rw [evF_eq] at e
    generalize ha : ev g a = av at e
    unfold gLoad at e
    split at e
    · rename_i id off
      cases hl : oLoad2 P t (fCells h (.pt id off)) with
      | none => rw [hl] at e; cases e
      | some v0 =>
        rw [hl] at e
        simp only [gL2] at e
        cases hr : rdO off (vsOf P t v0) (rGet h id)
        · rw [hr] at e; cases e
        · rw [hr] at e
          cases e
          obtain ⟨sz, cs, q1, q2, q3⟩ := rdO_spec hr
          simp only [fCells, q1] at hl
          refine ⟨rfl, rfl, LLg_free _ (fun r hrr => ?_) fun H2 g' hG hops => ?_⟩
          · rw [List.mem_singleton.1 hrr]
            unfold rdI
            rw [← rGet_eq hk]
            exact hr
          · have hg := hG _ (List.mem_singleton.2 rfl)
            unfold rdI at hg
            rw [← hpOf_L H2, ← rGet_eq (hpOf_ok H2)] at hg
            obtain ⟨sz2, cs2, p1, p2, p3⟩ := rdO_spec hg
            have hf : fop P g' (hpOf H2) (.load t a) = some (v, hpOf H2) := by
              simp only [fop, evF_eq]
              rw [hops a (by simp [Op.operands]), ha]
              simp only [fCells]
              rw [p1]
              have : fApart P t cs2 off = some v := fApart_same (cs := cs) hl q2 p2 p3
              simp only [cellsO, oLoad2, this, wrapH]
            have := (fop_ok (hpOf_ok H2) _ hf).1
            rw [hpOf_L] at this
            exact this
    · cases e
  · cases e
theorem gExec_ok [DSt] (hc : CTok P call) {g : List AV} {h : HP} (hk : h.ok) (hN : h.n = N) {op : Op} {acc : List Fg} {v : AV} {h1 : HP} {f : Fg} (e : gExec P call g h (slotG k acc) op = some (v, h1, f)) (dst : Option Tmp) :
    (h1.ok ∧ h1.n = N) ∧ ∃ f0 v0, LLg P N op g h.L f0 v0 ∧ put g dst v0 = put g dst v ∧ apE f0.E h.L = h1.L ∧ f0 :: acc = f :: acc := by
  unfold gExec at e
  cases hx : gX P g h op with
  | some r =>
    rw [hx] at e
    cases e
    obtain ⟨rfl, q2, q3⟩ := gX_ok (N := N) hk hx
    exact ⟨⟨hk, hN⟩, f, v, q3, rfl, by rw [q2]; rfl, rfl⟩
  | none =>
    rw [hx] at e
    have e : gUp (fExec P call g h (slotG k acc) op) = some (v, h1, f) := e
    cases hf : fExec P call g h (slotG k acc) op with
    | none => rw [hf] at e; cases e
    | some r =>
      obtain ⟨v1, h2, f1⟩ := r
      rw [hf] at e
      have e : some (v1, h2, (⟨f1, []⟩ : Fg)) = some (v, h1, f) := e
      injection e with e
      injection e with e1 e
      injection e with e2 e3
      subst e1; subst e2; subst e3
      unfold slotG at hf
      generalize acc.map (·.toFo) = acc0 at hf
      obtain ⟨q1, f0, v0, r1, r2, r3, r4⟩ := @fExec_ok P call k N _ hc g h hk hN op acc0 v1 h2 f1 hf dst
      injection r4 with r4
      subst r4
      exact ⟨q1, ⟨f0, []⟩, v0, LLg_of r1, r2, r3, rfl⟩
theorem fOps_ok [DSt] (hc : CTok P call) : ∀ (ls : List LOp) {g : List AV} {h : HP} {acc : List Fg} {g' : List AV} {h' : HP} {acc' : List Fg}, h.ok → h.n = N → fOps P call k ls g h acc = some (g', h', acc') → okG k N An acc'.reverse = true →
    (h'.ok ∧ h'.n = N) ∧ DWg P k N An (fun g1 H1 => g1 = g' ∧ H1 = h'.L) ls g h.L acc
  | [], g, h, acc, g', h', acc', hk, hN, e, ho => by cases e; exact ⟨⟨hk, hN⟩, ho, rfl, rfl⟩
  | ⟨dst, op, gd⟩ :: os, g, h, acc, g', h', acc', hk, hN, e0, ho => by
    have e : gNext (fOps P call k os) (fun v => putF g v dst) acc (fStep P call g h (slotG k acc) op (dGuard g gd)) = some (g', h', acc') := e0
    clear e0
    cases hs : fStep P call g h (slotG k acc) op (dGuard g gd) with
    | none => rw [hs] at e; cases e
    | some r =>
      obtain ⟨v, h1, f⟩ := r
      rw [hs] at e
      simp only [gNext, putF_eq] at e
      have yes : gExec P call g h (slotG k acc) op = some (v, h1, f) → (h'.ok ∧ h'.n = N) ∧ ∃ f v, LLg P N op g h.L f v ∧ DWg P k N An (fun g1 H1 => g1 = g' ∧ H1 = h'.L) os (put g dst v) (apE f.E h.L) (f :: acc) := fun q => by
        obtain ⟨⟨q1, q2⟩, f0, v0, r1, r2, r3, r4⟩ := gExec_ok hc hk hN q dst
        obtain ⟨t1, t2⟩ := fOps_ok hc os q1 q2 e ho
        refine ⟨t1, f0, v0, r1, ?_⟩
        rw [r2, r3, r4]
        exact t2
      cases gd with
      | none =>
        obtain ⟨t1, f0, v0, r1, r2⟩ := yes hs
        exact ⟨t1, by simp only [DWg]; exact ⟨f0, v0, r1, r2⟩⟩
      | some dw =>
        obtain ⟨d, want⟩ := dw
        rw [dGuard_eq] at hs
        simp only [DWg]
        generalize g[d]? = x at *
        have go : ∀ b, gB want x = some b → (b = true → gExec P call g h (slotG k acc) op = some (v, h1, f)) ∧ (b = false → v = .v undef ∧ h1 = h ∧ f = Fg.nil) := fun b hb => by
          rw [hb] at hs
          cases b
          · cases hs; exact ⟨fun q => (by cases q), fun _ => ⟨rfl, rfl, rfl⟩⟩
          · exact ⟨fun _ => hs, fun q => (by cases q)⟩
        have no : v = .v undef ∧ h1 = h ∧ f = Fg.nil → (h'.ok ∧ h'.n = N) ∧ DWg P k N An (fun g1 H1 => g1 = g' ∧ H1 = h'.L) os (put g dst (.v undef)) h.L (Fg.nil :: acc) := fun ⟨q1, q2, q3⟩ => by
          subst q1; subst q2; subst q3
          exact fOps_ok hc os hk hN e ho
        cases x with
        | none => cases hs
        | some y =>
          cases y <;> first | (cases hs; done) | skip
          rename_i z
          cases z <;> first | (cases hs; done) | skip
          · rename_i b
            by_cases hb : b = want
            · obtain ⟨t1, f0, v0, r1, r2⟩ := yes ((go true (by simp [gB, hb])).1 rfl)
              exact ⟨t1, by simp only [if_pos hb]; exact ⟨f0, v0, r1, r2⟩⟩
            · obtain ⟨t1, t2⟩ := no ((go false (by simp [gB, hb])).2 rfl)
              exact ⟨t1, by simp only [if_neg hb]; exact t2⟩
          · exact no ((go false rfl).2 rfl)
end
noncomputable def fRun3 (P : Program) (call : CT) (s : Nat) (An : List (List Nat)) (g : List AV) (h : HP) (ls : List LOp) : Bool → Option (List AV × HP)
  | true => gEnd h.n (h.n + s) An (fOps P call h.n ls g (padH s h) [])
  | false => none
noncomputable def fRun2 (P : Program) (call : CT) (s : Nat) (ops : List Oper) (An : List (List Nat)) (g : List AV) (h : HP) : Option (List LOp) → Option (List AV × HP)
  | some ls => fRun3 P call s An g h ls (lexOK ops && ancOK ops An)
  | none => none
noncomputable def fRunN (P : Program) (call : CT) (x : Nat) : DT := fun ops g h => fRun2 P call (newMany ops.toList + x) ops.toList (ancs ops.toList) g h (lowOps ops ops.toList)
theorem fRunN_ok {P : Program} (hm : P.follows .mixedOrders = true) {call : CT} (hc : CTok P call) (x : Nat) : DTok P (fRunN P call x) := by
  intro ops g h g' h' hk e
  unfold fRunN fRun2 at e
  split at e
  · rename_i ls hls
    unfold fRun3 at e
    split at e
    · rename_i hb
      rw [Bool.and_eq_true] at hb
      generalize hs : newMany ops.toList + x = s at e
      cases hd : fOps P call h.n ls g (padH s h) [] with
      | none => rw [hd] at e; cases e
      | some r =>
        obtain ⟨g1, h1, acc1⟩ := r
        rw [hd] at e
        simp only [gEnd] at e
        split at e
        · rename_i ho
          cases e
          obtain ⟨p1, p2⟩ := padH_ok hk s
          obtain ⟨r1, r2⟩ := (@fOps_ok P call h.n (h.n + s) (ancs ops.toList) noDefers hc ls g (padH s h) [] g' h' acc1 p1 rfl hd ho).1
          refine ⟨⟨r1, by omega⟩, fun D k id hkn => ?_⟩
          have r3 := (@fOps_ok P call h.n (h.n + s) (ancs ops.toList) D hc ls g (padH s h) [] g' h' acc1 p1 rfl hd ho).2
          rw [p2] at r3
          have hl := HP.len hk
          refine BW_drawnG (Q := fun e1 g1 H1 => e1 = Exit.normal ∧ g1 = g' ∧ H1 = h'.L) hls hm hb.1 hb.2 s (by rw [hl]; exact hkn) ?_
          rw [hl]
          have eq : (fun (g1 : List AV) (H1 : List AO) => Exit.normal = Exit.normal ∧ g1 = g' ∧ H1 = h'.L) = (fun g1 H1 => g1 = g' ∧ H1 = h'.L) := by
            funext g1 H1
            exact propext ⟨fun q => q.2, fun q => ⟨rfl, q⟩⟩
          rw [eq]
          exact r3
        · cases e
    · cases e
  · cases e
noncomputable def fRun (P : Program) (call : CT) : DT := fun ops g h => orE (fRunN P call 0 ops g h) (orE (fRunN P call 40 ops g h) (fRunN P call 300 ops g h))
theorem fRun_ok {P : Program} (hm : P.follows .mixedOrders = true) {call : CT} (hc : CTok P call) : DTok P (fRun P call) := by
  intro ops g h g' h' hk e
  unfold fRun at e
  cases h1 : fRunN P call 0 ops g h with
  | some r => rw [h1] at e; exact fRunN_ok hm hc 0 ops g h g' h' hk (by rw [h1]; exact e)
  | none =>
    rw [h1] at e
    cases h2 : fRunN P call 40 ops g h with
    | some r => rw [h2] at e; exact fRunN_ok hm hc 40 ops g h g' h' hk (by rw [h2]; exact e)
    | none => rw [h2] at e; exact fRunN_ok hm hc 300 ops g h g' h' hk e
end Go.Abs
namespace Go.Abs
open Go
structure ME where
  f : FuncId
  a : List AV
  i : List AO
  r : AV
  o : List AO
def MEok (P : Program) (e : ME) : Prop := AFn P e.f e.i.length e.a e.i (fun v H => v = e.r ∧ H = e.o)
def beqOs : List AO → List AO → Bool
  | [], [] => true
  | a :: as, b :: bs => match beqO a b with
    | true => beqOs as bs
    | false => false
  | _, _ => false
theorem beqOs_spec : ∀ {a b : List AO}, beqOs a b = true → a = b
  | [], [], _ => rfl
  | a :: as, b :: bs, h => by
    unfold beqOs at h
    split at h
    · rename_i hb; rw [beqO_spec hb, beqOs_spec h]
    · cases h
  | [], b :: bs, h => by simp [beqOs] at h
  | a :: as, [], h => by simp [beqOs] at h
def okIf : Bool → Bool → Bool
  | true, b => b
  | false, _ => false
theorem okIf_spec {a b : Bool} (h : okIf a b = true) : a = true ∧ b = true := by cases a <;> first | exact ⟨rfl, h⟩ | cases h
noncomputable def mePack (e : ME) (hr : HP) (v : AV) (keep : List Nat) : Bool :=
  okIf (closedN hr keep [v]) (okIf (firstN e.i.length keep) (okIf (beqV (v.ren (posN keep)) e.r) (beqOs (keep.map (objN hr (posN keep))) e.o)))
noncomputable def meEnd (e : ME) : OR2 → Bool
  | some (v, hr) => mePack e hr v (newIds e.i.length hr v)
  | none => false
noncomputable def meRun (P : Program) (bwt : BWT) (call : CT) (dr : DT) (fuel : Nat) (e : ME) : Bool := meEnd e (eFn P bwt call dr fuel e.a ⟨e.i.length, e.i.reverse⟩ (P.funcs[e.f]?))
theorem objN_eq {h : HP} (hk : h.ok) (τ : Nat → Nat) (j : Nat) : objN h τ j = (h.L.getD j .dead).ren τ := by
  unfold objN
  rw [rGet_eq hk, List.getD_eq_getElem?_getD]
  cases h.L[j]? <;> rfl
theorem meRun_ok {P : Program} {bwt : BWT} {call : CT} {dr : DT} (hN : namesOK P = true) (hB : BWok P bwt) (hc : CTok P call) (hd : DTok P dr) {fuel : Nat} {e : ME} (h : meRun P bwt call dr fuel e = true) : MEok P e := by
  unfold meRun at h
  have hk0 : (⟨e.i.length, e.i.reverse⟩ : HP).ok := by simp [HP.ok]
  have hL0 : (⟨e.i.length, e.i.reverse⟩ : HP).L = e.i := by simp [HP.L]
  cases hx : eFn P bwt call dr fuel e.a ⟨e.i.length, e.i.reverse⟩ (P.funcs[e.f]?) with
  | none => rw [hx] at h; cases h
  | some vh =>
    obtain ⟨v0, hr0⟩ := vh
    rw [hx] at h
    obtain ⟨⟨k1, l1⟩, a1⟩ := eFn_ok hN hB hc hd hk0 hx
    rw [hL0] at a1
    simp only [meEnd] at h
    generalize newIds e.i.length hr0 v0 = keep at h
    unfold mePack at h
    obtain ⟨hcl2, h⟩ := okIf_spec h
    obtain ⟨hfirst, h⟩ := okIf_spec h
    obtain ⟨hr, ho⟩ := okIf_spec h
    obtain ⟨c1, c2, c3, c4⟩ := closedN_spec hcl2
    simp only [okVs, Bool.and_true] at c3
    have hA : AFn P e.f e.i.length e.a e.i (fun v H => v = v0.ren (posN keep) ∧ H = keep.map fun j => (hr0.L.getD j .dead).ren (posN keep)) :=
      a1.post (VS_keep keep (posN keep) (fun j => memN j keep) (fun j hj => posN_get hj) (firstN_spec hfirst) c1 (fun j hj => by rw [HP.len k1]; exact c2 j hj) c3 (fun j o hj ho => by
        have := c4 j hj
        unfold okAt at this
        rw [rGet_eq k1, ho] at this
        exact this))
    have e1 := beqV_spec hr
    have e2 := beqOs_spec ho
    have e3 : (keep.map fun j => (hr0.L.getD j .dead).ren (posN keep)) = e.o := by
      rw [← e2]
      exact List.map_congr_left fun j _ => (objN_eq k1 _ j).symm
    rw [e1, e3] at hA
    exact hA
noncomputable def mePut (h : HP) (ids : List Nat) (e : ME) : OR2 :=
  match allAt (fun t => Nat.blt t h.n) ids with
  | true => some (e.r.ren (tau ids ids.length h.n), List.foldl rNew (rSets h (turned h (updE (tau ids ids.length h.n) ids.length ids e.o))) ((e.o.drop ids.length).map (·.ren (tau ids ids.length h.n))))
  | false => none
noncomputable def meHit (args : List AV) (h : HP) (ids : List Nat) (e : ME) : Bool :=
  okIf (Nat.beq ids.length e.i.length) (okIf (beqVs (rens (posN ids) args) e.a) (beqOs (ids.map (objN h (posN ids))) e.i))
def meTry (h : HP) (put : OR2) (rest : OR2) : Bool → OR2
  | true => put
  | false => rest
noncomputable def meFind (args : List AV) (h : HP) (ids : List Nat) (es : List ME) : OR2 :=
  List.rec (motive := fun _ => OR2) none (fun e _ ih => meTry h (mePut h ids e) ih (meHit args h ids e)) es
noncomputable def meGo (args : List AV) (h : HP) (es : List ME) (ids : List Nat) : OR2 := match closedN h ids args with
  | true => meFind args h ids es
  | false => none
noncomputable def meLook (args : List AV) (h : HP) : List ME → OR2
  | [] => none
  | es => meGo args h es (reach h 100000 (idsVs args []) [])
noncomputable def ofF (f : FuncId) (es : List ME) : List ME := List.rec (motive := fun _ => List ME) [] (fun e _ ih => match Nat.beq e.f f with
  | true => e :: ih
  | false => ih) es
noncomputable def kMe (es : List ME) : KM := fun f args h => meLook args h (ofF f es)
theorem ofF_sub (f : FuncId) : ∀ (es : List ME), ∀ e ∈ ofF f es, e ∈ es ∧ e.f = f
  | [], e, h => by cases h
  | a :: es, e, h => by
    have h : e ∈ (match Nat.beq a.f f with
      | true => a :: ofF f es
      | false => ofF f es) := h
    cases hb : Nat.beq a.f f
    · rw [hb] at h
      obtain ⟨h1, h2⟩ := ofF_sub f es e h
      exact ⟨List.mem_cons_of_mem _ h1, h2⟩
    · rw [hb] at h
      rcases List.mem_cons.1 h with rfl | h
      · exact ⟨List.mem_cons_self .., Nat.eq_of_beq_eq_true hb⟩
      · obtain ⟨h1, h2⟩ := ofF_sub f es e h
        exact ⟨List.mem_cons_of_mem _ h1, h2⟩
theorem meFind_ok {args : List AV} {h : HP} {ids : List Nat} {v : AV} {h' : HP} : ∀ {es : List ME}, meFind args h ids es = some (v, h') → ∃ e ∈ es, meHit args h ids e = true ∧ mePut h ids e = some (v, h')
  | [], q => by cases q
  | e :: es, q => by
    have q : meTry h (mePut h ids e) (meFind args h ids es) (meHit args h ids e) = some (v, h') := q
    cases hh : meHit args h ids e
    · rw [hh] at q
      obtain ⟨e', h1, h2⟩ := meFind_ok (es := es) q
      exact ⟨e', List.mem_cons_of_mem _ h1, h2⟩
    · rw [hh] at q
      exact ⟨e, List.mem_cons_self .., hh, q⟩
theorem foldNew_L : ∀ (l : List AO) (h : HP), h.ok → (List.foldl rNew h l).L = h.L ++ l ∧ (List.foldl rNew h l).ok ∧ h.n ≤ (List.foldl rNew h l).n
  | [], h, hk => ⟨by simp, hk, Nat.le_refl _⟩
  | o :: l, h, hk => by
    obtain ⟨h1, h2, h3⟩ := foldNew_L l (rNew h o) (rNew_ok hk o)
    simp only [List.foldl_cons]
    refine ⟨by rw [h1, rNew_eq]; simp, h2, Nat.le_trans (Nat.le_succ _) h3⟩
theorem kMe_ok {P : Program} {es : List ME} (hes : ∀ e ∈ es, MEok P e) : KMok P (kMe es) := by
  intro f args h v h' hk e
  unfold kMe at e
  have sub := ofF_sub f es
  generalize ofF f es = fs at *
  unfold meLook at e
  split at e
  · cases e
  · generalize reach h 100000 (idsVs args []) [] = ids at e
    unfold meGo at e
    split at e
    case h_2 => cases e
    rename_i hcl
    obtain ⟨m, hm, hit, put⟩ := meFind_ok e
    obtain ⟨hm1, rfl⟩ := sub m hm
    have hM := hes m hm1
    unfold meHit at hit
    obtain ⟨t1, hit⟩ := okIf_spec hit
    obtain ⟨t2, t3⟩ := okIf_spec hit
    have t1 := Nat.eq_of_beq_eq_true t1
    have t2 := beqVs_spec t2
    have t3 := beqOs_spec t3
    have hpk : (packH h ids).L = m.i := by
      rw [packH_L hk, ← t3]
      exact List.map_congr_left fun j _ => (objN_eq hk _ j).symm
    unfold MEok at hM
    rw [← t1, ← t2, ← hpk] at hM
    have hL := (LCl_run hk hcl hM).less hk (by rw [updE_keys]; exact (closedN_spec hcl).1) (fun p hp => by
      have : p.1 ∈ (updE (tau ids ids.length h.n) ids.length ids m.o).map (·.1) := List.mem_map_of_mem hp
      rwa [updE_keys] at this)
    have hA := hL h.L (HP.len hk) fun _ _ => rfl
    unfold mePut at put
    split at put
    case h_2 => cases put
    rename_i hall
    cases put
    have hS := rSets_ok (turned h (updE (tau ids ids.length h.n) ids.length ids m.o)) hk (fun p hp => by
      have hp2 := turned_sub _ _ p hp
      have : p.1 ∈ (updE (tau ids ids.length h.n) ids.length ids m.o).map (·.1) := List.mem_map_of_mem hp2
      rw [updE_keys] at this
      have := allAt_spec hall p.1 this
      rwa [Nat.blt_eq] at this)
    obtain ⟨s1, s2, s3⟩ := hS
    obtain ⟨u1, u2, u3⟩ := foldNew_L ((m.o.drop ids.length).map (·.ren (tau ids ids.length h.n))) _ s1
    refine ⟨⟨u2, by omega⟩, hA.mono fun v1 H1 ⟨q1, q2⟩ => ⟨q1, ?_⟩⟩
    rw [q2, u1, s3]
end Go.Abs
