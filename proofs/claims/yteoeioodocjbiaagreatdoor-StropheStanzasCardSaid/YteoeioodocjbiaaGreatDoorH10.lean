/- Part 10 of the texts that lead to stropheStanzasCard_holds. No condition. -/
import Derived.Test.YteoeioodocjbiaaGreatDoorH9
set_option linter.unusedSimpArgs false
set_option linter.unusedVariables false
set_option linter.unnecessarySimpa false
namespace Go.Abs
open Go
def hof : List AO → List (List (Nat × AO)) → Nat → (Nat → Bool) → List AO
  | H, E :: Es, i, D => hof (if D i then apE E H else H) Es (i + 1) D
  | H, [], _, _ => H
theorem hof_len : ∀ (Es : List (List (Nat × AO))) (H : List AO) (i : Nat) (D : Nat → Bool), (hof H Es i D).length = H.length
  | [], H, i, D => rfl
  | E :: Es, H, i, D => by
    simp only [hof]
    rw [hof_len Es]
    split
    · exact apE_len _ _
    · rfl
theorem hof_congr {id : Nat} : ∀ (Es : List (List (Nat × AO))) (H H' : List AO) (i : Nat) (D D' : Nat → Bool), H.length = H'.length → H[id]? = H'[id]? → (∀ (k : Nat) E, Es[k]? = some E → id ∈ E.map (·.1) → D (i + k) = D' (i + k)) → (hof H Es i D)[id]? = (hof H' Es i D')[id]?
  | [], H, H', i, D, D', _, h, _ => h
  | E :: Es, H, H', i, D, D', hl, h, hD => by
    simp only [hof]
    refine hof_congr Es _ _ (i + 1) D D' ?_ ?_ fun k E' h1 h2 => by
      have := hD (k + 1) E' (by simpa using h1) h2
      rw [show i + 1 + k = i + (k + 1) by omega]; exact this
    · split <;> split <;> simp only [apE_len, hl]
    · by_cases hm : id ∈ E.map (·.1)
      · have := hD 0 E rfl hm
        simp only [Nat.add_zero] at this
        rw [this]
        split
        · exact apE_congr E H H' hl fun _ => h
        · exact h
      · split <;> split <;> simp only [apE_other _ _ hm, h]
theorem hof_step : ∀ (Es : List (List (Nat × AO))) (H : List AO) (i j : Nat) (E : List (Nat × AO)) (D : Nat → Bool), Es[j]? = some E → D (i + j) = false → (∀ (k : Nat) E', j < k → Es[k]? = some E' → D (i + k) = true → ∀ id ∈ E.map (·.1), id ∉ E'.map (·.1)) →
    hof H Es i (Dset D (i + j)) = apE E (hof H Es i D)
  | [], H, i, j, E, D, h, _, _ => by simp at h
  | E0 :: Es, H, i, j, E, D, h, hD, hx => by
    cases j with
    | zero =>
      simp at h; subst h
      simp only [Nat.add_zero] at hD ⊢
      simp only [hof, hD, Bool.false_eq_true, if_false]
      have e1 : Dset D i i = true := by simp [Dset]
      rw [if_pos e1]
      apply List.ext_getElem?
      intro id
      by_cases hm : id ∈ E0.map (·.1)
      · have key : ∀ (D' : Nat → Bool), (∀ k, D' (i + 1 + k) = D (i + 1 + k)) → ∀ H0 : List AO, (hof H0 Es (i + 1) D')[id]? = H0[id]? := fun D' hD' H0 => by
          have := hof_congr (id := id) Es H0 H0 (i + 1) D' (fun _ => false) rfl rfl fun k E' h1 h2 => by
            rw [hD']
            cases hh : D (i + 1 + k) with
            | false => rfl
            | true => exact (hx (k + 1) E' (by omega) (by simpa using h1) (by rw [← hh]; congr 1; omega) id hm h2).elim
          rw [this]
          have e : ∀ (Es : List (List (Nat × AO))) (n : Nat), hof H0 Es n (fun _ => false) = H0 := by
            intro Es
            induction Es with
            | nil => intro n; rfl
            | cons E Es ih => intro n; simp only [hof, Bool.false_eq_true, if_false]; exact ih _
          rw [e]
        rw [key _ fun k => by simp [Dset]; omega]
        exact apE_congr E0 _ _ (by rw [hof_len]) fun hn => (hn hm).elim
      · rw [apE_other _ _ hm]
        refine hof_congr Es _ _ (i + 1) _ _ (by rw [apE_len]) (apE_other _ _ hm) fun k E' h1 h2 => by simp [Dset]; omega
    | succ j =>
      simp at h
      simp only [hof]
      have e0 : Dset D (i + (j + 1)) i = D i := by simp [Dset]
      rw [e0]
      have := hof_step Es (if D i then apE E0 H else H) (i + 1) j E D h (by rw [← hD]; congr 1; omega) fun k E' h1 h2 h3 => hx (k + 1) E' (by omega) (by simpa using h2) (by rw [← h3]; congr 1; omega)
      rw [show i + (j + 1) = i + 1 + j by omega]
      exact this
def ancOK (ops : List Oper) (An : List (List Nat)) : Bool :=
  ops.zipIdx.all fun (o, i) => (An.getD i []).all fun j => (waits o).contains j || (waits o).any fun l => decide (l < i) && (An.getD l []).contains j
theorem ancOK_spec {ops : List Oper} {An : List (List Nat)} (h : ancOK ops An = true) {D : Nat → Bool} (hcl : ∀ i, D i = true → ∀ o, ops[i]? = some o → ∀ j ∈ waits o, D j = true) :
    ∀ (i : Nat) o, ops[i]? = some o → (∀ j ∈ waits o, D j = true) → ∀ j ∈ An.getD i [], j < ops.length → D j = true := by
  have key : ∀ (n i : Nat) o, i < n → ops[i]? = some o → (∀ j ∈ waits o, D j = true) → ∀ j ∈ An.getD i [], D j = true := by
    intro n
    induction n with
    | zero => intro i o hi; omega
    | succ n ih =>
      intro i o hi ho hw j hj
      unfold ancOK at h
      have h1 := List.all_eq_true.1 h (o, i) (by rw [List.mem_zipIdx_iff_getElem?]; exact ho)
      have h2 := List.all_eq_true.1 h1 j hj
      rw [Bool.or_eq_true] at h2
      rcases h2 with h2 | h2
      · exact hw j (by simpa using h2)
      · obtain ⟨l, hl, h3⟩ := List.any_eq_true.1 h2
        simp only [Bool.and_eq_true, decide_eq_true_eq] at h3
        obtain ⟨h4, h5⟩ := h3
        have hlo : ∃ p, ops[l]? = some p := by
          have : i < ops.length := (List.getElem?_eq_some_iff.1 ho).1
          exact ⟨ops[l], List.getElem?_eq_getElem (by omega)⟩
        obtain ⟨p, hp⟩ := hlo
        exact ih l p (by omega) hp (fun j' hj' => hcl l (hw l hl) p hp j' hj') j (by simpa using h5)
  exact fun i o ho hw j hj _ => key (i + 1) i o (by omega) ho hw j hj
structure Fo where
  F : List Nat
  E : List (Nat × AO)
  ns : List Nat
def okA (k N : Nat) (An : List (List Nat)) (acc : List Fo) : Bool :=
  acc.zipIdx.all fun (f, i) => (f.ns.all fun s => decide (k ≤ s) && decide (s < N)) && acc.zipIdx.all fun (f', j) => i == j ||
    ((f'.E.all fun p => !(f.F ++ f.E.map (·.1)).contains p.1 || (if j < i then (An.getD i []).contains j else (An.getD j []).contains i)) && f.ns.all fun s => !f'.ns.contains s)
theorem okA_spec {k N : Nat} {An : List (List Nat)} {acc : List Fo} (h : okA k N An acc = true) :
    (∀ (i : Nat) f, acc[i]? = some f → ∀ s ∈ f.ns, k ≤ s ∧ s < N) ∧
    (∀ (i j : Nat) f f', acc[i]? = some f → acc[j]? = some f' → i ≠ j → (∀ id ∈ f'.E.map (·.1), id ∈ f.F ∨ id ∈ f.E.map (·.1) → (j < i → j ∈ An.getD i []) ∧ (i < j → i ∈ An.getD j [])) ∧ ∀ s ∈ f.ns, s ∉ f'.ns) := by
  unfold okA at h
  have mem : ∀ (i : Nat) f, acc[i]? = some f → (f, i) ∈ acc.zipIdx := fun i f hi => by rw [List.mem_zipIdx_iff_getElem?]; exact hi
  have h1 := List.all_eq_true.1 h
  refine ⟨fun i f hi s hs => ?_, fun i j f f' hi hj hne => ?_⟩
  · have h2 := h1 _ (mem i f hi)
    rw [Bool.and_eq_true] at h2
    have := List.all_eq_true.1 h2.1 s hs
    simpa using this
  · have h2 := h1 _ (mem i f hi)
    rw [Bool.and_eq_true] at h2
    have h3 := List.all_eq_true.1 h2.2 _ (mem j f' hj)
    rw [Bool.or_eq_true] at h3
    rcases h3 with h3 | h3
    · exact (hne (by simpa using h3)).elim
    · rw [Bool.and_eq_true] at h3
      refine ⟨fun id hid hF => ?_, fun s hs hs' => ?_⟩
      · obtain ⟨p, hp, rfl⟩ := List.mem_map.1 hid
        have h4 := List.all_eq_true.1 h3.1 p hp
        rw [Bool.or_eq_true] at h4
        rcases h4 with h4 | h4
        · exfalso
          have : p.1 ∈ f.F ++ f.E.map (·.1) := List.mem_append.2 hF
          rw [← List.contains_iff_mem] at this
          rw [this] at h4; cases h4
        · refine ⟨fun hlt => ?_, fun hlt => ?_⟩
          · rw [if_pos hlt] at h4; simpa using h4
          · rw [if_neg (by omega)] at h4; simpa using h4
      · have h4 := List.all_eq_true.1 h3.2 s hs
        rw [← List.contains_iff_mem] at hs'
        rw [hs'] at h4; cases h4
section
variable {P : Program} {k N : Nat}
def OpD [DSt] (P : Program) (op : Op) (g : List AV) (H : List AO) (ns : List Nat) (v : AV) (H' : List AO) : Prop :=
  ∀ (I : Nat → Prop) (m : List Loc) (a : Act) (w : World) (o : Oper) (Q : Exit → Act → World → Prop), o.op = op → HR I m H w → VRs I m w g a.tmps.toList → a.defers = DSt.l → (∀ s ∈ ns, lk m s = none) →
    OWP P o a w (fun a' w' => ∃ I' m', HR I' m' H' w' ∧ VRs I' m' w' (put g o.dst v) a'.tmps.toList ∧ a'.defers = DSt.l ∧ Ex I (Own H m) w I' (Own H' m') w' ∧ ∀ id, id ∉ ns → m'[id]? = m[id]?) Q
def LL [DSt] (P : Program) (N : Nat) (op : Op) (g : List AV) (H : List AO) (f : Fo) (v : AV) : Prop :=
  ∀ (H2 : List AO) (g' : List AV), H2.length = N → (∀ id ∈ f.F, H2[id]? = H[id]?) → (∀ x ∈ op.operands, ev g' x = ev g x) → OpD P op g' H2 f.ns v (apE f.E H2)
def DW [DSt] (P : Program) (k N : Nat) (An : List (List Nat)) (Q : List AV → List AO → Prop) : List LOp → List AV → List AO → List Fo → Prop
  | [], g, H, acc => okA k N An acc.reverse = true ∧ Q g H
  | ⟨dst, op, none⟩ :: os, g, H, acc => ∃ f v, LL P N op g H f v ∧ DW P k N An Q os (put g dst v) (apE f.E H) (f :: acc)
  | ⟨dst, op, some (d, want)⟩ :: os, g, H, acc => match g[d]? with
    | some (.v (.bool b)) => if b = want then ∃ f v, LL P N op g H f v ∧ DW P k N An Q os (put g dst v) (apE f.E H) (f :: acc) else DW P k N An Q os (put g dst (.v undef)) H (⟨[], [], []⟩ :: acc)
    | some (.v (.tuple _)) => DW P k N An Q os (put g dst (.v undef)) H (⟨[], [], []⟩ :: acc)
    | _ => False
def LG [DSt] (P : Program) (N : Nat) (ops : Array Oper) (o : Oper) (g : List AV) (H : List AO) (f : Fo) (v : AV) : Prop :=
  (wantA ops g o = some true ∧ LL P N o.op g H f v) ∨ (wantA ops g o = some false ∧ f = ⟨[], [], []⟩ ∧ v = .v undef)
theorem DW_vals [DSt] {ops : Array Oper} {An : List (List Nat)} {Q : List AV → List AO → Prop} : ∀ (os : List Oper) (ls : List LOp) (i : Nat) (g : List AV) (H : List AO) (acc : List Fo), lowOps ops os = some ls → DW P k N An Q ls g H acc →
    ∃ (vs : List AV) (fs : List Fo), vs.length = os.length ∧ fs.length = os.length ∧ okA k N An (acc.reverse ++ fs) = true ∧
      (∀ (j : Nat) o v f, os[j]? = some o → vs[j]? = some v → fs[j]? = some f → LG P N ops o (gof g os vs i (fun t => decide (t < i + j))) (hof H (fs.map (·.E)) i (fun t => decide (t < i + j))) f v) ∧
      Q (gof g os vs i (fun t => decide (t < i + os.length))) (hof H (fs.map (·.E)) i (fun t => decide (t < i + os.length)))
  | [], ls, i, g, H, acc, hl, h => by
    simp only [lowOps] at hl; injection hl with hl; subst hl
    simp only [DW] at h
    exact ⟨[], [], rfl, rfl, by simpa using h.1, fun j o v f h1 => by simp at h1, by simpa [gof, hof] using h.2⟩
  | o :: os, ls, i, g, H, acc, hl, h => by
    simp only [lowOps] at hl
    split at hl
    case h_2 => cases hl
    rename_i l ls' h1 h2
    injection hl with hl; subst hl
    have main : ∀ f v, LG P N ops o g H f v → DW P k N An Q ls' (put g o.dst v) (apE f.E H) (f :: acc) → ∃ (vs : List AV) (fs : List Fo), vs.length = (o :: os).length ∧ fs.length = (o :: os).length ∧ okA k N An (acc.reverse ++ fs) = true ∧
        (∀ (j : Nat) o' v f, (o :: os)[j]? = some o' → vs[j]? = some v → fs[j]? = some f → LG P N ops o' (gof g (o :: os) vs i (fun t => decide (t < i + j))) (hof H (fs.map (·.E)) i (fun t => decide (t < i + j))) f v) ∧
        Q (gof g (o :: os) vs i (fun t => decide (t < i + (o :: os).length))) (hof H (fs.map (·.E)) i (fun t => decide (t < i + (o :: os).length))) := fun f v hg hd => by
      obtain ⟨vs, fs, q1, q2, q3, q4, q5⟩ := DW_vals os ls' (i + 1) _ _ _ h2 hd
      refine ⟨v :: vs, f :: fs, by simp [q1], by simp [q2], by simpa using q3, fun j o' v' f' k1 k2 k3 => ?_, ?_⟩
      · cases j with
        | zero =>
          simp at k1 k2 k3
          subst k1; subst k2; subst k3
          simp only [Nat.add_zero]
          have e1 : gof g (o :: os) (v :: vs) i (fun t => decide (t < i)) = g := gof_all fun k => by simp
          have e2 : hof H ((f :: fs).map (·.E)) i (fun t => decide (t < i)) = H := by
            have : ∀ (Es : List (List (Nat × AO))) (n : Nat), i ≤ n → hof H Es n (fun t => decide (t < i)) = H := by
              intro Es
              induction Es with
              | nil => intro n _; rfl
              | cons E Es ih => intro n hn; simp only [hof]; rw [if_neg (by simp; omega)]; exact ih _ (by omega)
            exact this _ _ (Nat.le_refl _)
          rw [e1, e2]
          exact hg
        | succ j =>
          have := q4 j o' v' f' (by simpa using k1) (by simpa using k2) (by simpa using k3)
          simp only [gof, List.map_cons, hof]
          rw [if_pos (by simp), if_pos (by simp)]
          have e : i + (j + 1) = i + 1 + j := by omega
          simp only [e]
          exact this
      · simp only [gof, List.map_cons, hof, List.length_cons]
        rw [if_pos (by simp), if_pos (by simp)]
        have e : i + (os.length + 1) = i + 1 + os.length := by omega
        simp only [e]
        exact q5
    unfold lowOp at h1
    split at h1
    · rename_i hgd
      injection h1 with h1; subst h1
      simp only [DW] at h
      obtain ⟨f, v, h3, h4⟩ := h
      exact main f v (.inl ⟨by simp only [wantA, hgd], h3⟩) h4
    · rename_i j want hgd
      split at h1
      · rename_i d hd
        injection h1 with h1; subst h1
        simp only [DW] at h
        split at h
        · rename_i b hb
          have hw : wantA ops g o = some (b == want) := by simp only [wantA, hgd]; erw [hd]; simp only [hb]
          split at h
          · rename_i hbw
            obtain ⟨f, v, h3, h4⟩ := h
            exact main f v (.inl ⟨by rw [hw, hbw]; simp, h3⟩) h4
          · rename_i hbw
            exact main ⟨[], [], []⟩ _ (.inr ⟨by rw [hw]; simpa using hbw, rfl, rfl⟩) h
        · rename_i t ht
          have hw : wantA ops g o = some false := by simp only [wantA, hgd]; erw [hd]; simp only [ht]
          exact main ⟨[], [], []⟩ _ (.inr ⟨hw, rfl, rfl⟩) h
        · exact h.elim
      · cases h1
theorem looks_op {ops : Array Oper} {o : Oper} {g g' : List AV} (h : ∀ t ∈ o.looksAt ops, g[t]? = g'[t]?) : (∀ x ∈ o.op.operands, ev g' x = ev g x) ∧ wantA ops g o = wantA ops g' o := by
  refine ⟨fun x hx => (ev_congr fun t ht => h t (by
    subst ht
    unfold Oper.looksAt
    exact List.mem_append.2 (.inl (List.mem_filterMap.2 ⟨.tmp t, by simpa using hx, rfl⟩)))).symm, ?_⟩
  unfold wantA
  split
  · rfl
  · rename_i j want hg
    split
    · rename_i d hd
      rw [h d (by
        unfold Oper.looksAt
        refine List.mem_append.2 (.inr ?_)
        rw [hg]
        simp only
        rw [hd]
        simp)]
    · rfl
theorem BW_drawn [DSt] {id : Nat} {ops : Array Oper} {ls : List LOp} {An : List (List Nat)} {Q : Exit → List AV → List AO → Prop} {g : List AV} {H : List AO} (hlow : lowOps ops ops.toList = some ls) (hm : P.follows .mixedOrders = true) (hlex : lexOK ops.toList = true) (han : ancOK ops.toList An = true)
    (s : Nat) (hk : k ≤ H.length) (h : DW P H.length (H.length + s) An (Q .normal) ls g (H ++ List.replicate s .dead) []) : BW P k (.region id ops true) Q g H := by
  intro I m a w hr hg hd
  obtain ⟨vs, fs, hvl, hfl, hok, hstep, hfin⟩ := DW_vals ops.toList ls 0 g _ [] hlow h
  simp only [List.reverse_nil, List.nil_append, Nat.zero_add, Array.length_toList] at hok hstep hfin hvl hfl
  obtain ⟨hw1, hw2⟩ := lexOK_spec hlex
  obtain ⟨hA1, hA2⟩ := okA_spec hok
  generalize hH0 : H ++ List.replicate s AO.dead = H0 at *
  have hml := hr.len
  let m0 : List Loc := m ++ List.replicate s ⟨0, 0, 0, 0⟩
  have hH0l : H0.length = H.length + s := by rw [← hH0]; simp
  have hm0 : ∀ (j : Nat) L, lk m j = some L → lk m0 j = some L := fun j L hj => lk_pre hj
  have hm0r : ∀ (j : Nat) L, j < H.length → m0[j]? = some L → m[j]? = some L := fun j L hj hL => by
    rw [List.getElem?_append_left (by omega)] at hL; exact hL
  have hfree : ∀ j, H.length ≤ j → lk m0 j = none := fun j hj => by
    unfold lk
    rw [List.getElem?_append_right (by omega), List.getElem?_replicate]
    by_cases h : j - m.length < s
    · simp [h]
    · simp [h]
  have halv : ∀ (j : Nat) o L, H0[j]? = some o → m0[j]? = some L → o.alive = true → H[j]? = some o ∧ m[j]? = some L := fun j o L h1 h2 h3 => by
    rw [← hH0] at h1
    by_cases hj : j < H.length
    · rw [List.getElem?_append_left hj] at h1
      exact ⟨h1, hm0r j L hj h2⟩
    · rw [List.getElem?_append_right (by omega), List.getElem?_replicate] at h1
      split at h1
      · injection h1 with h1; subst h1; cases h3
      · cases h1
  have hown0 : ∀ b, Own H0 m0 b → Own H m b := fun b ⟨j, o, L, q1, q2, q3, q4, q5⟩ => by
    obtain ⟨r1, r2⟩ := halv j o L q1 q3 q2
    exact ⟨j, o, L, r1, q2, r2, q4, q5⟩
  have hr0 : HR I m0 H0 w := by
    refine ⟨by simp [m0, hH0l, hml], fun j o L h1 h2 => ?_, fun i j oi oj Li Lj hij hi hj ai aj mi mj => ?_, fun b hb hO => hr.imm b hb (hown0 b hO), hr.ilt, hr.gl⟩
    · by_cases hj : j < H.length
      · rw [← hH0, List.getElem?_append_left hj] at h1
        exact OR.le hm0 (fun _ h => h) (fun _ _ => rfl) (fun _ _ => rfl) (hr.ob j o L h1 (hm0r j L hj h2))
      · rw [← hH0, List.getElem?_append_right (by omega), List.getElem?_replicate] at h1
        split at h1
        · injection h1 with h1; subst h1; simp only [OR]
        · cases h1
    · obtain ⟨q1, q2⟩ := halv i oi Li hi mi ai
      obtain ⟨q3, q4⟩ := halv j oj Lj hj mj aj
      exact hr.inj i j oi oj Li Lj hij q1 q3 ai aj q2 q4
  let Es := fs.map (·.E)
  let S : (Nat → Bool) → Act → World → Prop := fun D a' w' => ∃ I' m', HR I' m' (hof H0 Es 0 D) w' ∧ VRs I' m' w' (gof g ops.toList vs 0 D) a'.tmps.toList ∧ a'.defers = DSt.l ∧ Ex I (Own H m) w I' (Own (hof H0 Es 0 D) m') w' ∧ (∀ id, id < H.length → m'[id]? = m[id]?) ∧ ∀ (i : Nat) f, fs[i]? = some f → D i = false → ∀ x ∈ f.ns, lk m' x = none
  refine draw_any hm (fun i o ho j hj => hw1 i o (by simpa using ho) j hj) S ?_ ?_ ?_
  · refine ⟨I, m0, ?_, ?_, hd, ⟨rfl, rfl, rfl, Nat.le_refl _, fun _ _ _ => rfl, fun _ h => h, fun b h => .inl ?_, fun _ h => .inl h⟩, fun id hid => by rw [List.getElem?_append_left (by omega)], fun i f hf _ x hx => hfree x (hA1 i f hf x hx).1⟩
    · have e : ∀ (Es : List (List (Nat × AO))) (n : Nat), hof H0 Es n (fun _ => false) = H0 := by
        intro Es
        induction Es with
        | nil => intro n; rfl
        | cons E Es ih => intro n; simp only [hof, Bool.false_eq_true, if_false]; exact ih _
      rw [e]
      exact HR.of_heap (w := w) (w' := { w with drawn := w.drawn + 1 }) rfl hr0
    · rw [gof_all fun k => rfl]
      exact VRs.of_heap (w := w) (w' := { w with drawn := w.drawn + 1 }) rfl (VRs.le hm0 (fun _ h => h) (fun _ _ => rfl) hg)
    · have e : ∀ (Es : List (List (Nat × AO))) (n : Nat), hof H0 Es n (fun _ => false) = H0 := by
        intro Es
        induction Es with
        | nil => intro n; rfl
        | cons E Es ih => intro n; simp only [hof, Bool.false_eq_true, if_false]; exact ih _
      rw [e] at h
      exact hown0 b h
  · rintro D a' w' i o ho hDi hwt hcl ⟨I', m', k1, k2, k3, k4, k5, k6⟩
    have hlt : i < ops.size := (Array.getElem?_eq_some_iff.1 ho).1
    have hot : ops.toList[i]? = some o := by simpa using ho
    obtain ⟨v, hv⟩ : ∃ v, vs[i]? = some v := ⟨vs[i]'(by omega), List.getElem?_eq_getElem (by omega)⟩
    obtain ⟨f, hf⟩ : ∃ f, fs[i]? = some f := ⟨fs[i]'(by omega), List.getElem?_eq_getElem (by omega)⟩
    have hlook := gof_look (g := g) hlex hvl ho hDi hwt hcl
    have hput := gof_put (g := g) (D := D) hlex hvl ho hv
    obtain ⟨hops, hwant⟩ := looks_op hlook
    have hs := hstep i o v f hot hv hf
    have hanc := ancOK_spec han (D := D) (fun i hi o ho => hcl i hi o (by simpa using ho))
    have before : ∀ (j : Nat) f', fs[j]? = some f' → ∀ id ∈ f'.E.map (·.1), id ∈ f.F ∨ id ∈ f.E.map (·.1) → j ≠ i → D j = decide (j < i) := fun j f' hj id hid hF hne => by
      obtain ⟨q1, _⟩ := hA2 i j f f' hf hj (Ne.symm hne)
      obtain ⟨q2, q3⟩ := q1 id hid hF
      have hjl : j < ops.size := by have := (List.getElem?_eq_some_iff.1 hj).1; omega
      by_cases hlt' : j < i
      · rw [hanc i o hot hwt j (q2 hlt') (by simpa using hjl)]; simp [hlt']
      · cases hh : D j with
        | false => simp [hlt']
        | true =>
          have hjo : ops.toList[j]? = some ops[j] := by simp [hjl]
          have := hanc j ops[j] hjo (fun l hl => hcl j hh ops[j] (by simp [hjl]) l hl) i (q3 (by omega)) (by simpa using hlt)
          rw [hDi] at this; cases this
    have hEs : ∀ (j : Nat) E, Es[j]? = some E → ∃ f', fs[j]? = some f' ∧ E = f'.E := fun j E hE => by
      simp only [Es, List.getElem?_map, Option.map_eq_some_iff] at hE
      obtain ⟨f', h1, h2⟩ := hE
      exact ⟨f', h1, h2.symm⟩
    have hHi : ∀ id ∈ f.F, (hof H0 Es 0 D)[id]? = (hof H0 Es 0 (fun t => decide (t < i)))[id]? := fun id hid => by
      refine hof_congr Es H0 H0 0 D _ rfl rfl fun j E hE hm => ?_
      obtain ⟨f', h1, rfl⟩ := hEs j E hE
      rw [Nat.zero_add]
      by_cases hji : j = i
      · subst hji; rw [hDi]; simp
      · exact before j f' h1 id hm (.inl hid) hji
    have hnext : hof H0 Es 0 (Dset D i) = apE f.E (hof H0 Es 0 D) := by
      have := hof_step Es H0 0 i f.E D (by simp [Es, hf]) (by rw [Nat.zero_add]; exact hDi) fun j E' hj hE hDj id hid hid' => by
        obtain ⟨f', h1, rfl⟩ := hEs j E' hE
        have := before j f' h1 id hid' (.inr hid) (by omega)
        rw [Nat.zero_add] at hDj
        rw [hDj] at this
        simp at this; omega
      rwa [Nat.zero_add] at this
    unfold wpOp
    simp only [ho]
    rcases hs with ⟨hwa, hll⟩ | ⟨hwa, rfl, rfl⟩
    · rw [hwant] at hwa
      rw [if_pos (wantA_ok k2 hwa)]
      have hop := hll (hof H0 Es 0 D) (gof g ops.toList vs 0 D) (by rw [hof_len, hH0l]) hHi hops
      refine OWP.mono ?_ (hop I' m' a' w' o _ rfl k1 k2 k3 (fun x hx => k6 i f hf hDi x hx))
      rintro a2 w2 ⟨I2, m2, j1, j2, j3, j4, j5⟩
      rw [hput] at j2
      refine ⟨I2, m2, by rw [hnext]; exact j1, j2, j3, by rw [hnext]; exact k4.trans j4, fun id hid => ?_, fun j f' hj hDj x hx => ?_⟩
      · rw [j5 id fun h => by have := (hA1 i f hf id h).1; omega]; exact k5 id hid
      · have hji : j ≠ i := fun e => by subst e; simp [Dset] at hDj
        have hDj' : D j = false := by simpa [Dset, hji] using hDj
        have hx' : x ∉ f.ns := (hA2 j i f' f hj hf hji).2 x hx
        have := k6 j f' hj hDj' x hx
        unfold lk at this ⊢
        rw [j5 x hx']; exact this
    · rw [hwant] at hwa
      rw [if_neg (by rw [wantA_ok k2 hwa]; simp)]
      refine ⟨I', m', by rw [hnext]; simp only [apE_nil]; exact k1, by rw [← hput]; exact put_ok k2 o.dst (by simp only [VR]), put_defers k3, by rw [hnext]; simp only [apE_nil]; exact k4, k5, fun j f' hj hDj x hx => ?_⟩
      have hji : j ≠ i := fun e => by subst e; simp [Dset] at hDj
      exact k6 j f' hj (by simpa [Dset, hji] using hDj) x hx
  · rintro D a' w' hall ⟨I', m', k1, k2, k3, k4, k5, k6⟩
    have e1 : gof g ops.toList vs 0 D = gof g ops.toList vs 0 (fun j => decide (j < ops.size)) := gof_congr _ _ _ _ _ _ fun k hk => by
      simp only [Array.length_toList] at hk
      rw [Nat.zero_add, hall k hk]; simp [hk]
    have e2 : hof H0 Es 0 D = hof H0 Es 0 (fun j => decide (j < ops.size)) := by
      apply List.ext_getElem?
      intro t
      refine hof_congr Es H0 H0 0 _ _ rfl rfl fun k E hE _ => ?_
      have hk : k < ops.size := by
        have := (List.getElem?_eq_some_iff.1 hE).1
        simp only [Es, List.length_map] at this; omega
      rw [Nat.zero_add, hall k hk]; simp [hk]
    rw [e1] at k2
    rw [e2] at k1 k4
    exact ⟨_, _, I', m', hfin, k1, k2, k3, k4, fun i L hi hL => by rw [k5 i (by omega)]; exact hL⟩
theorem MW_drawn [DSt] {id : Nat} {ops : Array Oper} {ls : List LOp} {An : List (List Nat)} {Q : Exit → List AV → List AO → Prop} {g : List AV} {H : List AO} (hlow : lowOps ops ops.toList = some ls) (hm : P.follows .mixedOrders = true) (hlex : lexOK ops.toList = true) (han : ancOK ops.toList An = true)
    (s : Nat) (hk : k ≤ H.length) (h : DW P H.length (H.length + s) An (Q .normal) ls g (H ++ List.replicate s .dead) []) : MW P k (.draw id ops) Q g H := fun c hc => by
  rw [low_draw hc]
  exact BW_drawn hlow hm hlex han s hk h
end
end Go.Abs
namespace Go.Abs
open Go
def vid : AV → List Nat
  | .sl id _ _ | .pt id _ | .mp id => [id]
  | _ => []
def idsOf (g : List AV) : List Operand → List Nat
  | [] => []
  | x :: xs => vid (ev g x) ++ idsOf g xs
def opIds (g : List AV) (op : Op) : List Nat := idsOf g op.operands.toList
theorem idsOf_eq (g : List AV) : ∀ xs, idsOf g xs = xs.flatMap fun x => vid (ev g x)
  | [] => rfl
  | x :: xs => by simp [idsOf, idsOf_eq g xs]
inductive AX where
  | same
  | set (id : Nat) (o : AO)
  | new (o : AO)
  | app (id : Nat) (o : AO)
def AX.to (H : List AO) : AX → List AO
  | .same => H
  | .set id o => H.set id o
  | .new o => H ++ [o]
  | .app id o => H.set id .dead ++ [o]
def newX (H : List AO) : Option (AV × List AO) → Option (AV × AX)
  | some (v, H') => match H'[H.length]? with
    | some o => some (v, .new o)
    | none => some (v, .same)
  | none => none
def appX (H : List AO) : List AV → Option (AV × List AO) → Option (AV × AX)
  | .sl id _ _ :: _, some (v, H') => match H'[H.length]? with
    | some o => some (v, .app id o)
    | none => some (v, .same)
  | _, some (v, H') => match H'[H.length]? with
    | some o => some (v, .new o)
    | none => some (v, .same)
  | _, none => none
def setX : AV → Option (AV × List AO) → Option (AV × AX)
  | .pt id _, some (v, H') => (H'[id]?).map fun o => (v, .set id o)
  | _, _ => none
def samX : Option (AV × List AO) → Option (AV × AX)
  | some (v, _) => some (v, .same)
  | none => none
def aopX (P : Program) (g : List AV) (H : List AO) (op : Op) : Option (AV × AX) :=
  match op with
  | .store _ a _ => setX (ev g a) (aop P g H op)
  | .box _ _ | .alloc _ | .buildSlice _ _ _ | .makeSlice _ _ _ | .convert _ _ _ => newX H (aop P g H op)
  | .call ⟨.builtin .append, args, _⟩ => appX H (args.toList.map (ev g)) (aop P g H op)
  | .call ⟨.builtin .clear, _, _⟩ => none
  | _ => samX (aop P g H op)
section
variable {P : Program} {g : List AV} {H H2 : List AO}
theorem acells_local {p : AV} (h : ∀ id ∈ vid p, H2[id]? = H[id]?) : acells H2 p = acells H p := by
  cases p <;> simp only [acells]
  rename_i id off
  rw [h id (by simp [vid])]
theorem firstA_local {p : AV} {sz n : Nat} (h : ∀ id ∈ vid p, H2[id]? = H[id]?) : firstA H2 sz n p = firstA H sz n p := by
  cases p with
  | sl id off len => simp only [firstA]; rw [h id (by simp [vid])]
  | v y => cases y <;> first | rfl | (rename_i a _ _; cases a <;> rfl)
  | _ => rfl
theorem acut_local {p : AV} {sz l n : Nat} (h : ∀ id ∈ vid p, H2[id]? = H[id]?) : acut H2 sz p l n = acut H sz p l n := by
  cases p with
  | sl id off len => simp only [acut]; rw [h id (by simp [vid])]
  | v y => cases y <;> first | rfl | (rename_i a b c; cases a <;> first | rfl | (cases b <;> first | rfl | (cases c <;> rfl)))
  | _ => rfl
theorem aslice_local {t : TypeId} {x : AV} {lo hi mx : Option AV} (h : ∀ id ∈ vid x, H2[id]? = H[id]?) : aslice P H2 t x lo hi mx = aslice P H t x lo hi mx := by
  unfold aslice
  simp only [acut_local h]
theorem getElem?_len {α : Type} (H : List α) : H[H.length]? = none := by simp
theorem getElem?_new {α : Type} (H : List α) (o : α) : (H ++ [o])[H.length]? = some o := by simp
theorem newX_new {v : AV} {o : AO} : newX H (some (v, H ++ [o])) = some (v, .new o) := by simp only [newX, getElem?_new]
theorem newX_same {v : AV} : newX H (some (v, H)) = some (v, .same) := by simp only [newX, getElem?_len]
theorem appX_none {A : List AV} : appX H A none = none := by cases A with
  | nil => rfl
  | cons a A => cases a <;> rfl
theorem appX_same {A : List AV} {v : AV} : appX H A (some (v, H)) = some (v, .same) := by cases A with
  | nil => simp only [appX, getElem?_len]
  | cons a A => cases a <;> simp only [appX, getElem?_len]
theorem appX_app {id off len : Nat} {A : List AV} {v : AV} {o : AO} : appX H (.sl id off len :: A) (some (v, H.set id .dead ++ [o])) = some (v, .app id o) := by
  have e : (H.set id .dead ++ [o])[H.length]? = some o := by
    have := getElem?_new (H.set id .dead) o
    simpa using this
  simp only [appX, e]
theorem appX_new {a : AV} {A : List AV} {v : AV} {o : AO} (h : ∀ id off len, a ≠ .sl id off len) : appX H (a :: A) (some (v, H ++ [o])) = some (v, .new o) := by
  cases a <;> first | exact (h _ _ _ rfl).elim | simp only [appX, getElem?_new]
theorem append_local {t u : TypeId} {s x : AV} (hl : H2.length = H.length) (hs : ∀ id ∈ vid s, H2[id]? = H[id]?) (hx : ∀ id ∈ vid x, H2[id]? = H[id]?) : appX H2 (s :: [x]) (aappend P H2 t u s x) = appX H (s :: [x]) (aappend P H t u s x) := by
  unfold aappend
  split
  case h_2 => simp only [appX_none]
  rename_i ed _ _ _ dd _ _ _ hd hu
  split
  case h_2 => simp only [appX_none]
  rename_i te hte
  by_cases hz : isIntD dd = true
  · rw [if_pos hz, if_pos hz]; simp only [appX_none]
  rw [if_neg hz, if_neg hz]
  split
  case h_2 => simp only [appX_none]
  rename_i n hn
  rw [firstA_local hx]
  split
  case h_2 => simp only [appX_none]
  rename_i new hnew
  split
  case isFalse => simp only [appX_none]
  split
  · split
    · rw [appX_new (fun _ _ _ e => by cases e), appX_new (fun _ _ _ e => by cases e), hl]
    · simp only [appX_none]
  · split
    · rw [appX_new (fun _ _ _ e => by cases e), appX_new (fun _ _ _ e => by cases e), hl]
    · simp only [appX_none]
  · rename_i id off len
    rw [hs id (by simp [vid])]
    split
    case h_2 => simp only [appX_none]
    split
    case isFalse => simp only [appX_none]
    rw [appX_app, appX_app, hl]
  · simp only [appX_none]
theorem appX_ok {t u : TypeId} {s x v : AV} {ax : AX} (h : appX H (s :: [x]) (aappend P H t u s x) = some (v, ax)) : aappend P H t u s x = some (v, ax.to H) := by
  cases hr : aappend P H t u s x with
  | none => rw [hr, appX_none] at h; cases h
  | some r =>
    obtain ⟨v', H'⟩ := r
    have key : (H' = H ∨ (∃ o, H' = H ++ [o] ∧ ∀ id off len, s ≠ .sl id off len) ∨ (∃ id off len o, s = .sl id off len ∧ H' = H.set id .dead ++ [o])) := by
      unfold aappend at hr
      split at hr
      case h_2 => cases hr
      split at hr
      case h_2 => cases hr
      split at hr
      · cases hr
      split at hr
      case h_2 => cases hr
      split at hr
      case h_2 => cases hr
      split at hr
      case isFalse => cases hr
      split at hr
      · split at hr
        · injection hr with hr; obtain ⟨_, rfl⟩ := Prod.mk.inj hr; exact .inr (.inl ⟨_, rfl, fun _ _ _ e => by cases e⟩)
        · cases hr
      · split at hr
        · injection hr with hr; obtain ⟨_, rfl⟩ := Prod.mk.inj hr; exact .inr (.inl ⟨_, rfl, fun _ _ _ e => by cases e⟩)
        · cases hr
      · split at hr
        case h_2 => cases hr
        split at hr
        case isFalse => cases hr
        injection hr with hr; obtain ⟨_, rfl⟩ := Prod.mk.inj hr; exact .inr (.inr ⟨_, _, _, _, rfl, rfl⟩)
      · cases hr
    rw [hr] at h
    rcases key with rfl | ⟨o, rfl, hs⟩ | ⟨id, off, len, o, rfl, rfl⟩
    · rw [appX_same] at h; injection h with h; obtain ⟨rfl, rfl⟩ := Prod.mk.inj h; rfl
    · rw [appX_new hs] at h; injection h with h; obtain ⟨rfl, rfl⟩ := Prod.mk.inj h; rfl
    · rw [appX_app] at h
      injection h with h; obtain ⟨rfl, rfl⟩ := Prod.mk.inj h; rfl
theorem mem_opIds {op : Op} {x : Operand} (hx : x ∈ op.operands) {id : Nat} (hid : id ∈ vid (ev g x)) : id ∈ opIds g op := by
  unfold opIds; rw [idsOf_eq]; exact List.mem_flatMap.2 ⟨x, Array.mem_toList_iff.2 hx, hid⟩
set_option maxHeartbeats 1000000 in
theorem aopX_local {op : Op} (hl : H2.length = H.length) (h : ∀ id ∈ opIds g op, H2[id]? = H[id]?) : aopX P g H2 op = aopX P g H op := by
  have hx : ∀ x ∈ op.operands, ∀ id ∈ vid (ev g x), H2[id]? = H[id]? := fun x hx id hid => h id (mem_opIds hx hid)
  cases op with
  | store t a y =>
    have ha := hx a (by simp [Op.operands])
    simp only [aopX, aop]
    generalize ev g a = A at *
    cases A with
    | pt id off =>
      simp only
      have e := ha id (by simp [vid])
      rw [e]
      cases ho : H[id]? with
      | none => rfl
      | some o =>
        cases o with
        | cells sz cs =>
          simp only
          have h1 : id < H.length := (List.getElem?_eq_some_iff.1 ho).1
          split
          · split
            · simp only [setX]
              rw [List.getElem?_set_self h1, List.getElem?_set_self (by omega)]
            · rfl
          · rfl
        | _ => rfl
    | _ => rfl
  | load t x =>
    simp only [aopX, aop]
    rw [acells_local (hx x (by simp [Op.operands]))]
    split
    · cases apart P t _ _ <;> rfl
    · rfl
  | slice t x lo hi mx =>
    simp only [aopX, aop]
    rw [aslice_local (hx x (by simp [Op.operands]))]
    cases aslice P H t (ev g x) _ _ _ <;> rfl
  | box t x =>
    simp only [aopX, aop]
    split
    · simp only [newX_new, hl]
    · rfl
  | alloc t =>
    simp only [aopX, aop]
    split
    · simp only [newX_new, hl]
    · rfl
  | buildSlice t n ps =>
    simp only [aopX, aop]
    split
    case h_2 => rfl
    split
    case h_2 => rfl
    split
    case isFalse => rfl
    split
    case h_2 => rfl
    split
    case isFalse => rfl
    simp only [newX_new, hl]
  | makeSlice t l c =>
    simp only [aopX, aop]
    split
    case h_2 => rfl
    split
    case h_2 => rfl
    split
    case h_2 => rfl
    split
    case isFalse => rfl
    simp only [newX_new, hl]
  | convert s d x =>
    have ha := hx x (by simp [Op.operands])
    simp only [aopX, aop]
    split
    · simp only [newX_same]
    · simp only [newX_same]
    · split
      · simp only [newX_new, hl]
      · rfl
    · split
      · rw [firstA_local ha]
        split
        · cases toBytes _ with
          | none => rfl
          | some l => simp only [Option.map_some, newX_same]
        · rfl
      · rfl
    · rfl
  | call c =>
    obtain ⟨callee, args, ats⟩ := c
    cases callee with
    | value f => rfl
    | invoke r mth => rfl
    | builtin b =>
      cases b with
      | append =>
        simp only [aopX, aop]
        have hargs : ∀ a ∈ args.toList.map (ev g), ∀ id ∈ vid a, H2[id]? = H[id]? := fun a ha id hid => by
          obtain ⟨x, hxm, rfl⟩ := List.mem_map.1 ha
          exact hx x (by simp [Op.operands, Call.operands]; simpa using hxm) id hid
        generalize args.toList.map (ev g) = A at hargs
        cases A with
        | nil => rfl
        | cons s A => cases A with
          | nil => simp only [abuiltin, appX_none]
          | cons x A => cases A with
            | nil =>
              simp only [abuiltin]
              split
              · exact append_local hl (hargs s (by simp)) (hargs x (by simp))
              · simp only [appX_none]
            | cons => simp only [abuiltin, appX_none]
      | len =>
        simp only [aopX, aop]
        unfold abuiltin
        generalize args.toList.map (ev g) = A
        cases A with
        | nil => rfl
        | cons a A => cases A with
          | cons => rfl
          | nil =>
            simp only
            split
            · split
              · split <;> rfl
              · split <;> rfl
              · rfl
            · rfl
      | clear => rfl
      | _ =>
        simp only [aopX, aop]
        generalize args.toList.map (ev g) = A
        unfold abuiltin
        split <;> first
          | rfl
          | contradiction
          | (split <;> first | rfl | contradiction)
  | _ =>
    first | rfl | simp only [aopX, aop]
    all_goals try rfl
    all_goals (repeat' split)
    all_goals first | rfl | (simp only [samX]; done) | (simp only [Option.map]; split <;> rfl)
set_option maxHeartbeats 1000000 in
theorem aopX_ok {op : Op} {v : AV} {ax : AX} (h : aopX P g H op = some (v, ax)) : aop P g H op = some (v, ax.to H) := by
  have sam : ∀ r : Option (AV × List AO), (∀ v H', r = some (v, H') → H' = H) → samX r = some (v, ax) → r = some (v, ax.to H) := fun r hr hs => by
    cases r with
    | none => cases hs
    | some p =>
      obtain ⟨v', H'⟩ := p
      have e := hr _ _ rfl
      rw [e]
      change some (v', AX.same) = some (v, ax) at hs
      injection hs with hs; obtain ⟨rfl, rfl⟩ := Prod.mk.inj hs; rfl
  have nw : ∀ r : Option (AV × List AO), (∀ v H', r = some (v, H') → H' = H ∨ ∃ o, H' = H ++ [o]) → newX H r = some (v, ax) → r = some (v, ax.to H) := fun r hr hs => by
    cases r with
    | none => cases hs
    | some p =>
      obtain ⟨v', H'⟩ := p
      rcases hr _ _ rfl with e | ⟨o, e⟩ <;> subst e
      · rw [newX_same] at hs; injection hs with hs; obtain ⟨rfl, rfl⟩ := Prod.mk.inj hs; rfl
      · rw [newX_new] at hs; injection hs with hs; obtain ⟨rfl, rfl⟩ := Prod.mk.inj hs; rfl
  cases op with
  | store t a y =>
    simp only [aopX] at h
    cases hA : ev g a with
    | pt id off =>
      rw [hA] at h
      cases hr : aop P g H (.store t a y) with
      | none => rw [hr] at h; cases h
      | some p =>
        obtain ⟨v', H'⟩ := p
        rw [hr] at h
        have hH : ∃ o, H' = H.set id o := by
          simp only [aop, hA] at hr
          split at hr
          case h_2 => cases hr
          split at hr
          case h_2 => cases hr
          split at hr
          case isFalse => cases hr
          injection hr with hr; obtain ⟨_, rfl⟩ := Prod.mk.inj hr
          exact ⟨_, rfl⟩
        obtain ⟨o, rfl⟩ := hH
        simp only [setX] at h
        rw [Option.map_eq_some_iff] at h
        obtain ⟨o', h1, h2⟩ := h
        obtain ⟨rfl, rfl⟩ := Prod.mk.inj h2
        have hlt : id < H.length := by
          have := (List.getElem?_eq_some_iff.1 h1).1
          simpa using this
        rw [List.getElem?_set_self hlt] at h1
        injection h1 with h1; subst h1
        rfl
    | _ => rw [hA] at h; cases h
  | box t x =>
    refine nw _ (fun v H' hr => ?_) h
    simp only [aop] at hr
    split at hr
    · injection hr with hr; obtain ⟨_, rfl⟩ := Prod.mk.inj hr; exact .inr ⟨_, rfl⟩
    · cases hr
  | alloc t =>
    refine nw _ (fun v H' hr => ?_) h
    simp only [aop] at hr
    split at hr
    · injection hr with hr; obtain ⟨_, rfl⟩ := Prod.mk.inj hr; exact .inr ⟨_, rfl⟩
    · cases hr
  | buildSlice t n ps =>
    refine nw _ (fun v H' hr => ?_) h
    simp only [aop] at hr
    split at hr
    case h_2 => cases hr
    split at hr
    case h_2 => cases hr
    split at hr
    case isFalse => cases hr
    split at hr
    case h_2 => cases hr
    split at hr
    · injection hr with hr; obtain ⟨_, rfl⟩ := Prod.mk.inj hr; exact .inr ⟨_, rfl⟩
    · cases hr
  | makeSlice t l c =>
    refine nw _ (fun v H' hr => ?_) h
    simp only [aop] at hr
    split at hr
    case h_2 => cases hr
    split at hr
    case h_2 => cases hr
    split at hr
    case h_2 => cases hr
    split at hr
    · injection hr with hr; obtain ⟨_, rfl⟩ := Prod.mk.inj hr; exact .inr ⟨_, rfl⟩
    · cases hr
  | convert s d x =>
    refine nw _ (fun v H' hr => ?_) h
    simp only [aop] at hr
    split at hr
    · injection hr with hr; obtain ⟨_, rfl⟩ := Prod.mk.inj hr; exact .inl rfl
    · injection hr with hr; obtain ⟨_, rfl⟩ := Prod.mk.inj hr; exact .inl rfl
    · split at hr
      · injection hr with hr; obtain ⟨_, rfl⟩ := Prod.mk.inj hr; exact .inr ⟨_, rfl⟩
      · cases hr
    · split at hr
      · split at hr
        · rw [Option.map_eq_some_iff] at hr
          obtain ⟨l, _, hr⟩ := hr
          obtain ⟨_, rfl⟩ := Prod.mk.inj hr; exact .inl rfl
        · cases hr
      · cases hr
    · cases hr
  | call c =>
    obtain ⟨callee, args, ats⟩ := c
    cases callee with
    | value f => simp only [aopX, aop, samX] at h; cases h
    | invoke r mth => simp only [aopX, aop, samX] at h; cases h
    | builtin b =>
      cases b with
      | append =>
        simp only [aopX, aop] at h ⊢
        generalize args.toList.map (ev g) = A at h ⊢
        cases A with
        | nil => simp only [abuiltin, appX_none] at h; cases h
        | cons s A => cases A with
          | nil => simp only [abuiltin, appX_none] at h; cases h
          | cons x A => cases A with
            | nil =>
              simp only [abuiltin] at h ⊢
              split at h
              · rename_i t u ht hu
                exact appX_ok h
              · simp only [appX_none] at h; cases h
            | cons => simp only [abuiltin, appX_none] at h; cases h
      | clear => cases h
      | _ =>
        refine sam _ (fun v H' hr => ?_) h
        simp only [aop] at hr
        unfold abuiltin at hr
        generalize args.toList.map (ev g) = A at hr
        repeat' (split at hr)
        all_goals first
          | contradiction
          | (injection hr with hr; obtain ⟨_, rfl⟩ := Prod.mk.inj hr; rfl)
  | _ =>
    refine sam _ (fun v H' hr => ?_) h
    simp only [aop] at hr
    first
      | (cases hr; done)
      | (injection hr with hr; obtain ⟨_, rfl⟩ := Prod.mk.inj hr; rfl)
      | (repeat' (split at hr)
         all_goals first
          | (cases hr; done)
          | (injection hr with hr; obtain ⟨_, rfl⟩ := Prod.mk.inj hr; rfl)
          | (rw [Option.map_eq_some_iff] at hr; obtain ⟨_, _, hr⟩ := hr; obtain ⟨_, rfl⟩ := Prod.mk.inj hr; rfl))
      | (rw [Option.map_eq_some_iff] at hr; obtain ⟨_, _, hr⟩ := hr; obtain ⟨_, rfl⟩ := Prod.mk.inj hr; rfl)
end
end Go.Abs
