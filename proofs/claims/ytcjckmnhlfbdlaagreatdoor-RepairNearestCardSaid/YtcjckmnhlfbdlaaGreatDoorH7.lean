/- Part 7 of the texts that lead to repairNearestCard_holds. No condition. -/
import Derived.Test.YtcjckmnhlfbdlaaGreatDoorH6
set_option linter.all false
namespace Go.Abs
open Go
mutual
theorem ren_id : ∀ v : AV, v.ren (fun j => j) = v
 | .v _ => by simp only [AV.ren]
 | .em => by simp only [AV.ren]
 | .any => by simp only [AV.ren]
 | .nb => by simp only [AV.ren]
 | .sl _ _ _ => by simp only [AV.ren]
 | .pt _ _ => by simp only [AV.ren]
 | .mp _ => by simp only [AV.ren]
 | .im _ cs => by simp only [AV.ren, rens_id cs]
 | .ip cs => by simp only [AV.ren, rens_id cs]
 | .ag cs => by simp only [AV.ren, rens_id cs]
 | .tu cs => by simp only [AV.ren, rens_id cs]
 | .fn f a b => by simp only [AV.ren, rens_id a, rens_id b]
theorem rens_id : ∀ vs : List AV, rens (fun j => j) vs = vs
 | [] => by simp only [rens]
 | v :: vs => by simp only [rens, ren_id v, rens_id vs]
end
theorem oren_id (o : AO) : o.ren (fun j => j) = o := by cases o <;> simp only [AO.ren, rens_id]
section
variable {I I' : Nat → Prop} {m m' : List Loc} {w w' : World}
theorem VRs.le (h : ∀ (j : Nat) L, lk m j = some L → lk m' j = some L) (hI : ∀ b, I b → I' b) (hw : ∀ b, I b → w'.heap[b]? = w.heap[b]?) {v : List AV} {y : List Value} (k : VRs I m w v y) : VRs I' m' w' v y := by
 have h1 := VRs.mono (nu := []) hI hw v y k
 simp only [List.append_nil] at h1
 have h2 := VRs.ren (τ := fun j => j) h v y h1
 rwa [rens_id] at h2
theorem OR.le (h : ∀ (j : Nat) L, lk m j = some L → lk m' j = some L) (hI : ∀ b, I b → I' b) (hw : ∀ b, I b → w'.heap[b]? = w.heap[b]?) {o : AO} {L : Loc} (hL : o.alive = true → L.cap ≠ 0 → w'.heap[L.b]? = w.heap[L.b]?) (k : OR I m w o L) : OR I' m' w' o L := by
 have h1 := OR.mono (nu := []) hI hw hL k
 simp only [List.append_nil] at h1
 have h2 := OR.ren (τ := fun j => j) h h1
 rwa [oren_id] at h2
end
def apE (E : List (Nat × AO)) (H : List AO) : List AO := E.foldl (fun H p => H.set p.1 p.2) H
theorem apE_nil (H : List AO) : apE [] H = H := _root_.id rfl
theorem apE_cons (p : Nat × AO) (E : List (Nat × AO)) (H : List AO) : apE (p :: E) H = apE E (H.set p.1 p.2) := _root_.id rfl
theorem apE_len : ∀ (E : List (Nat × AO)) (H : List AO), (apE E H).length = H.length
 | [], H => rfl
 | p :: E, H => by rw [apE_cons, apE_len E]; simp
theorem apE_append (E E' : List (Nat × AO)) (H : List AO) : apE (E ++ E') H = apE E' (apE E H) := by simp [apE]
theorem apE_other {id : Nat} : ∀ (E : List (Nat × AO)) (H : List AO), id ∉ E.map (·.1) → (apE E H)[id]? = H[id]?
 | [], H, _ => rfl
 | p :: E, H, h => by
  simp only [List.map_cons, List.mem_cons, not_or] at h
  rw [apE_cons, apE_other E _ h.2, List.getElem?_set_ne (Ne.symm h.1)]
theorem apE_congr {id : Nat} : ∀ (E : List (Nat × AO)) (H H' : List AO), H.length = H'.length → (id ∉ E.map (·.1) → H[id]? = H'[id]?) → (apE E H)[id]? = (apE E H')[id]?
 | [], H, H', _, h => h (by simp)
 | p :: E, H, H', hl, h => by
  rw [apE_cons, apE_cons]
  refine apE_congr E _ _ (by simp [hl]) fun hn => ?_
  by_cases e : p.1 = id
  ·subst e
   rw [List.getElem?_set, List.getElem?_set, hl]; simp
  ·rw [List.getElem?_set_ne e, List.getElem?_set_ne e]
   exact h (by simp only [List.map_cons, List.mem_cons, not_or]; exact ⟨fun e' => e e'.symm, hn⟩)
def setAll {α : Type} : List α → List Nat → List α → List α
 | m, s :: ss, L :: Ls => setAll (m.set s L) ss Ls
 | m, _, _ => m
theorem setAll_len {α : Type} : ∀ (ss : List Nat) (Ls m : List α), (setAll m ss Ls).length = m.length
 | [], Ls, m => by cases Ls <;> rfl
 | s :: ss, [], m => rfl
 | s :: ss, L :: Ls, m => by simp only [setAll]; rw [setAll_len ss Ls]; simp
theorem setAll_other {α : Type} {j : Nat} : ∀ (ss : List Nat) (Ls m : List α), j ∉ ss → (setAll m ss Ls)[j]? = m[j]?
 | [], Ls, m, _ => by cases Ls <;> rfl
 | s :: ss, [], m, _ => rfl
 | s :: ss, L :: Ls, m, h => by
  simp only [List.mem_cons, not_or] at h
  simp only [setAll]; rw [setAll_other ss Ls _ h.2, List.getElem?_set_ne (Ne.symm h.1)]
theorem setAll_at {α : Type} : ∀ (ss : List Nat) (Ls m : List α) (i s : Nat) (L : α), ss.Nodup → ss[i]? = some s → Ls[i]? = some L → s < m.length → (setAll m ss Ls)[s]? = some L
 | [], Ls, m, i, s, L, _, h, _, _ => by simp at h
 | s' :: ss, [], m, i, s, L, _, _, h, _ => by simp at h
 | s' :: ss, L' :: Ls, m, i, s, L, hn, h1, h2, hl => by
  obtain ⟨n1, n2⟩ := List.nodup_cons.1 hn
  simp only [setAll]
  cases i with
  | zero =>
   simp at h1 h2; subst h1; subst h2
   rw [setAll_other ss Ls _ n1, List.getElem?_set_self hl]
  | succ i =>
   simp at h1 h2
   exact setAll_at ss Ls _ i s L n2 h1 h2 (by simpa using hl)
theorem setAll_mem {α : Type} (ss : List Nat) (Ls m : List α) (hl : ss.length = Ls.length) {s : Nat} (hs : s ∈ ss) : ∃ (i : Nat) (L : α), ss[i]? = some s ∧ Ls[i]? = some L := by
 obtain ⟨i, hi⟩ := List.getElem?_of_mem hs
 have : i < Ls.length := by rw [← hl]; exact (List.getElem?_eq_some_iff.1 hi).1
 exact ⟨i, Ls[i], hi, List.getElem?_eq_getElem this⟩
section
variable {I : Nat → Prop} {m : List Loc} {w : World} {τ : Nat → Nat}
theorem lk_lt {id : Nat} {L : Loc} (h : lk m id = some L) : id < m.length := (List.getElem?_eq_some_iff.1 (lk_get h).1).1
mutual
theorem VR.bel (hτ : ∀ j, j < m.length → τ j = j) : ∀ (v : AV) (y : Value), VR I m w v y → v.ren τ = v
 | .v _, _, _ => by simp only [AV.ren]
 | .em, _, _ => by simp only [AV.ren]
 | .any, _, _ => by simp only [AV.ren]
 | .nb, _, _ => by simp only [AV.ren]
 | .sl _ _ _, _, k => by
  simp only [VR] at k
  obtain ⟨L, A, c, h1, h2⟩ := k
  simp only [AV.ren, hτ _ (lk_lt h1)]
 | .pt _ _, _, k => by
  simp only [VR] at k
  obtain ⟨L, h1, h2⟩ := k
  simp only [AV.ren, hτ _ (lk_lt h1)]
 | .mp _, _, k => by
  simp only [VR] at k
  obtain ⟨L, h1, h2⟩ := k
  simp only [AV.ren, hτ _ (lk_lt h1)]
 | .im n cs, _, k => by
  simp only [VR] at k
  obtain ⟨A, c, h1, h2, h3⟩ := k
  rcases h3 with rfl | ⟨b, o, h4, h5, h6⟩
  ·simp only [AV.ren, rens]
  ·simp only [AV.ren, CR.bel hτ cs o h6]
 | .ip cs, _, k => by
  simp only [VR] at k
  obtain ⟨b, o, h4, h5, h6⟩ := k
  simp only [AV.ren, CR.bel hτ cs o h6]
 | .ag cs, _, k => by
  simp only [VR] at k
  obtain ⟨xs, h1, h2⟩ := k
  simp only [AV.ren, VRs.bel hτ cs _ h2]
 | .tu cs, _, k => by
  simp only [VR] at k
  obtain ⟨xs, h1, h2⟩ := k
  simp only [AV.ren, VRs.bel hτ cs _ h2]
 | .fn f a b, _, k => by
  simp only [VR] at k
  obtain ⟨xs, ys, h1, h2, h3⟩ := k
  simp only [AV.ren, VRs.bel hτ a _ h2, VRs.bel hτ b _ h3]
theorem VRs.bel (hτ : ∀ j, j < m.length → τ j = j) : ∀ (cs : List AV) (xs : List Value), VRs I m w cs xs → rens τ cs = cs
 | [], _, _ => by simp only [rens]
 | c :: cs, _, k => by
  simp only [VRs] at k
  obtain ⟨y, zs, h1, h2, h3⟩ := k
  simp only [rens, VR.bel hτ c y h2, VRs.bel hτ cs zs h3]
theorem CR.bel {b : Nat} (hτ : ∀ j, j < m.length → τ j = j) : ∀ (cs : List AV) (o : Nat), CR I m w b cs o → rens τ cs = cs
 | [], _, _ => by simp only [rens]
 | c :: cs, o, k => by
  simp only [CR] at k
  obtain ⟨⟨x, h1, h2⟩, h3⟩ := k
  simp only [rens, VR.bel hτ c x h2, CR.bel hτ cs (o + 1) h3]
end
theorem OR.bel (hτ : ∀ j, j < m.length → τ j = j) {o : AO} {L : Loc} (k : OR I m w o L) : o.ren τ = o := by
 cases o with
 | dead => rfl
 | raw => rfl
 | mapv ks vs =>
  simp only [OR] at k
  obtain ⟨q1, es, cl, q2, q3, q4⟩ := k
  simp only [AO.ren, VRs.bel hτ vs _ q4.1]
 | mi vs s sn l =>
  simp only [OR] at k
  obtain ⟨q1, b, q2, q3⟩ := k
  simp only [AO.ren, VRs.bel hτ vs _ q3]
 | tc t cs =>
  simp only [OR] at k
  obtain ⟨_, c, _, h4⟩ := k
  have : rens τ cs = cs := by
   rw [rens_eq]
   apply List.ext_getElem?
   intro i
   rw [List.getElem?_map]
   cases hi : cs[i]? with
   | none => rfl
   | some v =>
    obtain ⟨y, _, h6, _⟩ := h4 i v hi
    simp only [Option.map_some, VR.bel hτ v y h6]
  simp only [AO.ren, this]
 | tf t cs =>
  simp only [OR] at k
  obtain ⟨_, c, fz, _, h4⟩ := k
  have : rens τ cs = cs := by
   rw [rens_eq]
   apply List.ext_getElem?
   intro i
   rw [List.getElem?_map]
   cases hi : cs[i]? with
   | none => rfl
   | some v =>
    obtain ⟨y, _, h6, _⟩ := h4 i v hi
    simp only [Option.map_some, VR.bel hτ v y h6]
  simp only [AO.ren, this]
 | ice sz cs =>
  simp only [OR] at k
  by_cases hc : L.cap = 0
  ·have : cs = [] := List.eq_nil_of_length_eq_zero (by omega)
   subst this; simp only [AO.ren, rens]
  ·simp only [AO.ren, CR.bel hτ cs _ (k.2.2 hc).2]
 | fx sz cs r =>
  simp only [OR] at k
  by_cases hc : L.cap = 0
  ·have : cs = [] := List.eq_nil_of_length_eq_zero (by omega)
   subst this; simp only [AO.ren, rens]
  ·obtain ⟨c, E, fz, h1, h2, h3, h4⟩ := k.1.2.2 hc
   have : rens τ cs = cs := by
    rw [rens_eq]
    apply List.ext_getElem?
    intro i
    rw [List.getElem?_map]
    cases hi : cs[i]? with
    | none => rfl
    | some v =>
     obtain ⟨y, _, h6, _⟩ := h4 i v hi
     simp only [Option.map_some, VR.bel hτ v y h6]
   simp only [AO.ren, this]
 | cells sz cs =>
  simp only [OR] at k
  by_cases hc : L.cap = 0
  ·have : cs = [] := List.eq_nil_of_length_eq_zero (by omega)
   subst this; simp only [AO.ren, rens]
  ·obtain ⟨c, E, fz, h1, h2, h3, h4⟩ := k.2.2 hc
   have : rens τ cs = cs := by
    rw [rens_eq]
    apply List.ext_getElem?
    intro i
    rw [List.getElem?_map]
    cases hi : cs[i]? with
    | none => rfl
    | some v =>
     obtain ⟨y, _, h6, _⟩ := h4 i v hi
     simp only [Option.map_some, VR.bel hτ v y h6]
   simp only [AO.ren, this]
end
def mv (N : Nat) (slots : List Nat) (j : Nat) : Nat := if j < N then j else slots.getD (j - N) 0
theorem mv_lt {N : Nat} {slots : List Nat} {j : Nat} (h : j < N) : mv N slots j = j := if_pos h
theorem mv_new {N : Nat} {slots : List Nat} (i : Nat) : mv N slots (N + i) = slots.getD i 0 := by
 unfold mv; rw [if_neg (by omega), Nat.add_sub_cancel_left]
section
variable {I I' : Nat → Prop} {m nu : List Loc} {H Hn : List AO} {E : List (Nat × AO)} {w w' : World} {slots : List Nat}
theorem HR.move (hr : HR I m H w) (hr' : HR I' (m ++ nu) (apE E H ++ Hn) w') (hx : Ex I (Own H m) w I' (Own (apE E H ++ Hn) (m ++ nu)) w')
 (hl : slots.length = Hn.length) (hn : slots.Nodup) (hs : ∀ s ∈ slots, s < H.length ∧ lk m s = none ∧ s ∉ E.map (·.1)) :
 HR I' (setAll m slots nu) (apE (E.map (fun p => (p.1, p.2.ren (mv H.length slots))) ++ slots.zip (Hn.map (·.ren (mv H.length slots)))) H) w' ∧
 (∀ (j : Nat) L, lk (m ++ nu) j = some L → lk (setAll m slots nu) (mv H.length slots j) = some L) ∧
 (∀ (j : Nat) L, lk m j = some L → lk (setAll m slots nu) j = some L) ∧
 Ex I (Own H m) w I' (Own (apE (E.map (fun p => (p.1, p.2.ren (mv H.length slots))) ++ slots.zip (Hn.map (·.ren (mv H.length slots)))) H) (setAll m slots nu)) w' := by
 have hml := hr.len
 have hml' := hr'.len
 simp only [List.length_append, apE_len] at hml'
 have hnu : nu.length = Hn.length := by omega
 generalize hτ : mv H.length slots = τ
 have le1 : ∀ (j : Nat) L, lk (m ++ nu) j = some L → lk (setAll m slots nu) (τ j) = some L := fun j L hj => by
  obtain ⟨h1, h2⟩ := lk_get hj
  rw [← hτ]
  by_cases hjl : j < H.length
  ·rw [mv_lt hjl]
   rw [List.getElem?_append_left (by omega)] at h1
   refine lk_of ?_ h2
   rw [setAll_other slots nu m fun hmem => ?_]
   ·exact h1
   ·have := (hs j hmem).2.1
    rw [lk_of h1 h2] at this; cases this
  ·rw [List.getElem?_append_right (by omega)] at h1
   refine lk_of ?_ h2
   have hlt : j - m.length < nu.length := (List.getElem?_eq_some_iff.1 h1).1
   have hlt2 : j - H.length < slots.length := by omega
   have e1 : slots[j - H.length]? = some slots[j - H.length] := List.getElem?_eq_getElem hlt2
   have e2 : mv H.length slots j = slots[j - H.length] := by
    unfold mv; rw [if_neg hjl, List.getD_eq_getElem?_getD, e1]; rfl
   rw [e2]
   exact setAll_at slots nu m (j - H.length) _ L hn e1 (by rw [← hml]; exact h1) (by rw [hml]; exact (hs _ (List.getElem_mem hlt2)).1)
 have le2 : ∀ (j : Nat) L, lk m j = some L → lk (setAll m slots nu) j = some L := fun j L hj => by
  obtain ⟨h1, h2⟩ := lk_get hj
  refine lk_of ?_ h2
  rw [setAll_other slots nu m fun hmem => ?_]
  ·exact h1
  ·have := (hs j hmem).2.1
   rw [hj] at this; cases this
 have cls : ∀ (t : Nat) o L, (apE (E.map (fun p => (p.1, p.2.ren τ)) ++ slots.zip (Hn.map (·.ren τ))) H)[t]? = some o → (setAll m slots nu)[t]? = some L →
  (t ∉ slots ∧ t ∉ E.map (·.1) ∧ H[t]? = some o ∧ m[t]? = some L) ∨ (∃ j oj, τ j = t ∧ (apE E H ++ Hn)[j]? = some oj ∧ o = oj.ren τ ∧ (m ++ nu)[j]? = some L) := fun t o L ht hL => by
  rw [apE_append] at ht
  have hzip : (slots.zip (Hn.map (·.ren τ))).map (·.1) = slots := by rw [List.map_fst_zip (by simp [hl])]
  by_cases hmem : t ∈ slots
  ·obtain ⟨i, oi, h1, h2⟩ := setAll_mem slots Hn [] hl hmem
   have hLi : nu[i]? = some L := by
    have hil : i < nu.length := by rw [hnu, ← hl]; exact (List.getElem?_eq_some_iff.1 h1).1
    have := setAll_at slots nu m i t nu[i] hn h1 (List.getElem?_eq_getElem hil) (by rw [hml]; exact (hs t hmem).1)
    rw [hL] at this; injection this with this; rw [this]; exact List.getElem?_eq_getElem hil
   have key : ∀ (ss : List Nat) (os : List AO) (H0 : List AO) (i : Nat), ss.Nodup → ss[i]? = some t → os[i]? = some (oi.ren τ) → t < H0.length → (apE (ss.zip os) H0)[t]? = some (oi.ren τ) := by
    intro ss
    induction ss with
    | nil => intro os H0 i _ h; simp at h
    | cons s ss ih =>
     intro os H0 i hnd h1 h2 h3
     obtain ⟨n1, n2⟩ := List.nodup_cons.1 hnd
     cases os with
     | nil => simp at h2
     | cons o os =>
      rw [List.zip_cons_cons, apE_cons]
      cases i with
      | zero =>
       simp at h1 h2; subst h1; subst h2
       rw [apE_other _ _ (fun h => n1 ?_), List.getElem?_set_self h3]
       obtain ⟨p, hp, rfl⟩ := List.mem_map.1 h
       exact (List.of_mem_zip hp).1
      | succ i =>
       simp at h1 h2
       exact ih os _ i n2 h1 h2 (by simpa using h3)
   have hk := key slots (Hn.map (·.ren τ)) (apE (E.map fun p => (p.1, p.2.ren τ)) H) i hn h1 (by simp [h2]) (by rw [apE_len]; exact (hs t hmem).1)
   rw [hk] at ht; injection ht with ht; subst ht
   refine .inr ⟨H.length + i, oi, ?_, ?_, rfl, ?_⟩
   ·rw [← hτ, mv_new, List.getD_eq_getElem?_getD, h1]; rfl
   ·rw [List.getElem?_append_right (by rw [apE_len]; omega), apE_len, Nat.add_sub_cancel_left]; exact h2
   ·rw [List.getElem?_append_right (by omega), ← hml, Nat.add_sub_cancel_left]; exact hLi
  ·rw [apE_other _ _ (by rw [hzip]; exact hmem)] at ht
   rw [setAll_other slots nu m hmem] at hL
   have htl : t < H.length := by rw [← hml]; exact (List.getElem?_eq_some_iff.1 hL).1
   by_cases hE : t ∈ E.map (·.1)
   ·have e : ∀ (E : List (Nat × AO)) (H1 H2 : List AO), H1.length = H2.length → t < H1.length → (t ∉ E.map (·.1) → ∃ oj, H2[t]? = some oj ∧ H1[t]? = some (oj.ren τ)) → ∃ oj, (apE E H2)[t]? = some oj ∧ (apE (E.map fun p => (p.1, p.2.ren τ)) H1)[t]? = some (oj.ren τ) := by
     intro E
     induction E with
     | nil => intro H1 H2 _ _ h; exact h (by simp)
     | cons p E ih =>
      intro H1 H2 hl2 hlt h
      rw [List.map_cons, apE_cons, apE_cons]
      refine ih _ _ (by simp [hl2]) (by simpa using hlt) fun hn2 => ?_
      by_cases hp : p.1 = t
      ·subst hp
       exact ⟨p.2, by rw [List.getElem?_set_self (by omega)], by rw [List.getElem?_set_self (by simpa using hlt)]⟩
      ·obtain ⟨oj, q1, q2⟩ := h (by simp only [List.map_cons, List.mem_cons, not_or]; exact ⟨fun e => hp e.symm, hn2⟩)
       exact ⟨oj, by rw [List.getElem?_set_ne hp]; exact q1, by rw [List.getElem?_set_ne hp]; exact q2⟩
    obtain ⟨oj, q1, q2⟩ := e E H H rfl htl (fun h => (h hE).elim)
    rw [q2] at ht; injection ht with ht; subst ht
    exact .inr ⟨t, oj, by rw [← hτ, mv_lt htl], by rw [List.getElem?_append_left (by rw [apE_len]; exact htl)]; exact q1, rfl, by rw [List.getElem?_append_left (by omega)]; exact hL⟩
   ·refine .inl ⟨hmem, hE, ?_, hL⟩
    rw [apE_other _ _ (by rw [List.map_map]; exact hE)] at ht
    exact ht
 have ownE : ∀ b, Own (apE (E.map (fun p => (p.1, p.2.ren τ)) ++ slots.zip (Hn.map (·.ren τ))) H) (setAll m slots nu) b → Own (apE E H ++ Hn) (m ++ nu) b := fun b ⟨t, o, L, h1, h2, h3, h4, h5⟩ => by
  rcases cls t o L h1 h3 with ⟨q1, q2, q3, q4⟩ | ⟨j, oj, q1, q2, rfl, q4⟩
  ·have htl : t < H.length := (List.getElem?_eq_some_iff.1 q3).1
   exact ⟨t, o, L, by rw [List.getElem?_append_left (by rw [apE_len]; exact htl), apE_other _ _ q2]; exact q3, h2, by rw [List.getElem?_append_left (by omega)]; exact q4, h4, h5⟩
  ·exact ⟨j, oj, L, q2, by rw [← ren_alive τ]; exact h2, q4, h4, h5⟩
 refine ⟨⟨by rw [setAll_len, apE_len, hml], fun t o L h1 h2 => ?_, fun i j oi oj Li Lj hij hi hj ai aj mi mj ci cj => ?_, fun b hb hO => hr'.imm b hb (ownE b hO), hr'.ilt, hr'.gl⟩, le1, le2, ⟨hx.os, hx.tape, hx.output, hx.size, hx.blk, hx.imm, fun b hb => hx.ow b (ownE b hb), hx.inew⟩⟩
 ·rcases cls t o L h1 h2 with ⟨q1, q2, q3, q4⟩ | ⟨j, oj, q1, q2, rfl, q4⟩
  ·have htl : t < H.length := (List.getElem?_eq_some_iff.1 q3).1
   have h5 := hr'.ob t o L (by rw [List.getElem?_append_left (by rw [apE_len]; exact htl), apE_other _ _ q2]; exact q3) (by rw [List.getElem?_append_left (by omega)]; exact q4)
   have h6 := OR.ren le1 h5
   rwa [OR.bel (τ := τ) (fun j hj => by rw [← hτ, mv_lt (by omega)]) (hr.ob t o L q3 q4)] at h6
  ·exact OR.ren le1 (hr'.ob j oj L q2 q4)
 ·have back : ∀ (t : Nat) o L, (apE (E.map (fun p => (p.1, p.2.ren τ)) ++ slots.zip (Hn.map (·.ren τ))) H)[t]? = some o → (setAll m slots nu)[t]? = some L → o.alive = true → ∃ j oj, τ j = t ∧ (apE E H ++ Hn)[j]? = some oj ∧ oj.alive = true ∧ (m ++ nu)[j]? = some L := fun t o L h1 h3 h2 => by
   rcases cls t o L h1 h3 with ⟨q1, q2, q3, q4⟩ | ⟨j, oj, q1, q2, rfl, q4⟩
   ·have htl : t < H.length := (List.getElem?_eq_some_iff.1 q3).1
    exact ⟨t, o, by rw [← hτ, mv_lt htl], by rw [List.getElem?_append_left (by rw [apE_len]; exact htl), apE_other _ _ q2]; exact q3, h2, by rw [List.getElem?_append_left (by omega)]; exact q4⟩
   ·exact ⟨j, oj, q1, q2, by rw [← ren_alive τ]; exact h2, q4⟩
  obtain ⟨p, op, p1, p2, p3, p4⟩ := back i oi Li hi mi ai
  obtain ⟨q, oq, q1, q2, q3, q4⟩ := back j oj Lj hj mj aj
  exact hr'.inj p q op oq Li Lj (fun e => hij (by rw [← p1, ← q1, e])) p2 q2 p3 q3 p4 q4 ci cj
end
theorem draw_any {P : Program} {ops : Array Oper} {id : Nat} {Q : Exit → Act → World → Prop} {a : Act} {w : World} (hm : P.follows .mixedOrders = true) (hw1 : ∀ (i : Nat) o, ops[i]? = some o → ∀ j ∈ waits o, j < i)
 (S : (Nat → Bool) → Act → World → Prop) (h0 : S (fun _ => false) a { w with drawn := w.drawn + 1 })
 (step : ∀ (D : Nat → Bool) (a' : Act) (w' : World) (i : Nat) (o : Oper), ops[i]? = some o → D i = false → (∀ j ∈ waits o, D j = true) → (∀ i, D i = true → ∀ o, ops[i]? = some o → ∀ j ∈ waits o, D j = true) → S D a' w' → wpOp P ops Q i (S (Dset D i)) a' w')
 (done : ∀ (D : Nat → Bool) (a' : Act) (w' : World), (∀ i, i < ops.size → D i = true) → S D a' w' → Q .normal a' w') : WPA P (.region id ops true) Q a w := by
 refine wp_region_any hm ?_
 have key : ∀ (fuel : Nat) (listed : Array Bool) (D : Nat → Bool) (a' : Act) (w' : World), listed.size = ops.size → (∀ i, D i = listed.getD i false) → (∀ i, D i = true → ∀ o, ops[i]? = some o → ∀ j ∈ waits o, D j = true) →
  (List.range ops.size).countP (fun i => !D i) = fuel → S D a' w' → wpAny P .any ops Q fuel listed a' w' := by
  intro fuel
  induction fuel with
  | zero =>
   intro listed D a' w' hsz hD hcl hcnt hS
   have hall : ∀ i, i < ops.size → D i = true := fun i hi => by
    have := List.countP_eq_zero.1 hcnt i (List.mem_range.2 hi)
    simpa using this
   refine ⟨?_, done D a' w' hall hS⟩
   rw [List.eq_nil_iff_forall_not_mem]
   intro i hi
   obtain ⟨h1, o, h2, h3⟩ := mem_ready.1 hi
   have hlt : i < ops.size := (Array.getElem?_eq_some_iff.1 h2).1
   have := hall i hlt
   rw [hD] at this
   have hl : i < listed.size := by omega
   simp [hl] at h1 this
   rw [this] at h1; cases h1
  | succ fuel ih =>
   intro listed D a' w' hsz hD hcl hcnt hS
   refine ⟨fun hnil => ?_, fun i hi => ?_⟩
   ·exfalso
    have hex : ∃ i, i < ops.size ∧ D i = false := by
     have hpos : 0 < (List.range ops.size).countP (fun i => !D i) := by omega
     obtain ⟨i, h1, h2⟩ := List.countP_pos_iff.1 hpos
     exact ⟨i, List.mem_range.1 h1, by simpa using h2⟩
    obtain ⟨i, ⟨hi1, hi2⟩, hmin⟩ := exists_least hex
    have hi : i ∈ Region.ready .any ops listed := by
     rw [mem_ready]
     have hl : i < listed.size := by omega
     refine ⟨?_, ops[i], by simp [hi1], fun e he hb => ?_⟩
     ·have := hD i; rw [hi2] at this; simp [hl] at this ⊢; exact this
     ·have hj : e.on ∈ waits ops[i] := by
       unfold waits
       exact List.mem_filterMap.2 ⟨e, by simpa using he, by simp [hb]⟩
      have hlt := hw1 i ops[i] (by simp [hi1]) _ hj
      have : D e.on = true := by
       cases hh : D e.on with
       | true => rfl
       | false => have := hmin e.on ⟨by omega, hh⟩; omega
      rw [hD] at this; exact this
    rw [hnil] at hi; cases hi
   ·obtain ⟨hun, o, ho, hall⟩ := mem_ready.1 hi
    have hlt : i < ops.size := (Array.getElem?_eq_some_iff.1 ho).1
    have hl : i < listed.size := by omega
    have hDi : D i = false := by rw [hD]; simp [hl] at hun ⊢; exact hun
    have hwt : ∀ j ∈ waits o, D j = true := fun j hj => by
     unfold waits at hj
     obtain ⟨e, he, hb⟩ := List.mem_filterMap.1 hj
     split at hb
     ·rename_i hbb
      injection hb with hb; subst hb
      rw [hD]; exact hall e (by simpa using he) hbb
     ·cases hb
    refine wpOp_mono ?_ (step D a' w' i o ho hDi hwt hcl hS)
    intro a2 w2 hS2
    refine ih (listed.setIfInBounds i true) (Dset D i) a2 w2 (by simp [hsz]) (fun j => ?_) (fun j hj p hp k hk => ?_) ?_ hS2
    ·by_cases hji : j = i
     ·subst hji; simp [Dset, hl]
     ·rw [getD_set_ne false (Ne.symm hji)]; simp [Dset, hji, hD]
    ·by_cases hji : j = i
     ·subst hji
      rw [ho] at hp; injection hp with hp; subst hp
      have := hwt k hk
      unfold Dset
      split
      ·rfl
      ·exact this
     ·have h1 : D j = true := by simpa [Dset, hji] using hj
      have := hcl j h1 p hp k hk
      unfold Dset
      split
      ·rfl
      ·exact this
    ·have := count_set D i (List.range ops.size) List.nodup_range (List.mem_range.2 hlt) hDi
     omega
 exact key ops.size (Array.replicate ops.size false) (fun _ => false) a _ (by simp) (fun i => by by_cases hi : i < ops.size <;> simp [hi]) (fun i h => by cases h) (by simp) h0
theorem gof_look {ops : Array Oper} (hlex : lexOK ops.toList = true) {vs g : List AV} (hvl : vs.length = ops.size) {D : Nat → Bool} {i : Nat} {o : Oper} (ho : ops[i]? = some o) (hDi : D i = false) (hwt : ∀ j ∈ waits o, D j = true)
 (hcl : ∀ i, D i = true → ∀ o, ops[i]? = some o → ∀ j ∈ waits o, D j = true) : ∀ t ∈ o.looksAt ops, (gof g ops.toList vs 0 (fun j => decide (j < i)))[t]? = (gof g ops.toList vs 0 D)[t]? := fun t ht => by
 obtain ⟨hw1, hw2⟩ := lexOK_spec hlex
 have hot : ops.toList[i]? = some o := by simpa using ho
 by_cases hwr : ∃ (j : Nat) (p : Oper), ops.toList[j]? = some p ∧ p.dst = some t
 ·obtain ⟨j, p, hj, hp⟩ := hwr
  have huniq : ∀ (k' : Nat) o', k' ≠ j → ops.toList[k']? = some o' → o'.dst ≠ some t := fun k' o' h1 h2 => (hw2 k' j o' p t h2 hj h1 hp).1
  obtain ⟨u, hu⟩ : ∃ u, vs[j]? = some u := by
   have : j < ops.size := by have := (List.getElem?_eq_some_iff.1 hj).1; simpa using this
   exact ⟨vs[j]'(by omega), List.getElem?_eq_getElem (by omega)⟩
  have hboth : D j = decide (j < i) := by
   by_cases hji : j = i
   ·subst hji; rw [hDi]; simp
   ·have h2 := (hw2 i j o p t hot hj (Ne.symm hji) hp).2 (by simpa using ht)
    by_cases hlt' : j < i
    ·rw [hwt j (h2.1 hlt')]; simp [hlt']
    ·have h3 := h2.2 (by omega)
     cases hh : D j with
     | false => simp [hlt']
     | true =>
      have := hcl j hh p (by simpa using hj) i h3
      rw [hDi] at this; cases this
  by_cases hlt' : j < i
  ·rw [gof_some _ _ _ _ _ t j p u hj hu hp (by simp [hlt']) huniq, gof_some _ _ _ _ _ t j p u hj hu hp (by rw [Nat.zero_add, hboth]; simp [hlt']) huniq]
  ·have hn : ∀ D' : Nat → Bool, D' j = false → (gof g ops.toList vs 0 D')[t]? = g[t]? := fun D' hD' => gof_none _ _ _ _ _ t fun k o' h1 h2 => by
    by_cases hk : k = j
    ·subst hk; rw [Nat.zero_add]; exact hD'
    ·exact (huniq k o' hk h1 h2).elim
   rw [hn _ (by simp [hlt']), hn D (by rw [hboth]; simp [hlt'])]
 ·have hn : ∀ D' : Nat → Bool, (gof g ops.toList vs 0 D')[t]? = g[t]? := fun D' => gof_none _ _ _ _ _ t fun k o' h1 h2 => (hwr ⟨k, o', h1, h2⟩).elim
  rw [hn, hn]
theorem gof_put {ops : Array Oper} (hlex : lexOK ops.toList = true) {vs g : List AV} (hvl : vs.length = ops.size) {D : Nat → Bool} {i : Nat} {o : Oper} {v : AV} (ho : ops[i]? = some o) (hv : vs[i]? = some v) :
 put (gof g ops.toList vs 0 D) o.dst v = gof g ops.toList vs 0 (Dset D i) := by
 obtain ⟨hw1, hw2⟩ := lexOK_spec hlex
 have hot : ops.toList[i]? = some o := by simpa using ho
 apply List.ext_getElem?
 intro t
 rw [put_get, gof_len]
 by_cases hdt : o.dst = some t
 ·rw [if_pos hdt, gof_some _ _ _ _ _ t i o v hot hv hdt (by simp [Dset]) fun k' o' h1 h2 => (hw2 k' i o' o t h2 hot h1 hdt).1]
 ·rw [if_neg hdt]
  by_cases hwr : ∃ (j : Nat) (p : Oper), ops.toList[j]? = some p ∧ p.dst = some t
  ·obtain ⟨j, p, hj, hp⟩ := hwr
   have hji : j ≠ i := fun e => by subst e; rw [hot] at hj; injection hj with hj; subst hj; exact hdt hp
   have huniq : ∀ (k' : Nat) o', k' ≠ j → ops.toList[k']? = some o' → o'.dst ≠ some t := fun k' o' h1 h2 => (hw2 k' j o' p t h2 hj h1 hp).1
   obtain ⟨u, hu⟩ : ∃ u, vs[j]? = some u := by
    have : j < ops.size := by have := (List.getElem?_eq_some_iff.1 hj).1; simpa using this
    exact ⟨vs[j]'(by omega), List.getElem?_eq_getElem (by omega)⟩
   have hDj : Dset D i j = D j := by simp [Dset, hji]
   cases hh : D j with
   | true => rw [gof_some _ _ _ _ _ t j p u hj hu hp (by rw [Nat.zero_add]; exact hh) huniq, gof_some _ _ _ _ _ t j p u hj hu hp (by rw [Nat.zero_add, hDj]; exact hh) huniq]
   | false =>
    have hn : ∀ D' : Nat → Bool, D' j = false → (gof g ops.toList vs 0 D')[t]? = g[t]? := fun D' hD' => gof_none _ _ _ _ _ t fun k o' h1 h2 => by
     by_cases hk : k = j
     ·subst hk; rw [Nat.zero_add]; exact hD'
     ·exact (huniq k o' hk h1 h2).elim
    rw [hn D hh, hn _ (by rw [hDj]; exact hh)]
  ·have hn : ∀ D' : Nat → Bool, (gof g ops.toList vs 0 D')[t]? = g[t]? := fun D' => gof_none _ _ _ _ _ t fun k o' h1 h2 => (hwr ⟨k, o', h1, h2⟩).elim
   rw [hn, hn]
end Go.Abs
namespace Go.Abs
open Go
def hof : List AO → List (List (Nat × AO)) → Nat → (Nat → Bool) → List AO
 | H, E :: Es, i, D => hof (if D i then apE E H else H) Es (i + 1) D
 | H, [], _, _ => H
theorem hof_len : ∀ (Es : List (List (Nat × AO))) (H : List AO) (i : Nat) (D : Nat → Bool), (hof H Es i D).length = H.length
 | [], H, i, D => rfl
 | E :: Es, H, i, D => by
  simp only [hof]
  rw [hof_len Es]
  split
  ·exact apE_len _ _
  ·rfl
theorem hof_congr {id : Nat} : ∀ (Es : List (List (Nat × AO))) (H H' : List AO) (i : Nat) (D D' : Nat → Bool), H.length = H'.length → H[id]? = H'[id]? → (∀ (k : Nat) E, Es[k]? = some E → id ∈ E.map (·.1) → D (i + k) = D' (i + k)) → (hof H Es i D)[id]? = (hof H' Es i D')[id]?
 | [], H, H', i, D, D', _, h, _ => h
 | E :: Es, H, H', i, D, D', hl, h, hD => by
  simp only [hof]
  refine hof_congr Es _ _ (i + 1) D D' ?_ ?_ fun k E' h1 h2 => by
   have := hD (k + 1) E' (by simpa using h1) h2
   rw [show i + 1 + k = i + (k + 1) by omega]; exact this
  ·split <;> split <;> simp only [apE_len, hl]
  ·by_cases hm : id ∈ E.map (·.1)
   ·have := hD 0 E rfl hm
    simp only [Nat.add_zero] at this
    rw [this]
    split
    ·exact apE_congr E H H' hl fun _ => h
    ·exact h
   ·split <;> split <;> simp only [apE_other _ _ hm, h]
theorem hof_step : ∀ (Es : List (List (Nat × AO))) (H : List AO) (i j : Nat) (E : List (Nat × AO)) (D : Nat → Bool), Es[j]? = some E → D (i + j) = false → (∀ (k : Nat) E', j < k → Es[k]? = some E' → D (i + k) = true → ∀ id ∈ E.map (·.1), id ∉ E'.map (·.1)) →
 hof H Es i (Dset D (i + j)) = apE E (hof H Es i D)
 | [], H, i, j, E, D, h, _, _ => by simp at h
 | E0 :: Es, H, i, j, E, D, h, hD, hx => by
  cases j with
  | zero =>
   simp at h; subst h
   simp only [Nat.add_zero] at hD ⊢
   simp only [hof, hD, Bool.false_eq_true, if_false]
   have e1 : Dset D i i = true := by simp [Dset]
   rw [if_pos e1]
   apply List.ext_getElem?
   intro id
   by_cases hm : id ∈ E0.map (·.1)
   ·have key : ∀ (D' : Nat → Bool), (∀ k, D' (i + 1 + k) = D (i + 1 + k)) → ∀ H0 : List AO, (hof H0 Es (i + 1) D')[id]? = H0[id]? := fun D' hD' H0 => by
     have := hof_congr (id := id) Es H0 H0 (i + 1) D' (fun _ => false) rfl rfl fun k E' h1 h2 => by
      rw [hD']
      cases hh : D (i + 1 + k) with
      | false => rfl
      | true => exact (hx (k + 1) E' (by omega) (by simpa using h1) (by rw [← hh]; congr 1; omega) id hm h2).elim
     rw [this]
     have e : ∀ (Es : List (List (Nat × AO))) (n : Nat), hof H0 Es n (fun _ => false) = H0 := by
      intro Es
      induction Es with
      | nil => intro n; rfl
      | cons E Es ih => intro n; simp only [hof, Bool.false_eq_true, if_false]; exact ih _
     rw [e]
    rw [key _ fun k => by simp [Dset]; omega]
    exact apE_congr E0 _ _ (by rw [hof_len]) fun hn => (hn hm).elim
   ·rw [apE_other _ _ hm]
    refine hof_congr Es _ _ (i + 1) _ _ (by rw [apE_len]) (apE_other _ _ hm) fun k E' h1 h2 => by simp [Dset]; omega
  | succ j =>
   simp at h
   simp only [hof]
   have e0 : Dset D (i + (j + 1)) i = D i := by simp [Dset]
   rw [e0]
   have := hof_step Es (if D i then apE E0 H else H) (i + 1) j E D h (by rw [← hD]; congr 1; omega) fun k E' h1 h2 h3 => hx (k + 1) E' (by omega) (by simpa using h2) (by rw [← h3]; congr 1; omega)
   rw [show i + (j + 1) = i + 1 + j by omega]
   exact this
def ancOK (ops : List Oper) (An : List (List Nat)) : Bool :=
 ops.zipIdx.all fun (o, i) => (An.getD i []).all fun j => (waits o).contains j || (waits o).any fun l => decide (l < i) && (An.getD l []).contains j
theorem ancOK_spec {ops : List Oper} {An : List (List Nat)} (h : ancOK ops An = true) {D : Nat → Bool} (hcl : ∀ i, D i = true → ∀ o, ops[i]? = some o → ∀ j ∈ waits o, D j = true) :
 ∀ (i : Nat) o, ops[i]? = some o → (∀ j ∈ waits o, D j = true) → ∀ j ∈ An.getD i [], j < ops.length → D j = true := by
 have key : ∀ (n i : Nat) o, i < n → ops[i]? = some o → (∀ j ∈ waits o, D j = true) → ∀ j ∈ An.getD i [], D j = true := by
  intro n
  induction n with
  | zero => intro i o hi; omega
  | succ n ih =>
   intro i o hi ho hw j hj
   unfold ancOK at h
   have h1 := List.all_eq_true.1 h (o, i) (by rw [List.mem_zipIdx_iff_getElem?]; exact ho)
   have h2 := List.all_eq_true.1 h1 j hj
   rw [Bool.or_eq_true] at h2
   rcases h2 with h2 | h2
   ·exact hw j (by simpa using h2)
   ·obtain ⟨l, hl, h3⟩ := List.any_eq_true.1 h2
    simp only [Bool.and_eq_true, decide_eq_true_eq] at h3
    obtain ⟨h4, h5⟩ := h3
    have hlo : ∃ p, ops[l]? = some p := by
     have : i < ops.length := (List.getElem?_eq_some_iff.1 ho).1
     exact ⟨ops[l], List.getElem?_eq_getElem (by omega)⟩
    obtain ⟨p, hp⟩ := hlo
    exact ih l p (by omega) hp (fun j' hj' => hcl l (hw l hl) p hp j' hj') j (by simpa using h5)
 exact fun i o ho hw j hj _ => key (i + 1) i o (by omega) ho hw j hj
structure Fo where
  F : List Nat
  E : List (Nat × AO)
  ns : List Nat
def okA (k N : Nat) (An : List (List Nat)) (acc : List Fo) : Bool :=
 acc.zipIdx.all fun (f, i) => (f.ns.all fun s => decide (k ≤ s) && decide (s < N)) && acc.zipIdx.all fun (f', j) => i == j ||
  ((f'.E.all fun p => !(f.F ++ f.E.map (·.1)).contains p.1 || (if j < i then (An.getD i []).contains j else (An.getD j []).contains i)) && f.ns.all fun s => !f'.ns.contains s)
theorem okA_spec {k N : Nat} {An : List (List Nat)} {acc : List Fo} (h : okA k N An acc = true) :
 (∀ (i : Nat) f, acc[i]? = some f → ∀ s ∈ f.ns, k ≤ s ∧ s < N) ∧
 (∀ (i j : Nat) f f', acc[i]? = some f → acc[j]? = some f' → i ≠ j → (∀ id ∈ f'.E.map (·.1), id ∈ f.F ∨ id ∈ f.E.map (·.1) → (j < i → j ∈ An.getD i []) ∧ (i < j → i ∈ An.getD j [])) ∧ ∀ s ∈ f.ns, s ∉ f'.ns) := by
 unfold okA at h
 have mem : ∀ (i : Nat) f, acc[i]? = some f → (f, i) ∈ acc.zipIdx := fun i f hi => by rw [List.mem_zipIdx_iff_getElem?]; exact hi
 have h1 := List.all_eq_true.1 h
 refine ⟨fun i f hi s hs => ?_, fun i j f f' hi hj hne => ?_⟩
 ·have h2 := h1 _ (mem i f hi)
  rw [Bool.and_eq_true] at h2
  have := List.all_eq_true.1 h2.1 s hs
  simpa using this
 ·have h2 := h1 _ (mem i f hi)
  rw [Bool.and_eq_true] at h2
  have h3 := List.all_eq_true.1 h2.2 _ (mem j f' hj)
  rw [Bool.or_eq_true] at h3
  rcases h3 with h3 | h3
  ·exact (hne (by simpa using h3)).elim
  ·rw [Bool.and_eq_true] at h3
   refine ⟨fun id hid hF => ?_, fun s hs hs' => ?_⟩
   ·obtain ⟨p, hp, rfl⟩ := List.mem_map.1 hid
    have h4 := List.all_eq_true.1 h3.1 p hp
    rw [Bool.or_eq_true] at h4
    rcases h4 with h4 | h4
    ·exfalso
     have : p.1 ∈ f.F ++ f.E.map (·.1) := List.mem_append.2 hF
     rw [← List.contains_iff_mem] at this
     rw [this] at h4; cases h4
    ·refine ⟨fun hlt => ?_, fun hlt => ?_⟩
     ·rw [if_pos hlt] at h4; simpa using h4
     ·rw [if_neg (by omega)] at h4; simpa using h4
   ·have h4 := List.all_eq_true.1 h3.2 s hs
    rw [← List.contains_iff_mem] at hs'
    rw [hs'] at h4; cases h4
section
variable {P : Program} {k N : Nat}
def OpD [DSt] (P : Program) (op : Op) (g : List AV) (H : List AO) (ns : List Nat) (v : AV) (H' : List AO) : Prop :=
 ∀ (I : Nat → Prop) (m : List Loc) (a : Act) (w : World) (o : Oper) (Q : Exit → Act → World → Prop), o.op = op → HR I m H w → VRs I m w g a.tmps.toList → a.defers = DSt.l → (∀ s ∈ ns, lk m s = none) →
  OWP P o a w (fun a' w' => ∃ I' m', HR I' m' H' w' ∧ VRs I' m' w' (put g o.dst v) a'.tmps.toList ∧ a'.defers = DSt.l ∧ Ex I (Own H m) w I' (Own H' m') w' ∧ ∀ id, id ∉ ns → m'[id]? = m[id]?) Q
def LL [DSt] (P : Program) (N : Nat) (op : Op) (g : List AV) (H : List AO) (f : Fo) (v : AV) : Prop :=
 ∀ (H2 : List AO) (g' : List AV), H2.length = N → (∀ id ∈ f.F, H2[id]? = H[id]?) → (∀ x ∈ op.operands, ev g' x = ev g x) → OpD P op g' H2 f.ns v (apE f.E H2)
def DW [DSt] (P : Program) (k N : Nat) (An : List (List Nat)) (Q : List AV → List AO → Prop) : List LOp → List AV → List AO → List Fo → Prop
 | [], g, H, acc => okA k N An acc.reverse = true ∧ Q g H
 | ⟨dst, op, none⟩ :: os, g, H, acc => ∃ f v, LL P N op g H f v ∧ DW P k N An Q os (put g dst v) (apE f.E H) (f :: acc)
 | ⟨dst, op, some (d, want)⟩ :: os, g, H, acc => match g[d]? with
  | some (.v (.bool b)) => if b = want then ∃ f v, LL P N op g H f v ∧ DW P k N An Q os (put g dst v) (apE f.E H) (f :: acc) else DW P k N An Q os (put g dst (.v undef)) H (⟨[], [], []⟩ :: acc)
  | some (.v (.tuple _)) => DW P k N An Q os (put g dst (.v undef)) H (⟨[], [], []⟩ :: acc)
  | _ => False
def LG [DSt] (P : Program) (N : Nat) (ops : Array Oper) (o : Oper) (g : List AV) (H : List AO) (f : Fo) (v : AV) : Prop :=
 (wantA ops g o = some true ∧ LL P N o.op g H f v) ∨ (wantA ops g o = some false ∧ f = ⟨[], [], []⟩ ∧ v = .v undef)
theorem DW_vals [DSt] {ops : Array Oper} {An : List (List Nat)} {Q : List AV → List AO → Prop} : ∀ (os : List Oper) (ls : List LOp) (i : Nat) (g : List AV) (H : List AO) (acc : List Fo), lowOps ops os = some ls → DW P k N An Q ls g H acc →
 ∃ (vs : List AV) (fs : List Fo), vs.length = os.length ∧ fs.length = os.length ∧ okA k N An (acc.reverse ++ fs) = true ∧
  (∀ (j : Nat) o v f, os[j]? = some o → vs[j]? = some v → fs[j]? = some f → LG P N ops o (gof g os vs i (fun t => decide (t < i + j))) (hof H (fs.map (·.E)) i (fun t => decide (t < i + j))) f v) ∧
  Q (gof g os vs i (fun t => decide (t < i + os.length))) (hof H (fs.map (·.E)) i (fun t => decide (t < i + os.length)))
 | [], ls, i, g, H, acc, hl, h => by
  simp only [lowOps] at hl; injection hl with hl; subst hl
  simp only [DW] at h
  exact ⟨[], [], rfl, rfl, by simpa using h.1, fun j o v f h1 => by simp at h1, by simpa [gof, hof] using h.2⟩
 | o :: os, ls, i, g, H, acc, hl, h => by
  simp only [lowOps] at hl
  split at hl
  case h_2 => cases hl
  rename_i l ls' h1 h2
  injection hl with hl; subst hl
  have main : ∀ f v, LG P N ops o g H f v → DW P k N An Q ls' (put g o.dst v) (apE f.E H) (f :: acc) → ∃ (vs : List AV) (fs : List Fo), vs.length = (o :: os).length ∧ fs.length = (o :: os).length ∧ okA k N An (acc.reverse ++ fs) = true ∧
   (∀ (j : Nat) o' v f, (o :: os)[j]? = some o' → vs[j]? = some v → fs[j]? = some f → LG P N ops o' (gof g (o :: os) vs i (fun t => decide (t < i + j))) (hof H (fs.map (·.E)) i (fun t => decide (t < i + j))) f v) ∧
   Q (gof g (o :: os) vs i (fun t => decide (t < i + (o :: os).length))) (hof H (fs.map (·.E)) i (fun t => decide (t < i + (o :: os).length))) := fun f v hg hd => by
   obtain ⟨vs, fs, q1, q2, q3, q4, q5⟩ := DW_vals os ls' (i + 1) _ _ _ h2 hd
   refine ⟨v :: vs, f :: fs, by simp [q1], by simp [q2], by simpa using q3, fun j o' v' f' k1 k2 k3 => ?_, ?_⟩
   ·cases j with
    | zero =>
     simp at k1 k2 k3
     subst k1; subst k2; subst k3
     simp only [Nat.add_zero]
     have e1 : gof g (o :: os) (v :: vs) i (fun t => decide (t < i)) = g := gof_all fun k => by simp
     have e2 : hof H ((f :: fs).map (·.E)) i (fun t => decide (t < i)) = H := by
      have : ∀ (Es : List (List (Nat × AO))) (n : Nat), i ≤ n → hof H Es n (fun t => decide (t < i)) = H := by
       intro Es
       induction Es with
       | nil => intro n _; rfl
       | cons E Es ih => intro n hn; simp only [hof]; rw [if_neg (by simp; omega)]; exact ih _ (by omega)
      exact this _ _ (Nat.le_refl _)
     rw [e1, e2]
     exact hg
    | succ j =>
     have := q4 j o' v' f' (by simpa using k1) (by simpa using k2) (by simpa using k3)
     simp only [gof, List.map_cons, hof]
     rw [if_pos (by simp), if_pos (by simp)]
     have e : i + (j + 1) = i + 1 + j := by omega
     simp only [e]
     exact this
   ·simp only [gof, List.map_cons, hof, List.length_cons]
    rw [if_pos (by simp), if_pos (by simp)]
    have e : i + (os.length + 1) = i + 1 + os.length := by omega
    simp only [e]
    exact q5
  unfold lowOp at h1
  split at h1
  ·rename_i hgd
   injection h1 with h1; subst h1
   simp only [DW] at h
   obtain ⟨f, v, h3, h4⟩ := h
   exact main f v (.inl ⟨by simp only [wantA, hgd], h3⟩) h4
  ·rename_i j want hgd
   split at h1
   ·rename_i d hd
    injection h1 with h1; subst h1
    simp only [DW] at h
    split at h
    ·rename_i b hb
     have hw : wantA ops g o = some (b == want) := by simp only [wantA, hgd]; erw [hd]; simp only [hb]
     split at h
     ·rename_i hbw
      obtain ⟨f, v, h3, h4⟩ := h
      exact main f v (.inl ⟨by rw [hw, hbw]; simp, h3⟩) h4
     ·rename_i hbw
      exact main ⟨[], [], []⟩ _ (.inr ⟨by rw [hw]; simpa using hbw, rfl, rfl⟩) h
    ·rename_i t ht
     have hw : wantA ops g o = some false := by simp only [wantA, hgd]; erw [hd]; simp only [ht]
     exact main ⟨[], [], []⟩ _ (.inr ⟨hw, rfl, rfl⟩) h
    ·exact h.elim
   ·cases h1
theorem looks_op {ops : Array Oper} {o : Oper} {g g' : List AV} (h : ∀ t ∈ o.looksAt ops, g[t]? = g'[t]?) : (∀ x ∈ o.op.operands, ev g' x = ev g x) ∧ wantA ops g o = wantA ops g' o := by
 refine ⟨fun x hx => (ev_congr fun t ht => h t (by
  subst ht
  unfold Oper.looksAt
  exact List.mem_append.2 (.inl (List.mem_filterMap.2 ⟨.tmp t, by simpa using hx, rfl⟩)))).symm, ?_⟩
 unfold wantA
 split
 ·rfl
 ·rename_i j want hg
  split
  ·rename_i d hd
   rw [h d (by
    unfold Oper.looksAt
    refine List.mem_append.2 (.inr ?_)
    rw [hg]
    simp only
    rw [hd]
    simp)]
  ·rfl
theorem BW_drawn [DSt] {id : Nat} {ops : Array Oper} {ls : List LOp} {An : List (List Nat)} {Q : Exit → List AV → List AO → Prop} {g : List AV} {H : List AO} (hlow : lowOps ops ops.toList = some ls) (hm : P.follows .mixedOrders = true) (hlex : lexOK ops.toList = true) (han : ancOK ops.toList An = true)
 (s : Nat) (hk : k ≤ H.length) (h : DW P H.length (H.length + s) An (Q .normal) ls g (H ++ List.replicate s .dead) []) : BW P k (.region id ops true) Q g H := by
 intro I m a w hr hg hd
 obtain ⟨vs, fs, hvl, hfl, hok, hstep, hfin⟩ := DW_vals ops.toList ls 0 g _ [] hlow h
 simp only [List.reverse_nil, List.nil_append, Nat.zero_add, Array.length_toList] at hok hstep hfin hvl hfl
 obtain ⟨hw1, hw2⟩ := lexOK_spec hlex
 obtain ⟨hA1, hA2⟩ := okA_spec hok
 generalize hH0 : H ++ List.replicate s AO.dead = H0 at *
 have hml := hr.len
 let m0 : List Loc := m ++ List.replicate s ⟨0, 0, 0, 0⟩
 have hH0l : H0.length = H.length + s := by rw [← hH0]; simp
 have hm0 : ∀ (j : Nat) L, lk m j = some L → lk m0 j = some L := fun j L hj => lk_pre hj
 have hm0r : ∀ (j : Nat) L, j < H.length → m0[j]? = some L → m[j]? = some L := fun j L hj hL => by
  rw [List.getElem?_append_left (by omega)] at hL; exact hL
 have hfree : ∀ j, H.length ≤ j → lk m0 j = none := fun j hj => by
  unfold lk
  rw [List.getElem?_append_right (by omega), List.getElem?_replicate]
  by_cases h : j - m.length < s
  ·simp [h]
  ·simp [h]
 have halv : ∀ (j : Nat) o L, H0[j]? = some o → m0[j]? = some L → o.alive = true → H[j]? = some o ∧ m[j]? = some L := fun j o L h1 h2 h3 => by
  rw [← hH0] at h1
  by_cases hj : j < H.length
  ·rw [List.getElem?_append_left hj] at h1
   exact ⟨h1, hm0r j L hj h2⟩
  ·rw [List.getElem?_append_right (by omega), List.getElem?_replicate] at h1
   split at h1
   ·injection h1 with h1; subst h1; cases h3
   ·cases h1
 have hown0 : ∀ b, Own H0 m0 b → Own H m b := fun b ⟨j, o, L, q1, q2, q3, q4, q5⟩ => by
  obtain ⟨r1, r2⟩ := halv j o L q1 q3 q2
  exact ⟨j, o, L, r1, q2, r2, q4, q5⟩
 have hr0 : HR I m0 H0 w := by
  refine ⟨by simp [m0, hH0l, hml], fun j o L h1 h2 => ?_, fun i j oi oj Li Lj hij hi hj ai aj mi mj => ?_, fun b hb hO => hr.imm b hb (hown0 b hO), hr.ilt, hr.gl⟩
  ·by_cases hj : j < H.length
   ·rw [← hH0, List.getElem?_append_left hj] at h1
    exact OR.le hm0 (fun _ h => h) (fun _ _ => rfl) (fun _ _ => rfl) (hr.ob j o L h1 (hm0r j L hj h2))
   ·rw [← hH0, List.getElem?_append_right (by omega), List.getElem?_replicate] at h1
    split at h1
    ·injection h1 with h1; subst h1; simp only [OR]
    ·cases h1
  ·obtain ⟨q1, q2⟩ := halv i oi Li hi mi ai
   obtain ⟨q3, q4⟩ := halv j oj Lj hj mj aj
   exact hr.inj i j oi oj Li Lj hij q1 q3 ai aj q2 q4
 let Es := fs.map (·.E)
 let S : (Nat → Bool) → Act → World → Prop := fun D a' w' => ∃ I' m', HR I' m' (hof H0 Es 0 D) w' ∧ VRs I' m' w' (gof g ops.toList vs 0 D) a'.tmps.toList ∧ a'.defers = DSt.l ∧ Ex I (Own H m) w I' (Own (hof H0 Es 0 D) m') w' ∧ (∀ id, id < H.length → m'[id]? = m[id]?) ∧ ∀ (i : Nat) f, fs[i]? = some f → D i = false → ∀ x ∈ f.ns, lk m' x = none
 refine draw_any hm (fun i o ho j hj => hw1 i o (by simpa using ho) j hj) S ?_ ?_ ?_
 ·refine ⟨I, m0, ?_, ?_, hd, ⟨rfl, rfl, rfl, Nat.le_refl _, fun _ _ _ => rfl, fun _ h => h, fun b h => .inl ?_, fun _ h => .inl h⟩, fun id hid => by rw [List.getElem?_append_left (by omega)], fun i f hf _ x hx => hfree x (hA1 i f hf x hx).1⟩
  ·have e : ∀ (Es : List (List (Nat × AO))) (n : Nat), hof H0 Es n (fun _ => false) = H0 := by
    intro Es
    induction Es with
    | nil => intro n; rfl
    | cons E Es ih => intro n; simp only [hof, Bool.false_eq_true, if_false]; exact ih _
   rw [e]
   exact HR.of_heap (w := w) (w' := { w with drawn := w.drawn + 1 }) rfl hr0
  ·rw [gof_all fun k => rfl]
   exact VRs.of_heap (w := w) (w' := { w with drawn := w.drawn + 1 }) rfl (VRs.le hm0 (fun _ h => h) (fun _ _ => rfl) hg)
  ·have e : ∀ (Es : List (List (Nat × AO))) (n : Nat), hof H0 Es n (fun _ => false) = H0 := by
    intro Es
    induction Es with
    | nil => intro n; rfl
    | cons E Es ih => intro n; simp only [hof, Bool.false_eq_true, if_false]; exact ih _
   rw [e] at h
   exact hown0 b h
 ·rintro D a' w' i o ho hDi hwt hcl ⟨I', m', k1, k2, k3, k4, k5, k6⟩
  have hlt : i < ops.size := (Array.getElem?_eq_some_iff.1 ho).1
  have hot : ops.toList[i]? = some o := by simpa using ho
  obtain ⟨v, hv⟩ : ∃ v, vs[i]? = some v := ⟨vs[i]'(by omega), List.getElem?_eq_getElem (by omega)⟩
  obtain ⟨f, hf⟩ : ∃ f, fs[i]? = some f := ⟨fs[i]'(by omega), List.getElem?_eq_getElem (by omega)⟩
  have hlook := gof_look (g := g) hlex hvl ho hDi hwt hcl
  have hput := gof_put (g := g) (D := D) hlex hvl ho hv
  obtain ⟨hops, hwant⟩ := looks_op hlook
  have hs := hstep i o v f hot hv hf
  have hanc := ancOK_spec han (D := D) (fun i hi o ho => hcl i hi o (by simpa using ho))
  have before : ∀ (j : Nat) f', fs[j]? = some f' → ∀ id ∈ f'.E.map (·.1), id ∈ f.F ∨ id ∈ f.E.map (·.1) → j ≠ i → D j = decide (j < i) := fun j f' hj id hid hF hne => by
   obtain ⟨q1, _⟩ := hA2 i j f f' hf hj (Ne.symm hne)
   obtain ⟨q2, q3⟩ := q1 id hid hF
   have hjl : j < ops.size := by have := (List.getElem?_eq_some_iff.1 hj).1; omega
   by_cases hlt' : j < i
   ·rw [hanc i o hot hwt j (q2 hlt') (by simpa using hjl)]; simp [hlt']
   ·cases hh : D j with
    | false => simp [hlt']
    | true =>
     have hjo : ops.toList[j]? = some ops[j] := by simp [hjl]
     have := hanc j ops[j] hjo (fun l hl => hcl j hh ops[j] (by simp [hjl]) l hl) i (q3 (by omega)) (by simpa using hlt)
     rw [hDi] at this; cases this
  have hEs : ∀ (j : Nat) E, Es[j]? = some E → ∃ f', fs[j]? = some f' ∧ E = f'.E := fun j E hE => by
   simp only [Es, List.getElem?_map, Option.map_eq_some_iff] at hE
   obtain ⟨f', h1, h2⟩ := hE
   exact ⟨f', h1, h2.symm⟩
  have hHi : ∀ id ∈ f.F, (hof H0 Es 0 D)[id]? = (hof H0 Es 0 (fun t => decide (t < i)))[id]? := fun id hid => by
   refine hof_congr Es H0 H0 0 D _ rfl rfl fun j E hE hm => ?_
   obtain ⟨f', h1, rfl⟩ := hEs j E hE
   rw [Nat.zero_add]
   by_cases hji : j = i
   ·subst hji; rw [hDi]; simp
   ·exact before j f' h1 id hm (.inl hid) hji
  have hnext : hof H0 Es 0 (Dset D i) = apE f.E (hof H0 Es 0 D) := by
   have := hof_step Es H0 0 i f.E D (by simp [Es, hf]) (by rw [Nat.zero_add]; exact hDi) fun j E' hj hE hDj id hid hid' => by
    obtain ⟨f', h1, rfl⟩ := hEs j E' hE
    have := before j f' h1 id hid' (.inr hid) (by omega)
    rw [Nat.zero_add] at hDj
    rw [hDj] at this
    simp at this; omega
   rwa [Nat.zero_add] at this
  unfold wpOp
  simp only [ho]
  rcases hs with ⟨hwa, hll⟩ | ⟨hwa, rfl, rfl⟩
  ·rw [hwant] at hwa
   rw [if_pos (wantA_ok k2 hwa)]
   have hop := hll (hof H0 Es 0 D) (gof g ops.toList vs 0 D) (by rw [hof_len, hH0l]) hHi hops
   refine OWP.mono ?_ (hop I' m' a' w' o _ rfl k1 k2 k3 (fun x hx => k6 i f hf hDi x hx))
   rintro a2 w2 ⟨I2, m2, j1, j2, j3, j4, j5⟩
   rw [hput] at j2
   refine ⟨I2, m2, by rw [hnext]; exact j1, j2, j3, by rw [hnext]; exact k4.trans j4, fun id hid => ?_, fun j f' hj hDj x hx => ?_⟩
   ·rw [j5 id fun h => by have := (hA1 i f hf id h).1; omega]; exact k5 id hid
   ·have hji : j ≠ i := fun e => by subst e; simp [Dset] at hDj
    have hDj' : D j = false := by simpa [Dset, hji] using hDj
    have hx' : x ∉ f.ns := (hA2 j i f' f hj hf hji).2 x hx
    have := k6 j f' hj hDj' x hx
    unfold lk at this ⊢
    rw [j5 x hx']; exact this
  ·rw [hwant] at hwa
   rw [if_neg (by rw [wantA_ok k2 hwa]; simp)]
   refine ⟨I', m', by rw [hnext]; simp only [apE_nil]; exact k1, by rw [← hput]; exact put_ok k2 o.dst (by simp only [VR]), put_defers k3, by rw [hnext]; simp only [apE_nil]; exact k4, k5, fun j f' hj hDj x hx => ?_⟩
   have hji : j ≠ i := fun e => by subst e; simp [Dset] at hDj
   exact k6 j f' hj (by simpa [Dset, hji] using hDj) x hx
 ·rintro D a' w' hall ⟨I', m', k1, k2, k3, k4, k5, k6⟩
  have e1 : gof g ops.toList vs 0 D = gof g ops.toList vs 0 (fun j => decide (j < ops.size)) := gof_congr _ _ _ _ _ _ fun k hk => by
   simp only [Array.length_toList] at hk
   rw [Nat.zero_add, hall k hk]; simp [hk]
  have e2 : hof H0 Es 0 D = hof H0 Es 0 (fun j => decide (j < ops.size)) := by
   apply List.ext_getElem?
   intro t
   refine hof_congr Es H0 H0 0 _ _ rfl rfl fun k E hE _ => ?_
   have hk : k < ops.size := by
    have := (List.getElem?_eq_some_iff.1 hE).1
    simp only [Es, List.length_map] at this; omega
   rw [Nat.zero_add, hall k hk]; simp [hk]
  rw [e1] at k2
  rw [e2] at k1 k4
  exact ⟨_, _, I', m', hfin, k1, k2, k3, k4, fun i L hi hL => by rw [k5 i (by omega)]; exact hL⟩
theorem MW_drawn [DSt] {id : Nat} {ops : Array Oper} {ls : List LOp} {An : List (List Nat)} {Q : Exit → List AV → List AO → Prop} {g : List AV} {H : List AO} (hlow : lowOps ops ops.toList = some ls) (hm : P.follows .mixedOrders = true) (hlex : lexOK ops.toList = true) (han : ancOK ops.toList An = true)
 (s : Nat) (hk : k ≤ H.length) (h : DW P H.length (H.length + s) An (Q .normal) ls g (H ++ List.replicate s .dead) []) : MW P k (.draw id ops) Q g H := fun c hc => by
 rw [low_draw hc]
 exact BW_drawn hlow hm hlex han s hk h
end
end Go.Abs
namespace Go.Abs
open Go
def vid : AV → List Nat
 | .sl id _ _ | .pt id _ | .mp id => [id]
 | _ => []
def idsOf (g : List AV) : List Operand → List Nat
 | [] => []
 | x :: xs => vid (ev g x) ++ idsOf g xs
def opIds (g : List AV) (op : Op) : List Nat := idsOf g op.operands.toList
theorem idsOf_eq (g : List AV) : ∀ xs, idsOf g xs = xs.flatMap fun x => vid (ev g x)
 | [] => rfl
 | x :: xs => by simp [idsOf, idsOf_eq g xs]
inductive AX where
  | same
  | set (id : Nat) (o : AO)
  | new (o : AO)
  | app (id : Nat) (o : AO)
def AX.to (H : List AO) : AX → List AO
 | .same => H
 | .set id o => H.set id o
 | .new o => H ++ [o]
 | .app id o => H.set id .dead ++ [o]
def newX (H : List AO) : Option (AV × List AO) → Option (AV × AX)
 | some (v, H') => match H'[H.length]? with
  | some o => some (v, .new o)
  | none => some (v, .same)
 | none => none
def appX (H : List AO) : List AV → Option (AV × List AO) → Option (AV × AX)
 | .sl id _ _ :: _, some (v, H') => match H'[H.length]? with
  | some o => some (v, .app id o)
  | none => some (v, .same)
 | _, some (v, H') => match H'[H.length]? with
  | some o => some (v, .new o)
  | none => some (v, .same)
 | _, none => none
def setX : AV → Option (AV × List AO) → Option (AV × AX)
 | .pt id _, some (v, H') => (H'[id]?).map fun o => (v, .set id o)
 | _, _ => none
def samX : Option (AV × List AO) → Option (AV × AX)
 | some (v, _) => some (v, .same)
 | none => none
def aopX (P : Program) (g : List AV) (H : List AO) (op : Op) : Option (AV × AX) :=
 match op with
 | .store _ a _ => setX (ev g a) (aop P g H op)
 | .box _ _ | .alloc _ | .buildSlice _ _ _ | .makeSlice _ _ _ | .convert _ _ _ => newX H (aop P g H op)
 | .call ⟨.builtin .append, args, _⟩ => appX H (args.toList.map (ev g)) (aop P g H op)
 | .call ⟨.builtin .clear, _, _⟩ => none
 | _ => samX (aop P g H op)
section
variable {P : Program} {g : List AV} {H H2 : List AO}
theorem acells_local {p : AV} (h : ∀ id ∈ vid p, H2[id]? = H[id]?) : acells H2 p = acells H p := by
 cases p <;> simp only [acells]
 rename_i id off
 rw [h id (by simp [vid])]
theorem firstA_local {p : AV} {sz n : Nat} (h : ∀ id ∈ vid p, H2[id]? = H[id]?) : firstA H2 sz n p = firstA H sz n p := by
 cases p with
 | sl id off len => simp only [firstA]; rw [h id (by simp [vid])]
 | v y => cases y <;> first | rfl | (rename_i a _ _; cases a <;> rfl)
 | _ => rfl
theorem acut_local {p : AV} {sz l n : Nat} (h : ∀ id ∈ vid p, H2[id]? = H[id]?) : acut H2 sz p l n = acut H sz p l n := by
 cases p with
 | sl id off len => simp only [acut]; rw [h id (by simp [vid])]
 | v y => cases y <;> first | rfl | (rename_i a b c; cases a <;> first | rfl | (cases b <;> first | rfl | (cases c <;> rfl)))
 | _ => rfl
theorem aslice_local {t : TypeId} {x : AV} {lo hi mx : Option AV} (h : ∀ id ∈ vid x, H2[id]? = H[id]?) : aslice P H2 t x lo hi mx = aslice P H t x lo hi mx := by
 unfold aslice
 simp only [acut_local h]
theorem getElem?_len {α : Type} (H : List α) : H[H.length]? = none := by simp
theorem getElem?_new {α : Type} (H : List α) (o : α) : (H ++ [o])[H.length]? = some o := by simp
theorem newX_new {v : AV} {o : AO} : newX H (some (v, H ++ [o])) = some (v, .new o) := by simp only [newX, getElem?_new]
theorem newX_same {v : AV} : newX H (some (v, H)) = some (v, .same) := by simp only [newX, getElem?_len]
theorem appX_none {A : List AV} : appX H A none = none := by cases A with
 | nil => rfl
 | cons a A => cases a <;> rfl
theorem appX_same {A : List AV} {v : AV} : appX H A (some (v, H)) = some (v, .same) := by cases A with
 | nil => simp only [appX, getElem?_len]
 | cons a A => cases a <;> simp only [appX, getElem?_len]
theorem appX_app {id off len : Nat} {A : List AV} {v : AV} {o : AO} : appX H (.sl id off len :: A) (some (v, H.set id .dead ++ [o])) = some (v, .app id o) := by
 have e : (H.set id .dead ++ [o])[H.length]? = some o := by
  have := getElem?_new (H.set id .dead) o
  simpa using this
 simp only [appX, e]
theorem appX_new {a : AV} {A : List AV} {v : AV} {o : AO} (h : ∀ id off len, a ≠ .sl id off len) : appX H (a :: A) (some (v, H ++ [o])) = some (v, .new o) := by
 cases a <;> first | exact (h _ _ _ rfl).elim | simp only [appX, getElem?_new]
theorem append_local {t u : TypeId} {s x : AV} (hl : H2.length = H.length) (hs : ∀ id ∈ vid s, H2[id]? = H[id]?) (hx : ∀ id ∈ vid x, H2[id]? = H[id]?) : appX H2 (s :: [x]) (aappend P H2 t u s x) = appX H (s :: [x]) (aappend P H t u s x) := by
 unfold aappend
 split
 case h_2 => simp only [appX_none]
 rename_i ed _ _ _ dd _ _ _ hd hu
 split
 case h_2 => simp only [appX_none]
 rename_i te hte
 by_cases hz : isIntD dd = true
 ·rw [if_pos hz, if_pos hz]; simp only [appX_none]
 rw [if_neg hz, if_neg hz]
 split
 case h_2 => simp only [appX_none]
 rename_i n hn
 rw [firstA_local hx]
 split
 case h_2 => simp only [appX_none]
 rename_i new hnew
 split
 case isFalse => simp only [appX_none]
 split
 ·split
  ·rw [appX_new (fun _ _ _ e => by cases e), appX_new (fun _ _ _ e => by cases e), hl]
  ·simp only [appX_none]
 ·split
  ·rw [appX_new (fun _ _ _ e => by cases e), appX_new (fun _ _ _ e => by cases e), hl]
  ·simp only [appX_none]
 ·rename_i id off len
  rw [hs id (by simp [vid])]
  split
  case h_2 => simp only [appX_none]
  split
  case isFalse => simp only [appX_none]
  rw [appX_app, appX_app, hl]
 ·simp only [appX_none]
theorem appX_ok {t u : TypeId} {s x v : AV} {ax : AX} (h : appX H (s :: [x]) (aappend P H t u s x) = some (v, ax)) : aappend P H t u s x = some (v, ax.to H) := by
 cases hr : aappend P H t u s x with
 | none => rw [hr, appX_none] at h; cases h
 | some r =>
  obtain ⟨v', H'⟩ := r
  have key : (H' = H ∨ (∃ o, H' = H ++ [o] ∧ ∀ id off len, s ≠ .sl id off len) ∨ (∃ id off len o, s = .sl id off len ∧ H' = H.set id .dead ++ [o])) := by
   unfold aappend at hr
   split at hr
   case h_2 => cases hr
   split at hr
   case h_2 => cases hr
   split at hr
   ·cases hr
   split at hr
   case h_2 => cases hr
   split at hr
   case h_2 => cases hr
   split at hr
   case isFalse => cases hr
   split at hr
   ·split at hr
    ·injection hr with hr; obtain ⟨_, rfl⟩ := Prod.mk.inj hr; exact .inr (.inl ⟨_, rfl, fun _ _ _ e => by cases e⟩)
    ·cases hr
   ·split at hr
    ·injection hr with hr; obtain ⟨_, rfl⟩ := Prod.mk.inj hr; exact .inr (.inl ⟨_, rfl, fun _ _ _ e => by cases e⟩)
    ·cases hr
   ·split at hr
    case h_2 => cases hr
    split at hr
    case isFalse => cases hr
    injection hr with hr; obtain ⟨_, rfl⟩ := Prod.mk.inj hr; exact .inr (.inr ⟨_, _, _, _, rfl, rfl⟩)
   ·cases hr
  rw [hr] at h
  rcases key with rfl | ⟨o, rfl, hs⟩ | ⟨id, off, len, o, rfl, rfl⟩
  ·rw [appX_same] at h; injection h with h; obtain ⟨rfl, rfl⟩ := Prod.mk.inj h; rfl
  ·rw [appX_new hs] at h; injection h with h; obtain ⟨rfl, rfl⟩ := Prod.mk.inj h; rfl
  ·rw [appX_app] at h
   injection h with h; obtain ⟨rfl, rfl⟩ := Prod.mk.inj h; rfl
theorem mem_opIds {op : Op} {x : Operand} (hx : x ∈ op.operands) {id : Nat} (hid : id ∈ vid (ev g x)) : id ∈ opIds g op := by
 unfold opIds; rw [idsOf_eq]; exact List.mem_flatMap.2 ⟨x, Array.mem_toList_iff.2 hx, hid⟩
set_option maxHeartbeats 1000000 in
theorem aopX_local {op : Op} (hl : H2.length = H.length) (h : ∀ id ∈ opIds g op, H2[id]? = H[id]?) : aopX P g H2 op = aopX P g H op := by
 have hx : ∀ x ∈ op.operands, ∀ id ∈ vid (ev g x), H2[id]? = H[id]? := fun x hx id hid => h id (mem_opIds hx hid)
 cases op with
 | store t a y =>
  have ha := hx a (by simp [Op.operands])
  simp only [aopX, aop]
  generalize ev g a = A at *
  cases A with
  | pt id off =>
   simp only
   have e := ha id (by simp [vid])
   rw [e]
   cases ho : H[id]? with
   | none => rfl
   | some o =>
    cases o with
    | cells sz cs =>
     simp only
     have h1 : id < H.length := (List.getElem?_eq_some_iff.1 ho).1
     split
     ·split
      ·simp only [setX]
       rw [List.getElem?_set_self h1, List.getElem?_set_self (by omega)]
      ·rfl
     ·rfl
    | _ => rfl
  | _ => rfl
 | load t x =>
  simp only [aopX, aop]
  rw [acells_local (hx x (by simp [Op.operands]))]
  split
  ·cases apart P t _ _ <;> rfl
  ·rfl
 | slice t x lo hi mx =>
  simp only [aopX, aop]
  rw [aslice_local (hx x (by simp [Op.operands]))]
  cases aslice P H t (ev g x) _ _ _ <;> rfl
 | box t x =>
  simp only [aopX, aop]
  split
  ·simp only [newX_new, hl]
  ·rfl
 | alloc t =>
  simp only [aopX, aop]
  split
  ·simp only [newX_new, hl]
  ·rfl
 | buildSlice t n ps =>
  simp only [aopX, aop]
  split
  case h_2 => rfl
  split
  case h_2 => rfl
  split
  case isFalse => rfl
  split
  case h_2 => rfl
  split
  case isFalse => rfl
  simp only [newX_new, hl]
 | makeSlice t l c =>
  simp only [aopX, aop]
  split
  case h_2 => rfl
  split
  case h_2 => rfl
  split
  case h_2 => rfl
  split
  case isFalse => rfl
  simp only [newX_new, hl]
 | convert s d x =>
  have ha := hx x (by simp [Op.operands])
  simp only [aopX, aop]
  split
  ·simp only [newX_same]
  ·simp only [newX_same]
  ·split
   ·simp only [newX_new, hl]
   ·rfl
  ·split
   ·rw [firstA_local ha]
    split
    ·cases toBytes _ with
     | none => rfl
     | some l => simp only [Option.map_some, newX_same]
    ·rfl
   ·rfl
  ·rfl
 | call c =>
  obtain ⟨callee, args, ats⟩ := c
  cases callee with
  | value f => rfl
  | invoke r mth => rfl
  | builtin b =>
   cases b with
   | append =>
    simp only [aopX, aop]
    have hargs : ∀ a ∈ args.toList.map (ev g), ∀ id ∈ vid a, H2[id]? = H[id]? := fun a ha id hid => by
     obtain ⟨x, hxm, rfl⟩ := List.mem_map.1 ha
     exact hx x (by simp [Op.operands, Call.operands]; simpa using hxm) id hid
    generalize args.toList.map (ev g) = A at hargs
    cases A with
    | nil => rfl
    | cons s A => cases A with
     | nil => simp only [abuiltin, appX_none]
     | cons x A => cases A with
      | nil =>
       simp only [abuiltin]
       split
       ·exact append_local hl (hargs s (by simp)) (hargs x (by simp))
       ·simp only [appX_none]
      | cons => simp only [abuiltin, appX_none]
   | len =>
    simp only [aopX, aop]
    unfold abuiltin
    generalize args.toList.map (ev g) = A
    cases A with
    | nil => rfl
    | cons a A => cases A with
     | cons => rfl
     | nil =>
      simp only
      split
      ·split
       ·split <;> rfl
       ·split <;> rfl
       ·rfl
      ·rfl
   | clear => rfl
   | _ =>
    simp only [aopX, aop]
    generalize args.toList.map (ev g) = A
    unfold abuiltin
    split <;> first
     | rfl
     | contradiction
     | (split <;> first | rfl | contradiction)
 | _ =>
  first | rfl | simp only [aopX, aop]
  all_goals try rfl
  all_goals (repeat' split)
  all_goals first | rfl | (simp only [samX]; done) | (simp only [Option.map]; split <;> rfl)
set_option maxHeartbeats 1000000 in
theorem aopX_ok {op : Op} {v : AV} {ax : AX} (h : aopX P g H op = some (v, ax)) : aop P g H op = some (v, ax.to H) := by
  have sam : ∀ r : Option (AV × List AO), (∀ v H', r = some (v, H') → H' = H) → samX r = some (v, ax) → r = some (v, ax.to H) := fun r hr hs => by
    cases r with
    | none => cases hs
    | some p =>
      obtain ⟨v', H'⟩ := p
      have e := hr _ _ rfl
      rw [e]
      change some (v', AX.same) = some (v, ax) at hs
      injection hs with hs; obtain ⟨rfl, rfl⟩ := Prod.mk.inj hs; rfl
  have nw : ∀ r : Option (AV × List AO), (∀ v H', r = some (v, H') → H' = H ∨ ∃ o, H' = H ++ [o]) → newX H r = some (v, ax) → r = some (v, ax.to H) := fun r hr hs => by
    cases r with
    | none => cases hs
    | some p =>
      obtain ⟨v', H'⟩ := p
      rcases hr _ _ rfl with e | ⟨o, e⟩ <;> subst e
      · rw [newX_same] at hs; injection hs with hs; obtain ⟨rfl, rfl⟩ := Prod.mk.inj hs; rfl
      · rw [newX_new] at hs; injection hs with hs; obtain ⟨rfl, rfl⟩ := Prod.mk.inj hs; rfl
  cases op with
  | store t a y =>
    simp only [aopX] at h
    cases hA : ev g a with
    | pt id off =>
      rw [hA] at h
      cases hr : aop P g H (.store t a y) with
      | none => rw [hr] at h; cases h
      | some p =>
        obtain ⟨v', H'⟩ := p
        rw [hr] at h
        have hH : ∃ o, H' = H.set id o := by
          simp only [aop, hA] at hr
          split at hr
          case h_2 => cases hr
          split at hr
          case h_2 => cases hr
          split at hr
          case isFalse => cases hr
          injection hr with hr; obtain ⟨_, rfl⟩ := Prod.mk.inj hr
          exact ⟨_, rfl⟩
        obtain ⟨o, rfl⟩ := hH
        simp only [setX] at h
        rw [Option.map_eq_some_iff] at h
        obtain ⟨o', h1, h2⟩ := h
        obtain ⟨rfl, rfl⟩ := Prod.mk.inj h2
        have hlt : id < H.length := by
          have := (List.getElem?_eq_some_iff.1 h1).1
          simpa using this
        rw [List.getElem?_set_self hlt] at h1
        injection h1 with h1; subst h1
        rfl
    | _ => rw [hA] at h; cases h
  | box t x =>
    refine nw _ (fun v H' hr => ?_) h
    simp only [aop] at hr
    split at hr
    · injection hr with hr; obtain ⟨_, rfl⟩ := Prod.mk.inj hr; exact .inr ⟨_, rfl⟩
    · cases hr
  | alloc t =>
    refine nw _ (fun v H' hr => ?_) h
    simp only [aop] at hr
    split at hr
    · injection hr with hr; obtain ⟨_, rfl⟩ := Prod.mk.inj hr; exact .inr ⟨_, rfl⟩
    · cases hr
  | buildSlice t n ps =>
    refine nw _ (fun v H' hr => ?_) h
    simp only [aop] at hr
    split at hr
    case h_2 => cases hr
    split at hr
    case h_2 => cases hr
    split at hr
    case isFalse => cases hr
    split at hr
    case h_2 => cases hr
    split at hr
    · injection hr with hr; obtain ⟨_, rfl⟩ := Prod.mk.inj hr; exact .inr ⟨_, rfl⟩
    · cases hr
  | makeSlice t l c =>
    refine nw _ (fun v H' hr => ?_) h
    simp only [aop] at hr
    split at hr
    case h_2 => cases hr
    split at hr
    case h_2 => cases hr
    split at hr
    case h_2 => cases hr
    split at hr
    · injection hr with hr; obtain ⟨_, rfl⟩ := Prod.mk.inj hr; exact .inr ⟨_, rfl⟩
    · cases hr
  | convert s d x =>
    refine nw _ (fun v H' hr => ?_) h
    simp only [aop] at hr
    split at hr
    · injection hr with hr; obtain ⟨_, rfl⟩ := Prod.mk.inj hr; exact .inl rfl
    · injection hr with hr; obtain ⟨_, rfl⟩ := Prod.mk.inj hr; exact .inl rfl
    · split at hr
      · injection hr with hr; obtain ⟨_, rfl⟩ := Prod.mk.inj hr; exact .inr ⟨_, rfl⟩
      · cases hr
    · split at hr
      · split at hr
        · rw [Option.map_eq_some_iff] at hr
          obtain ⟨l, _, hr⟩ := hr
          obtain ⟨_, rfl⟩ := Prod.mk.inj hr; exact .inl rfl
        · cases hr
      · cases hr
    · cases hr
  | call c =>
    obtain ⟨callee, args, ats⟩ := c
    cases callee with
    | value f => simp only [aopX, aop, samX] at h; cases h
    | invoke r mth => simp only [aopX, aop, samX] at h; cases h
    | builtin b =>
      cases b with
      | append =>
        simp only [aopX, aop] at h ⊢
        generalize args.toList.map (ev g) = A at h ⊢
        cases A with
        | nil => simp only [abuiltin, appX_none] at h; cases h
        | cons s A => cases A with
          | nil => simp only [abuiltin, appX_none] at h; cases h
          | cons x A => cases A with
            | nil =>
              simp only [abuiltin] at h ⊢
              split at h
              · rename_i t u ht hu
                exact appX_ok h
              · simp only [appX_none] at h; cases h
            | cons => simp only [abuiltin, appX_none] at h; cases h
      | clear => cases h
      | _ =>
        refine sam _ (fun v H' hr => ?_) h
        simp only [aop] at hr
        unfold abuiltin at hr
        generalize args.toList.map (ev g) = A at hr
        repeat' (split at hr)
        all_goals first
          | contradiction
          | (injection hr with hr; obtain ⟨_, rfl⟩ := Prod.mk.inj hr; rfl)
  | _ =>
    refine sam _ (fun v H' hr => ?_) h
    simp only [aop] at hr
    first
      | (cases hr; done)
      | (injection hr with hr; obtain ⟨_, rfl⟩ := Prod.mk.inj hr; rfl)
      | (repeat' (split at hr)
         all_goals first
          | (cases hr; done)
          | (injection hr with hr; obtain ⟨_, rfl⟩ := Prod.mk.inj hr; rfl)
          | (rw [Option.map_eq_some_iff] at hr; obtain ⟨_, _, hr⟩ := hr; obtain ⟨_, rfl⟩ := Prod.mk.inj hr; rfl))
      | (rw [Option.map_eq_some_iff] at hr; obtain ⟨_, _, hr⟩ := hr; obtain ⟨_, rfl⟩ := Prod.mk.inj hr; rfl)
end
end Go.Abs
