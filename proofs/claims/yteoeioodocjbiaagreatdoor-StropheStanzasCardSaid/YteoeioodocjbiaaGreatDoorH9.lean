/- Part 9 of the texts that lead to stropheStanzasCard_holds. No condition. -/
import Derived.Test.YteoeioodocjbiaaGreatDoorH8
set_option linter.unusedSimpArgs false
set_option linter.unusedVariables false
set_option linter.unnecessarySimpa false
namespace Go.Abs
open Go
mutual
def AV.ren (τ : Nat → Nat) : AV → AV
  | .v x => .v x
  | .sl id off len => .sl (τ id) off len
  | .pt id off => .pt (τ id) off
  | .im n cs => .im n (rens τ cs)
  | .ip cs => .ip (rens τ cs)
  | .ag cs => .ag (rens τ cs)
  | .tu cs => .tu (rens τ cs)
  | .fn f a b => .fn f (rens τ a) (rens τ b)
  | .mp id => .mp (τ id)
  | .em => .em
  | .any => .any
  | .nb => .nb
def rens (τ : Nat → Nat) : List AV → List AV
  | [] => []
  | v :: vs => v.ren τ :: rens τ vs
end
def AO.ren (τ : Nat → Nat) : AO → AO
  | .cells sz cs => .cells sz (rens τ cs)
  | .ice sz cs => .ice sz (rens τ cs)
  | .raw o => .raw o
  | .mapv ks vs => .mapv ks (rens τ vs)
  | .mi vs s sn l => .mi (rens τ vs) s sn l
  | .tc t cs => .tc t (rens τ cs)
  | .tf t cs => .tf t (rens τ cs)
  | .fx sz cs r => .fx sz (rens τ cs) r
  | .dead => .dead
mutual
def AV.clb : AV → Bool
  | .v _ | .em | .any | .nb => true
  | .sl _ _ _ | .pt _ _ | .mp _ => false
  | .im _ cs | .ip cs | .ag cs | .tu cs => clbs cs
  | .fn _ a b => clbs a && clbs b
def clbs : List AV → Bool
  | [] => true
  | v :: vs => v.clb && clbs vs
end
theorem rens_eq (τ : Nat → Nat) : ∀ vs : List AV, rens τ vs = vs.map (·.ren τ)
  | [] => by simp [rens]
  | v :: vs => by simp [rens, rens_eq τ vs]
theorem rens_append (τ : Nat → Nat) (a b : List AV) : rens τ (a ++ b) = rens τ a ++ rens τ b := by rw [rens_eq, rens_eq, rens_eq, List.map_append]
theorem clbs_eq : ∀ vs : List AV, clbs vs = vs.all (·.clb)
  | [] => by simp [clbs]
  | v :: vs => by simp [clbs, clbs_eq vs]
mutual
theorem clb_ren (τ : Nat → Nat) : ∀ v : AV, v.clb = true → v.ren τ = v
  | .v _, _ => by simp only [AV.ren]
  | .em, _ => by simp only [AV.ren]
  | .any, _ => by simp only [AV.ren]
  | .nb, _ => by simp only [AV.ren]
  | .sl _ _ _, h => by simp [AV.clb] at h
  | .pt _ _, h => by simp [AV.clb] at h
  | .mp _, h => by simp [AV.clb] at h
  | .im _ cs, h => by simp only [AV.clb] at h; simp only [AV.ren, clbs_ren τ cs h]
  | .ip cs, h => by simp only [AV.clb] at h; simp only [AV.ren, clbs_ren τ cs h]
  | .ag cs, h => by simp only [AV.clb] at h; simp only [AV.ren, clbs_ren τ cs h]
  | .tu cs, h => by simp only [AV.clb] at h; simp only [AV.ren, clbs_ren τ cs h]
  | .fn f a b, h => by simp only [AV.clb, Bool.and_eq_true] at h; simp only [AV.ren, clbs_ren τ a h.1, clbs_ren τ b h.2]
theorem clbs_ren (τ : Nat → Nat) : ∀ vs : List AV, clbs vs = true → rens τ vs = vs
  | [], _ => by simp only [rens]
  | v :: vs, h => by simp only [clbs, Bool.and_eq_true] at h; simp only [rens, clb_ren τ v h.1, clbs_ren τ vs h.2]
end
mutual
theorem Cl.of : ∀ {v : AV}, v.clb = true → Cl v
  | .v _, _ => Cl.v _
  | .em, _ => Cl.em
  | .any, _ => fun I m w y h => by simp only [VR]
  | .nb, _ => fun I m w y h => by simpa only [VR] using h
  | .sl _ _ _, h => by simp [AV.clb] at h
  | .pt _ _, h => by simp [AV.clb] at h
  | .mp _, h => by simp [AV.clb] at h
  | .im _ cs, h => Cl.im (Cls.of (by simpa only [AV.clb] using h))
  | .ip cs, h => Cl.ip (Cls.of (by simpa only [AV.clb] using h))
  | .ag cs, h => Cl.ag (Cls.of (by simpa only [AV.clb] using h))
  | .tu cs, h => Cl.tu (Cls.of (by simpa only [AV.clb] using h))
  | .fn f a b, h => by simp only [AV.clb, Bool.and_eq_true] at h; exact Cl.fn (Cls.of h.1) (Cls.of h.2)
theorem Cls.of : ∀ {vs : List AV}, clbs vs = true → Cls vs
  | [], _ => Cls.nil
  | v :: vs, h => by simp only [clbs, Bool.and_eq_true] at h; exact Cls.cons (Cl.of h.1) (Cls.of h.2)
end
section
variable {I : Nat → Prop} {m m' : List Loc} {w : World} {τ : Nat → Nat}
mutual
theorem VR.ren (h : ∀ (j : Nat) L, lk m j = some L → lk m' (τ j) = some L) : ∀ (c : AV) (x : Value), VR I m w c x → VR I m' w (c.ren τ) x
  | .v _, _, k => by simpa only [AV.ren, VR] using k
  | .em, _, k => by simpa only [AV.ren, VR] using k
  | .any, _, k => by simp only [AV.ren, VR]
  | .nb, _, k => by simpa only [AV.ren, VR] using k
  | .sl _ _ _, _, k => by
    simp only [AV.ren, VR] at k ⊢
    obtain ⟨L, A, c, h1, h2⟩ := k
    exact ⟨L, A, c, h _ _ h1, h2⟩
  | .pt _ _, _, k => by
    simp only [AV.ren, VR] at k ⊢
    obtain ⟨L, h1, h2⟩ := k
    exact ⟨L, h _ _ h1, h2⟩
  | .mp _, _, k => by
    simp only [AV.ren, VR] at k ⊢
    obtain ⟨L, h1, h2⟩ := k
    exact ⟨L, h _ _ h1, h2⟩
  | .im n cs, _, k => by
    simp only [AV.ren, VR] at k ⊢
    obtain ⟨A, c, h1, h2, h3⟩ := k
    refine ⟨A, c, h1, h2, ?_⟩
    rcases h3 with rfl | ⟨b, o, h4, h5, h6⟩
    · exact .inl (by simp only [rens])
    · exact .inr ⟨b, o, h4, h5, CR.ren h cs o h6⟩
  | .ip cs, _, k => by
    simp only [AV.ren, VR] at k ⊢
    obtain ⟨b, o, h4, h5, h6⟩ := k
    exact ⟨b, o, h4, h5, CR.ren h cs o h6⟩
  | .ag cs, _, k => by
    simp only [AV.ren, VR] at k ⊢
    obtain ⟨xs, h1, h2⟩ := k
    exact ⟨xs, h1, VRs.ren h cs _ h2⟩
  | .tu cs, _, k => by
    simp only [AV.ren, VR] at k ⊢
    obtain ⟨xs, h1, h2⟩ := k
    exact ⟨xs, h1, VRs.ren h cs _ h2⟩
  | .fn f a b, _, k => by
    simp only [AV.ren, VR] at k ⊢
    obtain ⟨xs, ys, h1, h2, h3⟩ := k
    exact ⟨xs, ys, h1, VRs.ren h a _ h2, VRs.ren h b _ h3⟩
theorem VRs.ren (h : ∀ (j : Nat) L, lk m j = some L → lk m' (τ j) = some L) : ∀ (cs : List AV) (xs : List Value), VRs I m w cs xs → VRs I m' w (rens τ cs) xs
  | [], _, k => by simpa only [rens, VRs] using k
  | c :: cs, _, k => by
    simp only [rens, VRs] at k ⊢
    obtain ⟨y, zs, h1, h2, h3⟩ := k
    exact ⟨y, zs, h1, VR.ren h c y h2, VRs.ren h cs zs h3⟩
theorem CR.ren {b : Nat} (h : ∀ (j : Nat) L, lk m j = some L → lk m' (τ j) = some L) : ∀ (cs : List AV) (o : Nat), CR I m w b cs o → CR I m' w b (rens τ cs) o
  | [], _, _ => by simp only [rens, CR]
  | c :: cs, o, k => by
    simp only [rens, CR] at k ⊢
    obtain ⟨⟨x, h1, h2⟩, h3⟩ := k
    exact ⟨⟨x, h1, VR.ren h c x h2⟩, CR.ren h cs (o + 1) h3⟩
end
theorem ren_one (τ : Nat → Nat) (v : AV) : (v.ren τ).one = v.one := by cases v <;> rfl
theorem OR.ren (h : ∀ (j : Nat) L, lk m j = some L → lk m' (τ j) = some L) {o : AO} {L : Loc} (k : OR I m w o L) : OR I m' w (o.ren τ) L := by
  cases o with
  | dead => simp only [AO.ren, OR]
  | raw => simpa only [AO.ren, OR] using k
  | mapv ks vs =>
    simp only [AO.ren, OR] at k ⊢
    obtain ⟨q1, es, cl, q2, q3, q4⟩ := k
    exact ⟨q1, es, cl, q2, q3, VRs.ren h vs _ q4.1, q4.2⟩
  | mi vs s sn l =>
    simp only [AO.ren, OR] at k ⊢
    obtain ⟨q1, b, q2, q3⟩ := k
    exact ⟨q1, b, q2, VRs.ren h vs _ q3⟩
  | tc t cs =>
    simp only [AO.ren, OR] at k ⊢
    obtain ⟨q1, c, q2, q3⟩ := k
    refine ⟨⟨q1.1, q1.2.1, q1.2.2.1, by rw [rens_eq, List.length_map]; exact q1.2.2.2⟩, c, q2, fun i x hx => ?_⟩
    rw [rens_eq, List.getElem?_map, Option.map_eq_some_iff] at hx
    obtain ⟨v, hv, rfl⟩ := hx
    obtain ⟨y, h5, h6, h7⟩ := q3 i v hv
    exact ⟨y, h5, VR.ren h v y h6, by rw [ren_one]; exact h7⟩
  | tf t cs =>
    simp only [AO.ren, OR] at k ⊢
    obtain ⟨q1, c, fz, q2, q3⟩ := k
    refine ⟨⟨q1.1, q1.2.1, q1.2.2.1, by rw [rens_eq, List.length_map]; exact q1.2.2.2⟩, c, fz, q2, fun i x hx => ?_⟩
    rw [rens_eq, List.getElem?_map, Option.map_eq_some_iff] at hx
    obtain ⟨v, hv, rfl⟩ := hx
    obtain ⟨y, h5, h6, h7⟩ := q3 i v hv
    exact ⟨y, h5, VR.ren h v y h6, by rw [ren_one]; exact h7⟩
  | fx sz cs r =>
    simp only [AO.ren, OR] at k ⊢
    refine ⟨⟨k.1.1, by rw [rens_eq, List.length_map]; exact k.1.2.1, fun hc => ?_⟩, by rw [rens_eq, List.length_map]; exact k.2⟩
    obtain ⟨c, E, fz, h1, h2, h3, h4⟩ := k.1.2.2 hc
    refine ⟨c, E, fz, h1, h2, h3, fun i x hx => ?_⟩
    rw [rens_eq, List.getElem?_map, Option.map_eq_some_iff] at hx
    obtain ⟨v, hv, rfl⟩ := hx
    obtain ⟨y, h5, h6, h7⟩ := h4 i v hv
    exact ⟨y, h5, VR.ren h v y h6, by rw [ren_one]; exact h7⟩
  | ice sz cs =>
    simp only [AO.ren, OR] at k ⊢
    exact ⟨k.1, by rw [rens_eq, List.length_map]; exact k.2.1, fun hc => ⟨(k.2.2 hc).1, CR.ren h cs _ (k.2.2 hc).2⟩⟩
  | cells sz cs =>
    simp only [AO.ren, OR] at k ⊢
    refine ⟨k.1, by rw [rens_eq, List.length_map]; exact k.2.1, fun hc => ?_⟩
    obtain ⟨c, E, fz, h1, h2, h3, h4⟩ := k.2.2 hc
    refine ⟨c, E, fz, h1, h2, h3, fun i x hx => ?_⟩
    rw [rens_eq, List.getElem?_map, Option.map_eq_some_iff] at hx
    obtain ⟨v, hv, rfl⟩ := hx
    obtain ⟨y, h5, h6, h7⟩ := h4 i v hv
    exact ⟨y, h5, VR.ren h v y h6, by rw [ren_one]; exact h7⟩
theorem ren_alive (τ : Nat → Nat) (o : AO) : (o.ren τ).alive = o.alive := by cases o <;> rfl
end
def tau (ids : List Nat) (k n : Nat) (j : Nat) : Nat := if j < k then ids.getD j 0 else n + (j - k)
def upd (τ : Nat → Nat) : Nat → List Nat → List AO → List AO → List AO
  | _, [], _, H => H
  | k + 1, id :: ids, o :: Ho, H => upd τ k ids Ho (H.set id (o.ren τ))
  | k + 1, id :: ids, [], H => upd τ k ids [] (H.set id .dead)
  | 0, id :: ids, Ho, H => upd τ 0 ids Ho (H.set id .dead)
theorem upd_len (τ : Nat → Nat) : ∀ (ids : List Nat) (k : Nat) (Ho H : List AO), (upd τ k ids Ho H).length = H.length
  | [], k, Ho, H => by cases k <;> simp only [upd]
  | id :: ids, 0, Ho, H => by simp only [upd]; rw [upd_len τ ids]; simp
  | id :: ids, k + 1, [], H => by simp only [upd]; rw [upd_len τ ids]; simp
  | id :: ids, k + 1, o :: Ho, H => by simp only [upd]; rw [upd_len τ ids]; simp
theorem upd_other (τ : Nat → Nat) {t : Nat} : ∀ (ids : List Nat) (k : Nat) (Ho H : List AO), t ∉ ids → (upd τ k ids Ho H)[t]? = H[t]?
  | [], k, Ho, H, _ => by cases k <;> simp only [upd]
  | id :: ids, k, Ho, H, h => by
    have h1 : t ≠ id := fun e => h (by simp [e])
    have h2 : t ∉ ids := fun e => h (by simp [e])
    cases k with
    | zero => simp only [upd]; rw [upd_other τ ids 0 Ho _ h2, List.getElem?_set_ne (Ne.symm h1)]
    | succ k => cases Ho with
      | nil => simp only [upd]; rw [upd_other τ ids k [] _ h2, List.getElem?_set_ne (Ne.symm h1)]
      | cons o Ho => simp only [upd]; rw [upd_other τ ids k Ho _ h2, List.getElem?_set_ne (Ne.symm h1)]
theorem upd_id (τ : Nat → Nat) : ∀ (ids : List Nat) (k : Nat) (Ho H : List AO) (i t : Nat), ids.Nodup → ids[i]? = some t → t < H.length → (upd τ k ids Ho H)[t]? = some (if i < k then (match Ho[i]? with | some o => o.ren τ | none => .dead) else .dead)
  | [], k, Ho, H, i, t, _, h, _ => by simp at h
  | id :: ids, k, Ho, H, i, t, hn, h, hl => by
    obtain ⟨n1, n2⟩ := List.nodup_cons.1 hn
    cases i with
    | zero =>
      simp at h; subst h
      cases k with
      | zero => simp only [upd]; rw [upd_other τ ids 0 Ho _ n1, List.getElem?_set_self hl]; simp
      | succ k => cases Ho with
        | nil => simp only [upd]; rw [upd_other τ ids k [] _ n1, List.getElem?_set_self hl]; simp
        | cons o Ho => simp only [upd]; rw [upd_other τ ids k Ho _ n1, List.getElem?_set_self hl]; simp
    | succ i =>
      simp at h
      cases k with
      | zero => simp only [upd]; rw [upd_id τ ids 0 Ho _ i t n2 h (by simpa using hl)]; simp
      | succ k => cases Ho with
        | nil => simp only [upd]; rw [upd_id τ ids k [] _ i t n2 h (by simpa using hl)]; simp
        | cons o Ho => simp only [upd]; rw [upd_id τ ids k Ho _ i t n2 h (by simpa using hl)]; simp
theorem frz_none {I : Nat → Prop} {H : List AO} {m : List Loc} : Frz (fun _ => False) I H m = I := by
  funext b
  refine propext ⟨fun h => ?_, .inl⟩
  rcases h with h | ⟨_, _, _, h, _⟩
  · exact h
  · exact h.elim
theorem Svs.sgs {H : List AO} {σ : List Src} {F : Nat → Prop} : ∀ {vs vs2 : List AV}, Svs H σ F vs vs2 → Sgs H σ F vs vs2
  | [], [], _ => by simp only [Sgs]
  | [], _ :: _, h => by simp only [Svs] at h
  | _ :: _, [], h => by simp only [Svs] at h
  | v :: vs, v2 :: vs2, h => by simp only [Svs, Sgs] at h ⊢; exact ⟨.inr h.1, h.2.sgs⟩
theorem map_old_ids : ∀ (ids : List Nat), (ids.map Src.old).filterMap oldId = ids
  | [] => rfl
  | id :: ids => by simp [oldId, map_old_ids ids]
set_option maxHeartbeats 1000000 in
theorem ACall_fn {P : Program} {n k : Nat} {args args1 : List AV} {H Hi : List AO} {R R' : AV → List AO → Prop} (h : AFn P n k args1 Hi R) (ids : List Nat) (hnd : ids.Nodup) (hin : ∀ id ∈ ids, id < H.length) (hk : k ≤ ids.length)
    (ho : Obs H (ids.map .old) (fun _ => False) (ids.map .old) Hi) (ha : Svs H (ids.map .old) (fun _ => False) args args1)
    (hR : ∀ r Ho, R r Ho → R' (r.ren (tau ids k H.length)) (upd (tau ids k H.length) k ids Ho H ++ (Ho.drop k).map (·.ren (tau ids k H.length)))) : ACall P n args H R' := by
  intro I m w xs hr hv
  obtain ⟨c1, c2, c3, c4⟩ := VS_core (ids.map .old) (fun _ => False) (fun _ h => h.elim) (by rw [map_old_ids]; exact hnd) ho ha.sgs hr hv
  rw [frz_none] at c1 c2
  obtain ⟨ol, oo⟩ := ho.get
  rw [List.length_map] at ol
  generalize hm1 : sub m (ids.map Src.old) = m1 at *
  have m1get : ∀ (i id : Nat), ids[i]? = some id → m1[i]? = m[id]? := fun i id hi => by
    have hlt : id < m.length := by rw [hr.len]; exact hin id (List.mem_of_getElem? hi)
    rw [← hm1, sub_get (σ := ids.map Src.old) (j := i) (id := id) (L := m[id]) (by simp [hi]) (List.getElem?_eq_getElem hlt), List.getElem?_eq_getElem hlt]
  have hand : ∀ b, Own Hi m1 b → ∃ (i id : Nat) (o : AO) (L : Loc), ids[i]? = some id ∧ H[id]? = some o ∧ o.alive = true ∧ m[id]? = some L ∧ L.cap ≠ 0 ∧ L.b = b := fun b ⟨i, o, L, h1, h2, h3, h4, h5⟩ => by
    obtain ⟨id, o', h6, h7, h8, h9⟩ := c4 i o L h1 h2 h3 h4
    exact ⟨i, id, o', L, by simpa using h6, h7, h8, h9, h4, h5⟩
  have oth : ∀ (t : Nat) o L, H[t]? = some o → o.alive = true → m[t]? = some L → L.cap ≠ 0 → t ∉ ids → ¬ Own Hi m1 L.b := fun t o L h1 h2 h3 h4 h5 hO => by
    obtain ⟨i, id, o', L', k1, k2, k3, k4, k5, k6⟩ := hand _ hO
    exact hr.inj id t o' o L' L (fun e => h5 (e ▸ List.mem_of_getElem? k1)) k2 h1 k3 h2 k4 h3 k5 h4 k6
  refine (h I m1 w xs c1 c2).mono ?_
  rintro v w' ⟨r, Ho, I', m', h1, h2, h3, h4, h5⟩
  let τ := tau ids k H.length
  have hml := hr.len
  have hmo := h3.len
  have hm1l : m1.length = ids.length := by rw [← hm1]; simp [sub]
  have m'lt : ∀ j, j < k → m'[j]? = m1[j]? := fun j hj => by
    have : j < m1.length := by omega
    rw [List.getElem?_eq_getElem this]
    exact h5 j _ hj (List.getElem?_eq_getElem this)
  have emb : ∀ (j : Nat) L, m'[j]? = some L → (m ++ m'.drop k)[τ j]? = some L := fun j L hj => by
    simp only [τ, tau]
    by_cases hjk : j < k
    · rw [if_pos hjk]
      have hji : j < ids.length := by omega
      rw [List.getD_eq_getElem?_getD, List.getElem?_eq_getElem hji, Option.getD_some]
      have hid : ids[j]? = some ids[j] := List.getElem?_eq_getElem hji
      have hlt : ids[j] < m.length := by rw [hml]; exact hin _ (List.getElem_mem hji)
      rw [List.getElem?_append_left hlt, ← m1get j _ hid, ← m'lt j hjk]
      exact hj
    · rw [if_neg hjk, ← hml, List.getElem?_append_right (by omega), List.getElem?_drop]
      rw [show k + (m.length + (j - k) - m.length) = j by omega]
      exact hj
  have emb' : ∀ (j : Nat) L, lk m' j = some L → lk (m ++ m'.drop k) (τ j) = some L := fun j L h => lk_of (emb j L (lk_get h).1) (lk_get h).2
  have cls : ∀ (t : Nat) o L, (upd τ k ids Ho H ++ (Ho.drop k).map (·.ren τ))[t]? = some o → (m ++ m'.drop k)[t]? = some L → (t ∉ ids ∧ H[t]? = some o ∧ m[t]? = some L) ∨ o = .dead ∨ (∃ j oj, τ j = t ∧ Ho[j]? = some oj ∧ o = oj.ren τ ∧ m'[j]? = some L) := fun t o L ht hL => by
    by_cases hlt : t < H.length
    · rw [List.getElem?_append_left (by rw [upd_len]; exact hlt)] at ht
      rw [List.getElem?_append_left (by omega)] at hL
      by_cases hmem : t ∈ ids
      · obtain ⟨i, hi⟩ := List.getElem?_of_mem hmem
        rw [upd_id τ ids k Ho H i t hnd hi hlt] at ht
        injection ht with ht
        by_cases hik : i < k
        · rw [if_pos hik] at ht
          cases hoi : Ho[i]? with
          | none => rw [hoi] at ht; exact .inr (.inl ht.symm)
          | some oi =>
            rw [hoi] at ht
            refine .inr (.inr ⟨i, oi, ?_, hoi, ht.symm, ?_⟩)
            · simp only [τ, tau]; rw [if_pos hik, List.getD_eq_getElem?_getD, hi]; rfl
            · rw [m'lt i hik, m1get i t hi]; exact hL
        · rw [if_neg hik] at ht; exact .inr (.inl ht.symm)
      · rw [upd_other τ ids k Ho H hmem] at ht
        exact .inl ⟨hmem, ht, hL⟩
    · rw [List.getElem?_append_right (by rw [upd_len]; omega), upd_len, List.getElem?_map, List.getElem?_drop, Option.map_eq_some_iff] at ht
      obtain ⟨oj, hoj, rfl⟩ := ht
      rw [List.getElem?_append_right (by omega), List.getElem?_drop, hml] at hL
      refine .inr (.inr ⟨k + (t - H.length), oj, ?_, hoj, rfl, hL⟩)
      simp only [τ, tau]; rw [if_neg (by omega)]; omega
  have ownA : ∀ b, Own (upd τ k ids Ho H ++ (Ho.drop k).map (·.ren τ)) (m ++ m'.drop k) b → (∃ t o L, t ∉ ids ∧ H[t]? = some o ∧ o.alive = true ∧ m[t]? = some L ∧ L.cap ≠ 0 ∧ L.b = b) ∨ Own Ho m' b := fun b ⟨t, o, L, q1, q2, q3, q4, q5⟩ => by
    rcases cls t o L q1 q3 with ⟨r1, r2, r3⟩ | rfl | ⟨j, oj, r1, r2, rfl, r4⟩
    · exact .inl ⟨t, o, L, r1, r2, q2, r3, q4, q5⟩
    · cases q2
    · exact .inr ⟨j, oj, L, r2, by rw [← ren_alive τ]; exact q2, r4, q4, q5⟩
  have Hlt : ∀ b, (∃ t o L, t ∉ ids ∧ H[t]? = some o ∧ o.alive = true ∧ m[t]? = some L ∧ L.cap ≠ 0 ∧ L.b = b) → b < w.heap.size ∧ Own H m b ∧ ¬ Own Hi m1 b := fun b ⟨t, o, L, q1, q2, q3, q4, q5, q6⟩ => by
    subst q6
    exact ⟨hr.lt q2 q3 q4 q5, ⟨t, o, L, q2, q3, q4, q5, rfl⟩, oth t o L q2 q3 q4 q5 q1⟩
  refine ⟨r.ren τ, _, I', m ++ m'.drop k, hR r Ho h1, VR.ren emb' r v h2, ⟨?_, fun t o L q1 q2 => ?_, fun i j oi oj Li Lj hij hi hj ai aj mi mj ci cj => ?_, fun b hb hO => ?_, h3.ilt, h3.gl⟩, ⟨h4.os, h4.tape, h4.output, h4.size, fun b hb hn => h4.blk b hb fun hO => hn (c3 b hO), h4.imm, fun b hb => ?_, ⟨_, rfl⟩, fun b hb => ?_⟩⟩
  · simp only [List.length_append, upd_len, List.length_map, List.length_drop, hml, hmo]
  · rcases cls t o L q1 q2 with ⟨r1, r2, r3⟩ | rfl | ⟨j, oj, r1, r2, rfl, r4⟩
    · exact OR.mono (nu := m'.drop k) h4.imm (fun b hb => h4.blk b (hr.ilt b hb) fun hO => hr.imm b hb (c3 b hO)) (fun ha hc => h4.blk _ (hr.lt r2 ha r3 hc) (oth t o L r2 ha r3 hc r1)) (hr.ob t o L r2 r3)
    · simp only [OR]
    · exact OR.ren emb' (h3.ob j oj L r2 r4)
  · have inner : ∀ (t : Nat) o L, t ∉ ids → H[t]? = some o → o.alive = true → m[t]? = some L → L.cap ≠ 0 → ∀ (j : Nat) oj, Ho[j]? = some oj → (oj.ren τ).alive = true → ∀ L', m'[j]? = some L' → L'.cap ≠ 0 → L.b ≠ L'.b := fun t o L r1 r2 r3 r4 r5 j oj s1 s2 L' s3 s4 e => by
      obtain ⟨u1, u2, u3⟩ := Hlt L.b ⟨t, o, L, r1, r2, r3, r4, r5, rfl⟩
      rcases h4.ow L.b ⟨j, oj, L', s1, by rw [← ren_alive τ]; exact s2, s3, s4, e.symm⟩ with hO | hO
      · exact u3 hO
      · omega
    rcases cls i oi Li hi mi with ⟨r1, r2, r3⟩ | rfl | ⟨p, op, r1, r2, rfl, r4⟩
    · rcases cls j oj Lj hj mj with ⟨s1, s2, s3⟩ | rfl | ⟨q, oq, s1, s2, rfl, s4⟩
      · exact hr.inj i j oi oj Li Lj hij r2 s2 ai aj r3 s3 ci cj
      · cases aj
      · exact inner i oi Li r1 r2 ai r3 ci q oq s2 aj Lj s4 cj
    · cases ai
    · rcases cls j oj Lj hj mj with ⟨s1, s2, s3⟩ | rfl | ⟨q, oq, s1, s2, rfl, s4⟩
      · exact (inner j oj Lj s1 s2 aj s3 cj p op r2 ai Li r4 ci).symm
      · cases aj
      · exact h3.inj p q op oq Li Lj (fun e => hij (by rw [← r1, ← s1, e])) r2 s2 (by rw [← ren_alive τ]; exact ai) (by rw [← ren_alive τ]; exact aj) r4 s4 ci cj
  · rcases ownA b hO with hA | hB
    · obtain ⟨u1, u2, u3⟩ := Hlt b hA
      rcases h4.inew b hb with q | q | q
      · exact hr.imm b q u2
      · exact u3 q
      · omega
    · exact h3.imm b hb hB
  · rcases ownA b hb with hA | hB
    · exact .inl (Hlt b hA).2.1
    · rcases h4.ow b hB with q | q
      · exact .inl (c3 b q)
      · exact .inr q
  · rcases h4.inew b hb with q | q | q
    · exact .inl q
    · exact .inr (.inl (c3 b q))
    · exact .inr (.inr q)
end Go.Abs
namespace Go.Abs
open Go
section
variable {P : Program} {n k : Nat} {H : List AO} {R : AV → List AO → Prop}
theorem ACall_ice {args : List AV} (id : Nat) {sz : Nat} {cs : List AV} (ho : H[id]? = some (.cells sz cs)) (h : ACall P n args (H.set id (.ice sz cs)) R) : ACall P n args H R := by
  intro I m w xs hr hv
  have hlt : id < H.length := (List.getElem?_eq_some_iff.1 ho).1
  have hm : m[id]? = some (m[id]'(by rw [hr.len]; exact hlt)) := List.getElem?_eq_getElem _
  generalize m[id]'(by rw [hr.len]; exact hlt) = L at hm
  let I2 : Nat → Prop := fun b => I b ∨ (L.cap ≠ 0 ∧ b = L.b)
  have old : ∀ (j : Nat) oj, (H.set id (.ice sz cs))[j]? = some oj → oj.alive = true → j ≠ id ∧ H[j]? = some oj := fun j oj h ha => by
    by_cases hj : j = id
    · subst hj
      rw [List.getElem?_set_self hlt] at h
      injection h with h; subst h; cases ha
    · exact ⟨hj, by rwa [List.getElem?_set_ne (Ne.symm hj)] at h⟩
  have own : ∀ b, Own (H.set id (.ice sz cs)) m b → Own H m b := fun b ⟨j, oj, Lj, h1, h2, h3⟩ => ⟨j, oj, Lj, (old j oj h1 h2).2, h2, h3⟩
  have mono : ∀ v y, VR I m w v y → VR I2 m w v y := fun v y k => by
    have := VR.mono (I' := I2) (nu := []) (w' := w) (fun _ h => .inl h) (fun _ _ => rfl) v y k
    simpa using this
  have hr2 : HR I2 m (H.set id (.ice sz cs)) w := ⟨by simp [hr.len], fun j oj Lj h1 h2 => by
      by_cases hj : j = id
      · subst hj
        rw [List.getElem?_set_self hlt] at h1
        injection h1 with h1; subst h1
        rw [hm] at h2; injection h2 with h2; subst h2
        obtain ⟨q1, q2, q3⟩ := hr.ob j _ L ho hm
        refine ⟨q1, q2, fun hc => ⟨.inr ⟨hc, rfl⟩, CR.of_get fun i c hci => ?_⟩⟩
        obtain ⟨y, q4, q5⟩ := hr.cellOf (.inl ho) hm hci
        exact ⟨y, q4, mono c y q5⟩
      · rw [List.getElem?_set_ne (Ne.symm hj)] at h1
        have := OR.mono (I' := I2) (nu := []) (w' := w) (fun _ h => .inl h) (fun _ _ => rfl) (fun _ _ => rfl) (hr.ob j oj Lj h1 h2)
        simpa using this,
    fun i j oi oj Li Lj hij hi hj ai aj => hr.inj i j oi oj Li Lj hij (old i oi hi ai).2 (old j oj hj aj).2 ai aj,
    fun b hb hO => by
      rcases hb with hb | ⟨hc, rfl⟩
      · exact hr.imm b hb (own b hO)
      · obtain ⟨j, oj, Lj, h1, h2, h3, h4, h5⟩ := hO
        obtain ⟨hj, h1'⟩ := old j oj h1 h2
        exact hr.inj j id oj _ Lj L hj h1' ho h2 rfl h3 hm h4 hc h5,
    fun b hb => by
      rcases hb with hb | ⟨hc, rfl⟩
      · exact hr.ilt b hb
      · exact hr.lt ho rfl hm hc, hr.gl.on (fun _ h => .inl h) fun _ _ => rfl⟩
  have hv2 : VRs I2 m w args xs.toList := by
    have := VRs.mono (I' := I2) (nu := []) (w' := w) (fun _ h => .inl h) (fun _ _ => rfl) args _ hv
    simpa using this
  refine (h I2 m w xs hr2 hv2).mono ?_
  rintro v w' ⟨r, H', I', m', h1, h2, h3, h4⟩
  exact ⟨r, H', I', m', h1, h2, h3, ⟨h4.os, h4.tape, h4.output, h4.size, fun b hb hn => h4.blk b hb fun hO => hn (own b hO), fun b hb => h4.imm b (.inl hb), fun b hb => (h4.ow b hb).imp (own b) _root_.id, h4.pre, fun b hb => by
    rcases h4.inew b hb with (q | ⟨q1, rfl⟩) | q | q
    · exact .inl q
    · exact .inr (.inl ⟨id, _, L, ho, rfl, hm, q1, rfl⟩)
    · exact .inr (.inl (own b q))
    · exact .inr (.inr q)⟩⟩
theorem APure_of {args : List AV} {r : AV} (h : AFn P n 0 args [] (fun v Ho => v = r ∧ Ho = [])) : APure P n args r := by
  intro I m w xs hr hv
  have hm : m = [] := List.eq_nil_of_length_eq_zero (by simpa using hr.len)
  subst hm
  refine (h I [] w xs hr hv).mono ?_
  rintro v w' ⟨r', Ho, I', m', ⟨rfl, rfl⟩, h2, h3, h4, h5⟩
  have hm' : m' = [] := List.eq_nil_of_length_eq_zero (by simpa using h3.len)
  subst hm'
  refine ⟨r', [], I', [], fun J mm w2 y hr2 k => ?_, h2, h3, h4.ext ⟨[], rfl⟩⟩
  have hmm : mm = [] := List.eq_nil_of_length_eq_zero (by simpa using hr2.len)
  subst hmm
  have := VR.mono (I' := fun b => J b ∨ Own [] [] b) (nu := []) (w' := w2) (fun _ hb => .inl hb) (fun _ _ => rfl) r' y k
  simpa using this
theorem APure.afn {args : List AV} {r : AV} (h : APure P n args r) : AFn P n 0 args [] (fun v Ho => v = r ∧ Ho = []) := by
  intro I m w xs hr hv
  have hm : m = [] := List.eq_nil_of_length_eq_zero (by simpa using hr.len)
  subst hm
  refine (h I [] w xs hr hv).mono ?_
  rintro v w' ⟨r', Ho, I', m', hrf, h2, h3, h4⟩
  refine ⟨r, [], fun b => I' b ∨ Own Ho m' b, [], ⟨rfl, rfl⟩, hrf I' m' w' v h3 h2, HR.empty (fun b hb => ?_) (h3.gl.on (fun _ h => .inl h) fun _ _ => rfl), ⟨h4.os, h4.tape, h4.output, h4.size, h4.blk, fun b hb => .inl (h4.imm b hb), fun b hb => (Own.nil hb).elim, fun b hb => ?_⟩, fun i L _ h => by simp at h⟩
  · rcases hb with hb | hb
    · exact h3.ilt b hb
    · exact hb.lt h3
  · rcases hb with hb | hb
    · exact h4.inew b hb
    · exact .inr (h4.ow b hb)
variable {K : List AV → List AO → Prop} {os : List LOp} {dst : Option Tmp} {g : List AV}
theorem LCall_fn {args args1 : List AV} {Hi : List AO} (h : AFn P n k args1 Hi R) (ids : List Nat) (hnd : ids.Nodup) (hin : ∀ id ∈ ids, id < H.length) (hk : k ≤ ids.length)
    (ho : Obs H (ids.map .old) (fun _ => False) (ids.map .old) Hi) (ha : Svs H (ids.map .old) (fun _ => False) args args1)
    (hR : ∀ r Ho, R r Ho → LOps P K os (put g dst (r.ren (tau ids k H.length))) (upd (tau ids k H.length) k ids Ho H ++ (Ho.drop k).map (·.ren (tau ids k H.length)))) : LCall P K os dst g H n args := LCall_of (ACall_fn h ids hnd hin hk ho ha hR)
theorem Svs.eq {H : List AO} {σ : List Src} {F : Nat → Prop} {cs cs2 : List AV} (h : cs = cs2) (hc : clbs cs2 = true) : Svs H σ F cs cs2 := by subst h; exact Svs.cl (Cls.of hc)
theorem Sv.eq {H : List AO} {σ : List Src} {F : Nat → Prop} {v v2 : AV} (h : v = v2) (hc : v2.clb = true) : Sv H σ F v v2 := by subst h; exact Sv.cl (Cl.of hc)
theorem Sv.slE {H : List AO} {σ : List Src} {F : Nat → Prop} {id off len j off2 len2 : Nat} (hj : σ[j]? = some (.old id)) (h1 : off = off2) (h2 : len = len2) : Sv H σ F (.sl id off len) (.sl j off2 len2) := by subst h1; subst h2; exact Sv.sl hj
theorem Sv.slFE {H : List AO} {σ : List Src} {F : Nat → Prop} {id off len len2 sz : Nat} {cs rs : List AV} (ho : (H[id]? = some (.cells sz cs) ∧ F id) ∨ H[id]? = some (.ice sz cs)) (h1 : len = len2) (h : Svs H σ F (cs.drop off) rs) : Sv H σ F (.sl id off len) (.im len2 rs) := by subst h1; exact Sv.slF ho h
end
theorem Fin_of {k : Nat} {H Ho : List AO} {v r : AV} {R : AV → List AO → Prop} (hR : R r Ho) (h : VS k [v] H [r] Ho) : Fin k v H R := ⟨r, Ho, hR, h⟩
section
variable {P : Program} {H : List AO} {Q : List AV → Prop} {os : List LOp} {dst : Option Tmp} {g : List AV}
theorem ZNext_if {p : Prop} [Decidable p] {x : Option (AV × List AO)} (h : p) (h2 : ZNext P H Q os dst g x) : ZNext P H Q os dst g (if p then x else none) := by
  rw [if_pos h]; exact h2
end
attribute [go_sem] MX_skip MX_ret MX_exit MX_seq MX_cond MX_block MX_reg MX_loop MX_draw MCond_true MCond_false MCond_nb endM
attribute [go_sem] AV.clb clbs AV.ren rens AO.ren rens_append
end Go.Abs
namespace Go.Abs
open Go
mutual
theorem ren_id : ∀ v : AV, v.ren (fun j => j) = v
  | .v _ => by simp only [AV.ren]
  | .em => by simp only [AV.ren]
  | .any => by simp only [AV.ren]
  | .nb => by simp only [AV.ren]
  | .sl _ _ _ => by simp only [AV.ren]
  | .pt _ _ => by simp only [AV.ren]
  | .mp _ => by simp only [AV.ren]
  | .im _ cs => by simp only [AV.ren, rens_id cs]
  | .ip cs => by simp only [AV.ren, rens_id cs]
  | .ag cs => by simp only [AV.ren, rens_id cs]
  | .tu cs => by simp only [AV.ren, rens_id cs]
  | .fn f a b => by simp only [AV.ren, rens_id a, rens_id b]
theorem rens_id : ∀ vs : List AV, rens (fun j => j) vs = vs
  | [] => by simp only [rens]
  | v :: vs => by simp only [rens, ren_id v, rens_id vs]
end
theorem oren_id (o : AO) : o.ren (fun j => j) = o := by cases o <;> simp only [AO.ren, rens_id]
section
variable {I I' : Nat → Prop} {m m' : List Loc} {w w' : World}
theorem VRs.le (h : ∀ (j : Nat) L, lk m j = some L → lk m' j = some L) (hI : ∀ b, I b → I' b) (hw : ∀ b, I b → w'.heap[b]? = w.heap[b]?) {v : List AV} {y : List Value} (k : VRs I m w v y) : VRs I' m' w' v y := by
  have h1 := VRs.mono (nu := []) hI hw v y k
  simp only [List.append_nil] at h1
  have h2 := VRs.ren (τ := fun j => j) h v y h1
  rwa [rens_id] at h2
theorem OR.le (h : ∀ (j : Nat) L, lk m j = some L → lk m' j = some L) (hI : ∀ b, I b → I' b) (hw : ∀ b, I b → w'.heap[b]? = w.heap[b]?) {o : AO} {L : Loc} (hL : o.alive = true → L.cap ≠ 0 → w'.heap[L.b]? = w.heap[L.b]?) (k : OR I m w o L) : OR I' m' w' o L := by
  have h1 := OR.mono (nu := []) hI hw hL k
  simp only [List.append_nil] at h1
  have h2 := OR.ren (τ := fun j => j) h h1
  rwa [oren_id] at h2
end
def apE (E : List (Nat × AO)) (H : List AO) : List AO := E.foldl (fun H p => H.set p.1 p.2) H
theorem apE_nil (H : List AO) : apE [] H = H := _root_.id rfl
theorem apE_cons (p : Nat × AO) (E : List (Nat × AO)) (H : List AO) : apE (p :: E) H = apE E (H.set p.1 p.2) := _root_.id rfl
theorem apE_len : ∀ (E : List (Nat × AO)) (H : List AO), (apE E H).length = H.length
  | [], H => rfl
  | p :: E, H => by rw [apE_cons, apE_len E]; simp
theorem apE_append (E E' : List (Nat × AO)) (H : List AO) : apE (E ++ E') H = apE E' (apE E H) := by simp [apE]
theorem apE_other {id : Nat} : ∀ (E : List (Nat × AO)) (H : List AO), id ∉ E.map (·.1) → (apE E H)[id]? = H[id]?
  | [], H, _ => rfl
  | p :: E, H, h => by
    simp only [List.map_cons, List.mem_cons, not_or] at h
    rw [apE_cons, apE_other E _ h.2, List.getElem?_set_ne (Ne.symm h.1)]
theorem apE_congr {id : Nat} : ∀ (E : List (Nat × AO)) (H H' : List AO), H.length = H'.length → (id ∉ E.map (·.1) → H[id]? = H'[id]?) → (apE E H)[id]? = (apE E H')[id]?
  | [], H, H', _, h => h (by simp)
  | p :: E, H, H', hl, h => by
    rw [apE_cons, apE_cons]
    refine apE_congr E _ _ (by simp [hl]) fun hn => ?_
    by_cases e : p.1 = id
    · subst e
      rw [List.getElem?_set, List.getElem?_set, hl]; simp
    · rw [List.getElem?_set_ne e, List.getElem?_set_ne e]
      exact h (by simp only [List.map_cons, List.mem_cons, not_or]; exact ⟨fun e' => e e'.symm, hn⟩)
def setAll {α : Type} : List α → List Nat → List α → List α
  | m, s :: ss, L :: Ls => setAll (m.set s L) ss Ls
  | m, _, _ => m
theorem setAll_len {α : Type} : ∀ (ss : List Nat) (Ls m : List α), (setAll m ss Ls).length = m.length
  | [], Ls, m => by cases Ls <;> rfl
  | s :: ss, [], m => rfl
  | s :: ss, L :: Ls, m => by simp only [setAll]; rw [setAll_len ss Ls]; simp
theorem setAll_other {α : Type} {j : Nat} : ∀ (ss : List Nat) (Ls m : List α), j ∉ ss → (setAll m ss Ls)[j]? = m[j]?
  | [], Ls, m, _ => by cases Ls <;> rfl
  | s :: ss, [], m, _ => rfl
  | s :: ss, L :: Ls, m, h => by
    simp only [List.mem_cons, not_or] at h
    simp only [setAll]; rw [setAll_other ss Ls _ h.2, List.getElem?_set_ne (Ne.symm h.1)]
theorem setAll_at {α : Type} : ∀ (ss : List Nat) (Ls m : List α) (i s : Nat) (L : α), ss.Nodup → ss[i]? = some s → Ls[i]? = some L → s < m.length → (setAll m ss Ls)[s]? = some L
  | [], Ls, m, i, s, L, _, h, _, _ => by simp at h
  | s' :: ss, [], m, i, s, L, _, _, h, _ => by simp at h
  | s' :: ss, L' :: Ls, m, i, s, L, hn, h1, h2, hl => by
    obtain ⟨n1, n2⟩ := List.nodup_cons.1 hn
    simp only [setAll]
    cases i with
    | zero =>
      simp at h1 h2; subst h1; subst h2
      rw [setAll_other ss Ls _ n1, List.getElem?_set_self hl]
    | succ i =>
      simp at h1 h2
      exact setAll_at ss Ls _ i s L n2 h1 h2 (by simpa using hl)
theorem setAll_mem {α : Type} (ss : List Nat) (Ls m : List α) (hl : ss.length = Ls.length) {s : Nat} (hs : s ∈ ss) : ∃ (i : Nat) (L : α), ss[i]? = some s ∧ Ls[i]? = some L := by
  obtain ⟨i, hi⟩ := List.getElem?_of_mem hs
  have : i < Ls.length := by rw [← hl]; exact (List.getElem?_eq_some_iff.1 hi).1
  exact ⟨i, Ls[i], hi, List.getElem?_eq_getElem this⟩
section
variable {I : Nat → Prop} {m : List Loc} {w : World} {τ : Nat → Nat}
theorem lk_lt {id : Nat} {L : Loc} (h : lk m id = some L) : id < m.length := (List.getElem?_eq_some_iff.1 (lk_get h).1).1
mutual
theorem VR.bel (hτ : ∀ j, j < m.length → τ j = j) : ∀ (v : AV) (y : Value), VR I m w v y → v.ren τ = v
  | .v _, _, _ => by simp only [AV.ren]
  | .em, _, _ => by simp only [AV.ren]
  | .any, _, _ => by simp only [AV.ren]
  | .nb, _, _ => by simp only [AV.ren]
  | .sl _ _ _, _, k => by
    simp only [VR] at k
    obtain ⟨L, A, c, h1, h2⟩ := k
    simp only [AV.ren, hτ _ (lk_lt h1)]
  | .pt _ _, _, k => by
    simp only [VR] at k
    obtain ⟨L, h1, h2⟩ := k
    simp only [AV.ren, hτ _ (lk_lt h1)]
  | .mp _, _, k => by
    simp only [VR] at k
    obtain ⟨L, h1, h2⟩ := k
    simp only [AV.ren, hτ _ (lk_lt h1)]
  | .im n cs, _, k => by
    simp only [VR] at k
    obtain ⟨A, c, h1, h2, h3⟩ := k
    rcases h3 with rfl | ⟨b, o, h4, h5, h6⟩
    · simp only [AV.ren, rens]
    · simp only [AV.ren, CR.bel hτ cs o h6]
  | .ip cs, _, k => by
    simp only [VR] at k
    obtain ⟨b, o, h4, h5, h6⟩ := k
    simp only [AV.ren, CR.bel hτ cs o h6]
  | .ag cs, _, k => by
    simp only [VR] at k
    obtain ⟨xs, h1, h2⟩ := k
    simp only [AV.ren, VRs.bel hτ cs _ h2]
  | .tu cs, _, k => by
    simp only [VR] at k
    obtain ⟨xs, h1, h2⟩ := k
    simp only [AV.ren, VRs.bel hτ cs _ h2]
  | .fn f a b, _, k => by
    simp only [VR] at k
    obtain ⟨xs, ys, h1, h2, h3⟩ := k
    simp only [AV.ren, VRs.bel hτ a _ h2, VRs.bel hτ b _ h3]
theorem VRs.bel (hτ : ∀ j, j < m.length → τ j = j) : ∀ (cs : List AV) (xs : List Value), VRs I m w cs xs → rens τ cs = cs
  | [], _, _ => by simp only [rens]
  | c :: cs, _, k => by
    simp only [VRs] at k
    obtain ⟨y, zs, h1, h2, h3⟩ := k
    simp only [rens, VR.bel hτ c y h2, VRs.bel hτ cs zs h3]
theorem CR.bel {b : Nat} (hτ : ∀ j, j < m.length → τ j = j) : ∀ (cs : List AV) (o : Nat), CR I m w b cs o → rens τ cs = cs
  | [], _, _ => by simp only [rens]
  | c :: cs, o, k => by
    simp only [CR] at k
    obtain ⟨⟨x, h1, h2⟩, h3⟩ := k
    simp only [rens, VR.bel hτ c x h2, CR.bel hτ cs (o + 1) h3]
end
theorem OR.bel (hτ : ∀ j, j < m.length → τ j = j) {o : AO} {L : Loc} (k : OR I m w o L) : o.ren τ = o := by
  cases o with
  | dead => rfl
  | raw => rfl
  | mapv ks vs =>
    simp only [OR] at k
    obtain ⟨q1, es, cl, q2, q3, q4⟩ := k
    simp only [AO.ren, VRs.bel hτ vs _ q4.1]
  | mi vs s sn l =>
    simp only [OR] at k
    obtain ⟨q1, b, q2, q3⟩ := k
    simp only [AO.ren, VRs.bel hτ vs _ q3]
  | tc t cs =>
    simp only [OR] at k
    obtain ⟨_, c, _, h4⟩ := k
    have : rens τ cs = cs := by
      rw [rens_eq]
      apply List.ext_getElem?
      intro i
      rw [List.getElem?_map]
      cases hi : cs[i]? with
      | none => rfl
      | some v =>
        obtain ⟨y, _, h6, _⟩ := h4 i v hi
        simp only [Option.map_some, VR.bel hτ v y h6]
    simp only [AO.ren, this]
  | tf t cs =>
    simp only [OR] at k
    obtain ⟨_, c, fz, _, h4⟩ := k
    have : rens τ cs = cs := by
      rw [rens_eq]
      apply List.ext_getElem?
      intro i
      rw [List.getElem?_map]
      cases hi : cs[i]? with
      | none => rfl
      | some v =>
        obtain ⟨y, _, h6, _⟩ := h4 i v hi
        simp only [Option.map_some, VR.bel hτ v y h6]
    simp only [AO.ren, this]
  | ice sz cs =>
    simp only [OR] at k
    by_cases hc : L.cap = 0
    · have : cs = [] := List.eq_nil_of_length_eq_zero (by omega)
      subst this; simp only [AO.ren, rens]
    · simp only [AO.ren, CR.bel hτ cs _ (k.2.2 hc).2]
  | fx sz cs r =>
    simp only [OR] at k
    by_cases hc : L.cap = 0
    · have : cs = [] := List.eq_nil_of_length_eq_zero (by omega)
      subst this; simp only [AO.ren, rens]
    · obtain ⟨c, E, fz, h1, h2, h3, h4⟩ := k.1.2.2 hc
      have : rens τ cs = cs := by
        rw [rens_eq]
        apply List.ext_getElem?
        intro i
        rw [List.getElem?_map]
        cases hi : cs[i]? with
        | none => rfl
        | some v =>
          obtain ⟨y, _, h6, _⟩ := h4 i v hi
          simp only [Option.map_some, VR.bel hτ v y h6]
      simp only [AO.ren, this]
  | cells sz cs =>
    simp only [OR] at k
    by_cases hc : L.cap = 0
    · have : cs = [] := List.eq_nil_of_length_eq_zero (by omega)
      subst this; simp only [AO.ren, rens]
    · obtain ⟨c, E, fz, h1, h2, h3, h4⟩ := k.2.2 hc
      have : rens τ cs = cs := by
        rw [rens_eq]
        apply List.ext_getElem?
        intro i
        rw [List.getElem?_map]
        cases hi : cs[i]? with
        | none => rfl
        | some v =>
          obtain ⟨y, _, h6, _⟩ := h4 i v hi
          simp only [Option.map_some, VR.bel hτ v y h6]
      simp only [AO.ren, this]
end
def mv (N : Nat) (slots : List Nat) (j : Nat) : Nat := if j < N then j else slots.getD (j - N) 0
theorem mv_lt {N : Nat} {slots : List Nat} {j : Nat} (h : j < N) : mv N slots j = j := if_pos h
theorem mv_new {N : Nat} {slots : List Nat} (i : Nat) : mv N slots (N + i) = slots.getD i 0 := by
  unfold mv; rw [if_neg (by omega), Nat.add_sub_cancel_left]
section
variable {I I' : Nat → Prop} {m nu : List Loc} {H Hn : List AO} {E : List (Nat × AO)} {w w' : World} {slots : List Nat}
theorem HR.move (hr : HR I m H w) (hr' : HR I' (m ++ nu) (apE E H ++ Hn) w') (hx : Ex I (Own H m) w I' (Own (apE E H ++ Hn) (m ++ nu)) w')
    (hl : slots.length = Hn.length) (hn : slots.Nodup) (hs : ∀ s ∈ slots, s < H.length ∧ lk m s = none ∧ s ∉ E.map (·.1)) :
    HR I' (setAll m slots nu) (apE (E.map (fun p => (p.1, p.2.ren (mv H.length slots))) ++ slots.zip (Hn.map (·.ren (mv H.length slots)))) H) w' ∧
    (∀ (j : Nat) L, lk (m ++ nu) j = some L → lk (setAll m slots nu) (mv H.length slots j) = some L) ∧
    (∀ (j : Nat) L, lk m j = some L → lk (setAll m slots nu) j = some L) ∧
    Ex I (Own H m) w I' (Own (apE (E.map (fun p => (p.1, p.2.ren (mv H.length slots))) ++ slots.zip (Hn.map (·.ren (mv H.length slots)))) H) (setAll m slots nu)) w' := by
  have hml := hr.len
  have hml' := hr'.len
  simp only [List.length_append, apE_len] at hml'
  have hnu : nu.length = Hn.length := by omega
  generalize hτ : mv H.length slots = τ
  have le1 : ∀ (j : Nat) L, lk (m ++ nu) j = some L → lk (setAll m slots nu) (τ j) = some L := fun j L hj => by
    obtain ⟨h1, h2⟩ := lk_get hj
    rw [← hτ]
    by_cases hjl : j < H.length
    · rw [mv_lt hjl]
      rw [List.getElem?_append_left (by omega)] at h1
      refine lk_of ?_ h2
      rw [setAll_other slots nu m fun hmem => ?_]
      · exact h1
      · have := (hs j hmem).2.1
        rw [lk_of h1 h2] at this; cases this
    · rw [List.getElem?_append_right (by omega)] at h1
      refine lk_of ?_ h2
      have hlt : j - m.length < nu.length := (List.getElem?_eq_some_iff.1 h1).1
      have hlt2 : j - H.length < slots.length := by omega
      have e1 : slots[j - H.length]? = some slots[j - H.length] := List.getElem?_eq_getElem hlt2
      have e2 : mv H.length slots j = slots[j - H.length] := by
        unfold mv; rw [if_neg hjl, List.getD_eq_getElem?_getD, e1]; rfl
      rw [e2]
      exact setAll_at slots nu m (j - H.length) _ L hn e1 (by rw [← hml]; exact h1) (by rw [hml]; exact (hs _ (List.getElem_mem hlt2)).1)
  have le2 : ∀ (j : Nat) L, lk m j = some L → lk (setAll m slots nu) j = some L := fun j L hj => by
    obtain ⟨h1, h2⟩ := lk_get hj
    refine lk_of ?_ h2
    rw [setAll_other slots nu m fun hmem => ?_]
    · exact h1
    · have := (hs j hmem).2.1
      rw [hj] at this; cases this
  have cls : ∀ (t : Nat) o L, (apE (E.map (fun p => (p.1, p.2.ren τ)) ++ slots.zip (Hn.map (·.ren τ))) H)[t]? = some o → (setAll m slots nu)[t]? = some L →
      (t ∉ slots ∧ t ∉ E.map (·.1) ∧ H[t]? = some o ∧ m[t]? = some L) ∨ (∃ j oj, τ j = t ∧ (apE E H ++ Hn)[j]? = some oj ∧ o = oj.ren τ ∧ (m ++ nu)[j]? = some L) := fun t o L ht hL => by
    rw [apE_append] at ht
    have hzip : (slots.zip (Hn.map (·.ren τ))).map (·.1) = slots := by rw [List.map_fst_zip (by simp [hl])]
    by_cases hmem : t ∈ slots
    · obtain ⟨i, oi, h1, h2⟩ := setAll_mem slots Hn [] hl hmem
      have hLi : nu[i]? = some L := by
        have hil : i < nu.length := by rw [hnu, ← hl]; exact (List.getElem?_eq_some_iff.1 h1).1
        have := setAll_at slots nu m i t nu[i] hn h1 (List.getElem?_eq_getElem hil) (by rw [hml]; exact (hs t hmem).1)
        rw [hL] at this; injection this with this; rw [this]; exact List.getElem?_eq_getElem hil
      have key : ∀ (ss : List Nat) (os : List AO) (H0 : List AO) (i : Nat), ss.Nodup → ss[i]? = some t → os[i]? = some (oi.ren τ) → t < H0.length → (apE (ss.zip os) H0)[t]? = some (oi.ren τ) := by
        intro ss
        induction ss with
        | nil => intro os H0 i _ h; simp at h
        | cons s ss ih =>
          intro os H0 i hnd h1 h2 h3
          obtain ⟨n1, n2⟩ := List.nodup_cons.1 hnd
          cases os with
          | nil => simp at h2
          | cons o os =>
            rw [List.zip_cons_cons, apE_cons]
            cases i with
            | zero =>
              simp at h1 h2; subst h1; subst h2
              rw [apE_other _ _ (fun h => n1 ?_), List.getElem?_set_self h3]
              obtain ⟨p, hp, rfl⟩ := List.mem_map.1 h
              exact (List.of_mem_zip hp).1
            | succ i =>
              simp at h1 h2
              exact ih os _ i n2 h1 h2 (by simpa using h3)
      have hk := key slots (Hn.map (·.ren τ)) (apE (E.map fun p => (p.1, p.2.ren τ)) H) i hn h1 (by simp [h2]) (by rw [apE_len]; exact (hs t hmem).1)
      rw [hk] at ht; injection ht with ht; subst ht
      refine .inr ⟨H.length + i, oi, ?_, ?_, rfl, ?_⟩
      · rw [← hτ, mv_new, List.getD_eq_getElem?_getD, h1]; rfl
      · rw [List.getElem?_append_right (by rw [apE_len]; omega), apE_len, Nat.add_sub_cancel_left]; exact h2
      · rw [List.getElem?_append_right (by omega), ← hml, Nat.add_sub_cancel_left]; exact hLi
    · rw [apE_other _ _ (by rw [hzip]; exact hmem)] at ht
      rw [setAll_other slots nu m hmem] at hL
      have htl : t < H.length := by rw [← hml]; exact (List.getElem?_eq_some_iff.1 hL).1
      by_cases hE : t ∈ E.map (·.1)
      · have e : ∀ (E : List (Nat × AO)) (H1 H2 : List AO), H1.length = H2.length → t < H1.length → (t ∉ E.map (·.1) → ∃ oj, H2[t]? = some oj ∧ H1[t]? = some (oj.ren τ)) → ∃ oj, (apE E H2)[t]? = some oj ∧ (apE (E.map fun p => (p.1, p.2.ren τ)) H1)[t]? = some (oj.ren τ) := by
          intro E
          induction E with
          | nil => intro H1 H2 _ _ h; exact h (by simp)
          | cons p E ih =>
            intro H1 H2 hl2 hlt h
            rw [List.map_cons, apE_cons, apE_cons]
            refine ih _ _ (by simp [hl2]) (by simpa using hlt) fun hn2 => ?_
            by_cases hp : p.1 = t
            · subst hp
              exact ⟨p.2, by rw [List.getElem?_set_self (by omega)], by rw [List.getElem?_set_self (by simpa using hlt)]⟩
            · obtain ⟨oj, q1, q2⟩ := h (by simp only [List.map_cons, List.mem_cons, not_or]; exact ⟨fun e => hp e.symm, hn2⟩)
              exact ⟨oj, by rw [List.getElem?_set_ne hp]; exact q1, by rw [List.getElem?_set_ne hp]; exact q2⟩
        obtain ⟨oj, q1, q2⟩ := e E H H rfl htl (fun h => (h hE).elim)
        rw [q2] at ht; injection ht with ht; subst ht
        exact .inr ⟨t, oj, by rw [← hτ, mv_lt htl], by rw [List.getElem?_append_left (by rw [apE_len]; exact htl)]; exact q1, rfl, by rw [List.getElem?_append_left (by omega)]; exact hL⟩
      · refine .inl ⟨hmem, hE, ?_, hL⟩
        rw [apE_other _ _ (by rw [List.map_map]; exact hE)] at ht
        exact ht
  have ownE : ∀ b, Own (apE (E.map (fun p => (p.1, p.2.ren τ)) ++ slots.zip (Hn.map (·.ren τ))) H) (setAll m slots nu) b → Own (apE E H ++ Hn) (m ++ nu) b := fun b ⟨t, o, L, h1, h2, h3, h4, h5⟩ => by
    rcases cls t o L h1 h3 with ⟨q1, q2, q3, q4⟩ | ⟨j, oj, q1, q2, rfl, q4⟩
    · have htl : t < H.length := (List.getElem?_eq_some_iff.1 q3).1
      exact ⟨t, o, L, by rw [List.getElem?_append_left (by rw [apE_len]; exact htl), apE_other _ _ q2]; exact q3, h2, by rw [List.getElem?_append_left (by omega)]; exact q4, h4, h5⟩
    · exact ⟨j, oj, L, q2, by rw [← ren_alive τ]; exact h2, q4, h4, h5⟩
  refine ⟨⟨by rw [setAll_len, apE_len, hml], fun t o L h1 h2 => ?_, fun i j oi oj Li Lj hij hi hj ai aj mi mj ci cj => ?_, fun b hb hO => hr'.imm b hb (ownE b hO), hr'.ilt, hr'.gl⟩, le1, le2, ⟨hx.os, hx.tape, hx.output, hx.size, hx.blk, hx.imm, fun b hb => hx.ow b (ownE b hb), hx.inew⟩⟩
  · rcases cls t o L h1 h2 with ⟨q1, q2, q3, q4⟩ | ⟨j, oj, q1, q2, rfl, q4⟩
    · have htl : t < H.length := (List.getElem?_eq_some_iff.1 q3).1
      have h5 := hr'.ob t o L (by rw [List.getElem?_append_left (by rw [apE_len]; exact htl), apE_other _ _ q2]; exact q3) (by rw [List.getElem?_append_left (by omega)]; exact q4)
      have h6 := OR.ren le1 h5
      rwa [OR.bel (τ := τ) (fun j hj => by rw [← hτ, mv_lt (by omega)]) (hr.ob t o L q3 q4)] at h6
    · exact OR.ren le1 (hr'.ob j oj L q2 q4)
  · have back : ∀ (t : Nat) o L, (apE (E.map (fun p => (p.1, p.2.ren τ)) ++ slots.zip (Hn.map (·.ren τ))) H)[t]? = some o → (setAll m slots nu)[t]? = some L → o.alive = true → ∃ j oj, τ j = t ∧ (apE E H ++ Hn)[j]? = some oj ∧ oj.alive = true ∧ (m ++ nu)[j]? = some L := fun t o L h1 h3 h2 => by
      rcases cls t o L h1 h3 with ⟨q1, q2, q3, q4⟩ | ⟨j, oj, q1, q2, rfl, q4⟩
      · have htl : t < H.length := (List.getElem?_eq_some_iff.1 q3).1
        exact ⟨t, o, by rw [← hτ, mv_lt htl], by rw [List.getElem?_append_left (by rw [apE_len]; exact htl), apE_other _ _ q2]; exact q3, h2, by rw [List.getElem?_append_left (by omega)]; exact q4⟩
      · exact ⟨j, oj, q1, q2, by rw [← ren_alive τ]; exact h2, q4⟩
    obtain ⟨p, op, p1, p2, p3, p4⟩ := back i oi Li hi mi ai
    obtain ⟨q, oq, q1, q2, q3, q4⟩ := back j oj Lj hj mj aj
    exact hr'.inj p q op oq Li Lj (fun e => hij (by rw [← p1, ← q1, e])) p2 q2 p3 q3 p4 q4 ci cj
end
theorem draw_any {P : Program} {ops : Array Oper} {id : Nat} {Q : Exit → Act → World → Prop} {a : Act} {w : World} (hm : P.follows .mixedOrders = true) (hw1 : ∀ (i : Nat) o, ops[i]? = some o → ∀ j ∈ waits o, j < i)
    (S : (Nat → Bool) → Act → World → Prop) (h0 : S (fun _ => false) a { w with drawn := w.drawn + 1 })
    (step : ∀ (D : Nat → Bool) (a' : Act) (w' : World) (i : Nat) (o : Oper), ops[i]? = some o → D i = false → (∀ j ∈ waits o, D j = true) → (∀ i, D i = true → ∀ o, ops[i]? = some o → ∀ j ∈ waits o, D j = true) → S D a' w' → wpOp P ops Q i (S (Dset D i)) a' w')
    (done : ∀ (D : Nat → Bool) (a' : Act) (w' : World), (∀ i, i < ops.size → D i = true) → S D a' w' → Q .normal a' w') : WPA P (.region id ops true) Q a w := by
  refine wp_region_any hm ?_
  have key : ∀ (fuel : Nat) (listed : Array Bool) (D : Nat → Bool) (a' : Act) (w' : World), listed.size = ops.size → (∀ i, D i = listed.getD i false) → (∀ i, D i = true → ∀ o, ops[i]? = some o → ∀ j ∈ waits o, D j = true) →
      (List.range ops.size).countP (fun i => !D i) = fuel → S D a' w' → wpAny P .any ops Q fuel listed a' w' := by
    intro fuel
    induction fuel with
    | zero =>
      intro listed D a' w' hsz hD hcl hcnt hS
      have hall : ∀ i, i < ops.size → D i = true := fun i hi => by
        have := List.countP_eq_zero.1 hcnt i (List.mem_range.2 hi)
        simpa using this
      refine ⟨?_, done D a' w' hall hS⟩
      rw [List.eq_nil_iff_forall_not_mem]
      intro i hi
      obtain ⟨h1, o, h2, h3⟩ := mem_ready.1 hi
      have hlt : i < ops.size := (Array.getElem?_eq_some_iff.1 h2).1
      have := hall i hlt
      rw [hD] at this
      have hl : i < listed.size := by omega
      simp [hl] at h1 this
      rw [this] at h1; cases h1
    | succ fuel ih =>
      intro listed D a' w' hsz hD hcl hcnt hS
      refine ⟨fun hnil => ?_, fun i hi => ?_⟩
      · exfalso
        have hex : ∃ i, i < ops.size ∧ D i = false := by
          have hpos : 0 < (List.range ops.size).countP (fun i => !D i) := by omega
          obtain ⟨i, h1, h2⟩ := List.countP_pos_iff.1 hpos
          exact ⟨i, List.mem_range.1 h1, by simpa using h2⟩
        obtain ⟨i, ⟨hi1, hi2⟩, hmin⟩ := exists_least hex
        have hi : i ∈ Region.ready .any ops listed := by
          rw [mem_ready]
          have hl : i < listed.size := by omega
          refine ⟨?_, ops[i], by simp [hi1], fun e he hb => ?_⟩
          · have := hD i; rw [hi2] at this; simp [hl] at this ⊢; exact this
          · have hj : e.on ∈ waits ops[i] := by
              unfold waits
              exact List.mem_filterMap.2 ⟨e, by simpa using he, by simp [hb]⟩
            have hlt := hw1 i ops[i] (by simp [hi1]) _ hj
            have : D e.on = true := by
              cases hh : D e.on with
              | true => rfl
              | false => have := hmin e.on ⟨by omega, hh⟩; omega
            rw [hD] at this; exact this
        rw [hnil] at hi; cases hi
      · obtain ⟨hun, o, ho, hall⟩ := mem_ready.1 hi
        have hlt : i < ops.size := (Array.getElem?_eq_some_iff.1 ho).1
        have hl : i < listed.size := by omega
        have hDi : D i = false := by rw [hD]; simp [hl] at hun ⊢; exact hun
        have hwt : ∀ j ∈ waits o, D j = true := fun j hj => by
          unfold waits at hj
          obtain ⟨e, he, hb⟩ := List.mem_filterMap.1 hj
          split at hb
          · rename_i hbb
            injection hb with hb; subst hb
            rw [hD]; exact hall e (by simpa using he) hbb
          · cases hb
        refine wpOp_mono ?_ (step D a' w' i o ho hDi hwt hcl hS)
        intro a2 w2 hS2
        refine ih (listed.setIfInBounds i true) (Dset D i) a2 w2 (by simp [hsz]) (fun j => ?_) (fun j hj p hp k hk => ?_) ?_ hS2
        · by_cases hji : j = i
          · subst hji; simp [Dset, hl]
          · rw [getD_set_ne false (Ne.symm hji)]; simp [Dset, hji, hD]
        · by_cases hji : j = i
          · subst hji
            rw [ho] at hp; injection hp with hp; subst hp
            have := hwt k hk
            unfold Dset
            split
            · rfl
            · exact this
          · have h1 : D j = true := by simpa [Dset, hji] using hj
            have := hcl j h1 p hp k hk
            unfold Dset
            split
            · rfl
            · exact this
        · have := count_set D i (List.range ops.size) List.nodup_range (List.mem_range.2 hlt) hDi
          omega
  exact key ops.size (Array.replicate ops.size false) (fun _ => false) a _ (by simp) (fun i => by by_cases hi : i < ops.size <;> simp [hi]) (fun i h => by cases h) (by simp) h0
theorem gof_look {ops : Array Oper} (hlex : lexOK ops.toList = true) {vs g : List AV} (hvl : vs.length = ops.size) {D : Nat → Bool} {i : Nat} {o : Oper} (ho : ops[i]? = some o) (hDi : D i = false) (hwt : ∀ j ∈ waits o, D j = true)
    (hcl : ∀ i, D i = true → ∀ o, ops[i]? = some o → ∀ j ∈ waits o, D j = true) : ∀ t ∈ o.looksAt ops, (gof g ops.toList vs 0 (fun j => decide (j < i)))[t]? = (gof g ops.toList vs 0 D)[t]? := fun t ht => by
  obtain ⟨hw1, hw2⟩ := lexOK_spec hlex
  have hot : ops.toList[i]? = some o := by simpa using ho
  by_cases hwr : ∃ (j : Nat) (p : Oper), ops.toList[j]? = some p ∧ p.dst = some t
  · obtain ⟨j, p, hj, hp⟩ := hwr
    have huniq : ∀ (k' : Nat) o', k' ≠ j → ops.toList[k']? = some o' → o'.dst ≠ some t := fun k' o' h1 h2 => (hw2 k' j o' p t h2 hj h1 hp).1
    obtain ⟨u, hu⟩ : ∃ u, vs[j]? = some u := by
      have : j < ops.size := by have := (List.getElem?_eq_some_iff.1 hj).1; simpa using this
      exact ⟨vs[j]'(by omega), List.getElem?_eq_getElem (by omega)⟩
    have hboth : D j = decide (j < i) := by
      by_cases hji : j = i
      · subst hji; rw [hDi]; simp
      · have h2 := (hw2 i j o p t hot hj (Ne.symm hji) hp).2 (by simpa using ht)
        by_cases hlt' : j < i
        · rw [hwt j (h2.1 hlt')]; simp [hlt']
        · have h3 := h2.2 (by omega)
          cases hh : D j with
          | false => simp [hlt']
          | true =>
            have := hcl j hh p (by simpa using hj) i h3
            rw [hDi] at this; cases this
    by_cases hlt' : j < i
    · rw [gof_some _ _ _ _ _ t j p u hj hu hp (by simp [hlt']) huniq, gof_some _ _ _ _ _ t j p u hj hu hp (by rw [Nat.zero_add, hboth]; simp [hlt']) huniq]
    · have hn : ∀ D' : Nat → Bool, D' j = false → (gof g ops.toList vs 0 D')[t]? = g[t]? := fun D' hD' => gof_none _ _ _ _ _ t fun k o' h1 h2 => by
        by_cases hk : k = j
        · subst hk; rw [Nat.zero_add]; exact hD'
        · exact (huniq k o' hk h1 h2).elim
      rw [hn _ (by simp [hlt']), hn D (by rw [hboth]; simp [hlt'])]
  · have hn : ∀ D' : Nat → Bool, (gof g ops.toList vs 0 D')[t]? = g[t]? := fun D' => gof_none _ _ _ _ _ t fun k o' h1 h2 => (hwr ⟨k, o', h1, h2⟩).elim
    rw [hn, hn]
theorem gof_put {ops : Array Oper} (hlex : lexOK ops.toList = true) {vs g : List AV} (hvl : vs.length = ops.size) {D : Nat → Bool} {i : Nat} {o : Oper} {v : AV} (ho : ops[i]? = some o) (hv : vs[i]? = some v) :
    put (gof g ops.toList vs 0 D) o.dst v = gof g ops.toList vs 0 (Dset D i) := by
  obtain ⟨hw1, hw2⟩ := lexOK_spec hlex
  have hot : ops.toList[i]? = some o := by simpa using ho
  apply List.ext_getElem?
  intro t
  rw [put_get, gof_len]
  by_cases hdt : o.dst = some t
  · rw [if_pos hdt, gof_some _ _ _ _ _ t i o v hot hv hdt (by simp [Dset]) fun k' o' h1 h2 => (hw2 k' i o' o t h2 hot h1 hdt).1]
  · rw [if_neg hdt]
    by_cases hwr : ∃ (j : Nat) (p : Oper), ops.toList[j]? = some p ∧ p.dst = some t
    · obtain ⟨j, p, hj, hp⟩ := hwr
      have hji : j ≠ i := fun e => by subst e; rw [hot] at hj; injection hj with hj; subst hj; exact hdt hp
      have huniq : ∀ (k' : Nat) o', k' ≠ j → ops.toList[k']? = some o' → o'.dst ≠ some t := fun k' o' h1 h2 => (hw2 k' j o' p t h2 hj h1 hp).1
      obtain ⟨u, hu⟩ : ∃ u, vs[j]? = some u := by
        have : j < ops.size := by have := (List.getElem?_eq_some_iff.1 hj).1; simpa using this
        exact ⟨vs[j]'(by omega), List.getElem?_eq_getElem (by omega)⟩
      have hDj : Dset D i j = D j := by simp [Dset, hji]
      cases hh : D j with
      | true => rw [gof_some _ _ _ _ _ t j p u hj hu hp (by rw [Nat.zero_add]; exact hh) huniq, gof_some _ _ _ _ _ t j p u hj hu hp (by rw [Nat.zero_add, hDj]; exact hh) huniq]
      | false =>
        have hn : ∀ D' : Nat → Bool, D' j = false → (gof g ops.toList vs 0 D')[t]? = g[t]? := fun D' hD' => gof_none _ _ _ _ _ t fun k o' h1 h2 => by
          by_cases hk : k = j
          · subst hk; rw [Nat.zero_add]; exact hD'
          · exact (huniq k o' hk h1 h2).elim
        rw [hn D hh, hn _ (by rw [hDj]; exact hh)]
    · have hn : ∀ D' : Nat → Bool, (gof g ops.toList vs 0 D')[t]? = g[t]? := fun D' => gof_none _ _ _ _ _ t fun k o' h1 h2 => (hwr ⟨k, o', h1, h2⟩).elim
      rw [hn, hn]
end Go.Abs
