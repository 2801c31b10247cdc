/- Part 14 of the texts that lead to repairNearestCard_holds. No condition. -/
import Derived.Test.YtcjckmnhlfbdlaaGreatDoorH13
set_option linter.all false
namespace Go.Abs
open Go
def nmax (a b : Nat) : Nat := match Nat.ble a b with
 | true => b
 | false => a
theorem nmax_le {a b k : Nat} (h : nmax a b ≤ k) : a ≤ k ∧ b ≤ k := by
 unfold nmax at h
 cases hb : Nat.ble a b
 ·rw [hb] at h
  have : ¬ a ≤ b := fun hh => by rw [← Nat.ble_eq, hb] at hh; cases hh
  dsimp only at h; omega
 ·rw [hb] at h
  have : a ≤ b := by rw [← Nat.ble_eq]; exact hb
  dsimp only at h; omega
mutual
def maxV : AV → Nat
 | .v _ | .em | .any | .nb => 0
 | .sl id _ _ | .pt id _ | .mp id => Nat.succ id
 | .im _ cs | .ip cs | .ag cs | .tu cs => maxVs cs
 | .fn _ a b => nmax (maxVs a) (maxVs b)
def maxVs : List AV → Nat
 | [] => 0
 | v :: vs => nmax (maxV v) (maxVs vs)
end
def maxO : AO → Nat
 | .cells _ cs | .ice _ cs | .mapv _ cs | .tc _ cs | .tf _ cs | .fx _ cs _ | .mi cs _ _ _ => maxVs cs
 | _ => 0
mutual
theorem okV_max {k : Nat} : ∀ v : AV, maxV v ≤ k → okV (fun j => Nat.blt j k) v = true
 | .v _, _ => by simp only [okV]
 | .em, _ => by simp only [okV]
 | .any, _ => by simp only [okV]
 | .nb, _ => by simp only [okV]
 | .sl _ _ _, h => by simp only [okV, Nat.blt_eq]; simp only [maxV] at h; omega
 | .pt _ _, h => by simp only [okV, Nat.blt_eq]; simp only [maxV] at h; omega
 | .mp _, h => by simp only [okV, Nat.blt_eq]; simp only [maxV] at h; omega
 | .im _ cs, h => by simp only [okV]; simp only [maxV] at h; exact okVs_max cs h
 | .ip cs, h => by simp only [okV]; simp only [maxV] at h; exact okVs_max cs h
 | .ag cs, h => by simp only [okV]; simp only [maxV] at h; exact okVs_max cs h
 | .tu cs, h => by simp only [okV]; simp only [maxV] at h; exact okVs_max cs h
 | .fn _ a b, h => by
  simp only [okV, Bool.and_eq_true]; simp only [maxV] at h
  exact ⟨okVs_max a (nmax_le h).1, okVs_max b (nmax_le h).2⟩
theorem okVs_max {k : Nat} : ∀ vs : List AV, maxVs vs ≤ k → okVs (fun j => Nat.blt j k) vs = true
 | [], _ => by simp only [okVs]
 | v :: vs, h => by
  simp only [okVs, Bool.and_eq_true]; simp only [maxVs] at h
  exact ⟨okV_max v (nmax_le h).1, okVs_max vs (nmax_le h).2⟩
end
theorem okO_max {k : Nat} (o : AO) (h : maxO o ≤ k) : okO (fun j => Nat.blt j k) o = true := by
 cases o with
 | cells sz cs => exact okVs_max cs h
 | ice sz cs => exact okVs_max cs h
 | mapv ks cs => exact okVs_max cs h
 | tc t cs => exact okVs_max cs h
 | tf t cs => exact okVs_max cs h
 | fx sz cs r => exact okVs_max cs h
 | mi cs s sn l => exact okVs_max cs h
 | _ => rfl
noncomputable def allLe (k : Nat) (l : List AO) : Bool := List.rec (motive := fun _ => Bool) true (fun o _ ih => match Nat.ble (maxO o) k with
 | true => ih
 | false => false) l
theorem allLe_spec {k : Nat} : ∀ {l : List AO}, allLe k l = true → ∀ o ∈ l, maxO o ≤ k
 | a :: l, h, o, hm => by
  have h : (match Nat.ble (maxO a) k with
   | true => allLe k l
   | false => false) = true := h
  cases hb : Nat.ble (maxO a) k
  ·rw [hb] at h; cases h
  ·rw [hb] at h
   rcases List.mem_cons.1 hm with rfl | hm
   ·rw [← Nat.ble_eq]; exact hb
   ·exact allLe_spec h o hm
noncomputable def dropL {α : Type} (l : List α) : Nat → List α := List.rec (motive := fun _ => Nat → List α) (fun _ => []) (fun a t ih i => Nat.rec (motive := fun _ => List α) (a :: t) (fun j _ => ih j) i) l
theorem dropL_eq {α : Type} : ∀ (l : List α) (i : Nat), dropL l i = l.drop i
 | [], i => by simp [dropL]
 | a :: l, 0 => rfl
 | a :: l, i + 1 => by
  have : dropL (a :: l) (i + 1) = dropL l i := rfl
  rw [this, dropL_eq l i]; simp
noncomputable def cDrop (k : Nat) (v : AV) (h : HP) (r : List AO) : OR2 := match allLe k r with
 | true => some (v, ⟨k, r⟩)
 | false => some (v, h)
noncomputable def cGc (k : Nat) (v : AV) (h : HP) : OR2 := match Nat.ble (Nat.add k 24) h.n with
 | false => some (v, h)
 | true => match Nat.ble (maxV v) k with
  | false => some (v, h)
  | true => cDrop k v h (dropL h.r (Nat.sub h.n k))
theorem VS_take {k : Nat} {v : AV} {H : List AO} (hk : k ≤ H.length) (hv : maxV v ≤ k) (ho : ∀ o ∈ H.take k, maxO o ≤ k) : VS k [v] H [v] (H.take k) := by
 have := VS_keep (k := k) (v := v) (H := H) (List.range k) (fun j => j) (fun j => Nat.blt j k) (fun j hj => by
  simp only [Nat.blt_eq] at hj
  rw [List.getElem?_range hj]) (fun j hj => by rw [List.getElem?_range hj]) List.nodup_range (fun j hj => by rw [List.mem_range] at hj; omega) (okV_max v hv) (fun j o hj h => by
  rw [List.mem_range] at hj
  refine okO_max o (ho o ?_)
  rw [List.mem_iff_getElem?]
  exact ⟨j, by rw [List.getElem?_take_of_lt hj]; exact h⟩)
 rw [ren_id] at this
 have e : (List.range k).map (fun j => (H.getD j .dead).ren (fun j => j)) = H.take k := by
  apply List.ext_getElem?
  intro i
  by_cases hi : i < k
  ·rw [List.getElem?_map, List.getElem?_range hi, List.getElem?_take_of_lt hi]
   simp only [Option.map_some, oren_id, List.getD]
   rw [List.getElem?_eq_getElem (by omega)]; rfl
  ·rw [List.getElem?_eq_none (by simp; omega), List.getElem?_eq_none (by simp; omega)]
 rwa [e] at this
theorem cGc_ok {k : Nat} {v : AV} {h : HP} (hk : h.ok) (hn : k ≤ h.n) {r : AV} {h' : HP} (e : cGc k v h = some (r, h')) : (h'.ok ∧ k ≤ h'.n) ∧ Fin k v h.L (fun v1 H1 => v1 = r ∧ H1 = h'.L) := by
 have keep : some (v, h) = some (r, h') → (h'.ok ∧ k ≤ h'.n) ∧ Fin k v h.L (fun v1 H1 => v1 = r ∧ H1 = h'.L) := fun q => by
  cases q; exact ⟨⟨hk, hn⟩, v, _, ⟨rfl, rfl⟩, VS.refl _ _ _⟩
 unfold cGc at e
 split at e
 ·exact keep e
 ·split at e
  ·exact keep e
  ·rename_i hv
   unfold cDrop at e
   split at e
   ·rename_i ha
    cases e
    have hl : (dropL h.r (Nat.sub h.n k)).length = k := by
     rw [dropL_eq, List.length_drop, hk]
     show h.n - (h.n - k) = k
     omega
    have hL : (⟨k, dropL h.r (Nat.sub h.n k)⟩ : HP).L = h.L.take k := by
     unfold HP.L
     rw [dropL_eq, List.take_reverse, hk]; rfl
    refine ⟨⟨hl, Nat.le_refl _⟩, _, _, ⟨rfl, rfl⟩, ?_⟩
    rw [hL]
    refine VS_take (by rw [HP.len hk]; exact hn) (by rw [← Nat.ble_eq]; exact hv) fun o ho => ?_
    rw [← hL] at ho
    exact allLe_spec ha o (by simpa [HP.L] using ho)
   ·exact keep e
noncomputable def resF (P : Program) (g : List AV) (h : HP) : ResultVar → Option AV
 | .tmp t => some (nthD (.v undef) g t)
 | .cell t ty => oLoad2 P ty (fCells h (nthD (.v undef) g t))
def consO : Option AV → Option (List AV) → Option (List AV)
 | some v, some vs => some (v :: vs)
 | _, _ => none
noncomputable def resFs (P : Program) (g : List AV) (h : HP) (l : List ResultVar) : Option (List AV) := List.rec (motive := fun _ => Option (List AV)) (some []) (fun r _ ih => consO (resF P g h r) ih) l
theorem resF_eq (P : Program) (g : List AV) {h : HP} (hk : h.ok) (r : ResultVar) : resF P g h r = resA P g h.L r := by
 cases r with
 | tmp t => simp only [resF, resA, nthD_eq]
 | cell t ty =>
  simp only [resF, resA, nthD_eq, fCells_eq hk]
  cases acells h.L (g.getD t (.v undef)) with
  | none => rfl
  | some x => simp only [oLoad2, fApart_eq]
theorem resFs_eq (P : Program) (g : List AV) {h : HP} (hk : h.ok) : ∀ l, resFs P g h l = resAll P g h.L l
 | [] => rfl
 | r :: rs => by
  have e : resFs P g h (r :: rs) = consO (resF P g h r) (resFs P g h rs) := rfl
  rw [e, resF_eq P g hk, resFs_eq P g hk rs, resAll]
  cases resA P g h.L r <;> cases resAll P g h.L rs <;> rfl
noncomputable def cRes (k : Nat) (h : HP) : Option (List AV) → OR2
 | some vs => cGc k (result vs) h
 | none => none
noncomputable def cEnd (P : Program) (k : Nat) (rs : List ResultVar) : KR → OR2
 | some (.normal, g, h) => cRes k h (resFs P g h rs)
 | some (.ret, g, h) => cRes k h (resFs P g h rs)
 | _ => none
def namesOK (P : Program) : Bool := P.funcs.toList.all fun f => !(f.name == "runtime.NumGoroutine")
end Go.Abs
namespace Go.Abs
open Go
noncomputable def memN (j : Nat) (l : List Nat) : Bool := List.rec (motive := fun _ => Bool) false (fun a _ ih => match Nat.beq a j with
 | true => true
 | false => ih) l
noncomputable def posN (l : List Nat) (j : Nat) : Nat := List.rec (motive := fun _ => Nat) 0 (fun a _ ih => match Nat.beq a j with
 | true => 0
 | false => Nat.succ ih) l
theorem memN_cons (j a : Nat) (l : List Nat) : memN j (a :: l) = (match Nat.beq a j with
 | true => true
 | false => memN j l) := rfl
theorem posN_cons (j a : Nat) (l : List Nat) : posN (a :: l) j = (match Nat.beq a j with
 | true => 0
 | false => Nat.succ (posN l j)) := rfl
theorem memN_spec {j : Nat} : ∀ {l : List Nat}, memN j l = true ↔ j ∈ l
 | [] => by simp [memN]
 | a :: l => by
  rw [memN_cons, List.mem_cons]
  cases h : Nat.beq a j
  ·have hne : a ≠ j := fun e => by subst e; simp at h
   simp only [memN_spec (l := l)]
   exact ⟨.inr, fun q => q.elim (fun e => (hne e.symm).elim) id⟩
  ·exact ⟨fun _ => .inl (Nat.eq_of_beq_eq_true h).symm, fun _ => rfl⟩
theorem posN_get {j : Nat} : ∀ {l : List Nat}, memN j l = true → l[posN l j]? = some j
 | [], h => by cases h
 | a :: l, h => by
  rw [memN_cons] at h
  rw [posN_cons]
  cases hb : Nat.beq a j
  ·rw [hb] at h
   have := posN_get (l := l) h
   simpa using this
  ·have := Nat.eq_of_beq_eq_true hb
   simp [this]
noncomputable def nodupN (l : List Nat) : Bool := List.rec (motive := fun _ => Bool) true (fun a t ih => match memN a t with
 | true => false
 | false => ih) l
theorem nodupN_spec : ∀ {l : List Nat}, nodupN l = true → l.Nodup
 | [], _ => List.nodup_nil
 | a :: l, h => by
  have h : (match memN a l with
   | true => false
   | false => nodupN l) = true := h
  cases hm : memN a l
  ·rw [hm] at h
   exact List.nodup_cons.2 ⟨fun q => (by rw [← memN_spec, hm] at q; cases q), nodupN_spec h⟩
  ·rw [hm] at h; cases h
noncomputable def ltAll (n : Nat) (l : List Nat) : Bool := List.rec (motive := fun _ => Bool) true (fun a _ ih => match Nat.blt a n with
 | true => ih
 | false => false) l
theorem ltAll_spec {n : Nat} : ∀ {l : List Nat}, ltAll n l = true → ∀ a ∈ l, a < n
 | b :: l, h, a, hm => by
  have h : (match Nat.blt b n with
   | true => ltAll n l
   | false => false) = true := h
  cases hb : Nat.blt b n
  ·rw [hb] at h; cases h
  ·rw [hb] at h
   rcases List.mem_cons.1 hm with rfl | hm
   ·rw [← Nat.blt_eq]; exact hb
   ·exact ltAll_spec h a hm
mutual
def idsV : AV → List Nat → List Nat
 | .v _, a | .em, a | .any, a | .nb, a => a
 | .sl id _ _, a | .pt id _, a | .mp id, a => id :: a
 | .im _ cs, a | .ip cs, a | .ag cs, a | .tu cs, a => idsVs cs a
 | .fn _ x y, a => idsVs x (idsVs y a)
def idsVs : List AV → List Nat → List Nat
 | [], a => a
 | v :: vs, a => idsV v (idsVs vs a)
end
def idsO : Option AO → List Nat → List Nat
 | some (.cells _ cs), a => idsVs cs a
 | some (.ice _ cs), a => idsVs cs a
 | some (.mapv _ cs), a => idsVs cs a
 | some (.tc _ cs), a => idsVs cs a
 | some (.tf _ cs), a => idsVs cs a
 | some (.fx _ cs _), a => idsVs cs a
 | some (.mi cs _ _ _), a => idsVs cs a
 | _, a => a
noncomputable def reachStep (h : HP) (ih : List Nat → List Nat → List Nat) (seen : List Nat) : List Nat → List Nat
 | [] => seen
 | j :: w => match memN j seen with
  | true => ih w seen
  | false => ih (idsO (rGet h j) w) (j :: seen)
noncomputable def reach (h : HP) (n : Nat) : List Nat → List Nat → List Nat := Nat.rec (motive := fun _ => List Nat → List Nat → List Nat) (fun _ seen => seen) (fun _ ih w seen => reachStep h ih seen w) n
noncomputable def objN (h : HP) (τ : Nat → Nat) (j : Nat) : AO := match rGet h j with
 | some o => o.ren τ
 | none => .dead
noncomputable def okAt (h : HP) (p : Nat → Bool) (j : Nat) : Bool := match rGet h j with
 | some o => okO p o
 | none => true
noncomputable def allAt (f : Nat → Bool) (l : List Nat) : Bool := List.rec (motive := fun _ => Bool) true (fun a _ ih => match f a with
 | true => ih
 | false => false) l
theorem allAt_spec {f : Nat → Bool} : ∀ {l : List Nat}, allAt f l = true → ∀ a ∈ l, f a = true
 | b :: l, h, a, hm => by
  have h : (match f b with
   | true => allAt f l
   | false => false) = true := h
  cases hb : f b
  ·rw [hb] at h; cases h
  ·rw [hb] at h
   rcases List.mem_cons.1 hm with rfl | hm
   ·exact hb
   ·exact allAt_spec h a hm
noncomputable def closedN (h : HP) (ids : List Nat) (vs : List AV) : Bool := match nodupN ids with
 | true => match ltAll h.n ids with
  | true => match okVs (fun j => memN j ids) vs with
   | true => allAt (okAt h fun j => memN j ids) ids
   | false => false
  | false => false
 | false => false
theorem closedN_spec {h : HP} {ids : List Nat} {vs : List AV} (e : closedN h ids vs = true) : ids.Nodup ∧ (∀ a ∈ ids, a < h.n) ∧ okVs (fun j => memN j ids) vs = true ∧ ∀ a ∈ ids, okAt h (fun j => memN j ids) a = true := by
 unfold closedN at e
 split at e
 ·rename_i h1
  split at e
  ·rename_i h2
   split at e
   ·rename_i h3
    exact ⟨nodupN_spec h1, ltAll_spec h2, h3, allAt_spec e⟩
   ·cases e
  ·cases e
 ·cases e
noncomputable def packH (h : HP) (ids : List Nat) : HP := ⟨ids.length, (ids.map (objN h (posN ids))).reverse⟩
theorem packH_ok (h : HP) (ids : List Nat) : (packH h ids).ok := by simp [HP.ok, packH]
theorem packH_L {h : HP} (hk : h.ok) (ids : List Nat) : (packH h ids).L = ids.map fun j => (h.L.getD j .dead).ren (posN ids) := by
 unfold HP.L packH
 rw [List.reverse_reverse]
 apply List.map_congr_left
 intro j _
 unfold objN
 rw [rGet_eq hk]
 show _ = ((h.r.reverse).getD j .dead).ren (posN ids)
 rw [List.getD_eq_getElem?_getD]
 show (match h.r.reverse[j]? with
  | some o => o.ren (posN ids)
  | none => .dead) = _
 cases h.r.reverse[j]? <;> rfl
noncomputable def oldIds (h : HP) (l : List Nat) : List Nat := List.rec (motive := fun _ => List Nat) [] (fun j _ ih => idsO (rGet h j) ih) l
noncomputable def newIds (k : Nat) (h : HP) (v : AV) : List Nat := (reach h 100000 (idsV v (oldIds h (List.range k))) (List.range k).reverse).reverse
noncomputable def firstN (k : Nat) (l : List Nat) : Bool := allAt (fun j => match nthO l j with
 | some i => Nat.beq i j
 | none => false) (List.range k)
theorem firstN_spec {k : Nat} {l : List Nat} (h : firstN k l = true) (j : Nat) (hj : j < k) : l[j]? = some j := by
 have := allAt_spec h j (List.mem_range.2 hj)
 rw [nthO_eq] at this
 cases hl : l[j]? with
 | none => rw [hl] at this; cases this
 | some i => rw [hl] at this; exact congrArg some (Nat.eq_of_beq_eq_true this)
mutual
def beqV : AV → AV → Bool
 | .v (.int k a), .v (.int k' b) => kindEq k k' && ieq a b
 | .v (.bool a), .v (.bool b) => a == b
 | .v (.string a), .v (.string b) => a.data.toList == b.data.toList
 | .v (.slice none 0 0), .v (.slice none 0 0) => true
 | .v (.pointer none), .v (.pointer none) => true
 | .v .nilFunc, .v .nilFunc => true
 | .sl a b c, .sl a' b' c' => Nat.beq a a' && Nat.beq b b' && Nat.beq c c'
 | .pt a b, .pt a' b' => Nat.beq a a' && Nat.beq b b'
 | .im n cs, .im n' cs' => Nat.beq n n' && beqVs cs cs'
 | .ip cs, .ip cs' => beqVs cs cs'
 | .ag cs, .ag cs' => beqVs cs cs'
 | .tu cs, .tu cs' => beqVs cs cs'
 | .fn (.func f) a b, .fn (.func f') a' b' => Nat.beq f f' && beqVs a a' && beqVs b b'
 | .mp a, .mp a' => Nat.beq a a'
 | .em, .em => true
 | .any, .any => true
 | .nb, .nb => true
 | _, _ => false
def beqVs : List AV → List AV → Bool
 | [], [] => true
 | a :: as, b :: bs => beqV a b && beqVs as bs
 | _, _ => false
end
def beqK : Value → Value → Bool
 | .agg a, .agg b => beqVs (a.toList.map .v) (b.toList.map .v)
 | a, b => beqV (.v a) (.v b)
def beqKs : List Value → List Value → Bool
 | [], [] => true
 | a :: as, b :: bs => beqK a b && beqKs as bs
 | _, _ => false
def beqO : AO → AO → Bool
 | .cells s a, .cells s' b => Nat.beq s s' && beqVs a b
 | .ice s a, .ice s' b => Nat.beq s s' && beqVs a b
 | .dead, .dead => true
 | .tc t a, .tc t' b => Nat.beq t t' && beqVs a b
 | .tf t a, .tf t' b => Nat.beq t t' && beqVs a b
 | .mapv k a, .mapv k' b => beqKs k k' && beqVs a b
 | _, _ => false
mutual
theorem beqV_spec : ∀ {a b : AV}, beqV a b = true → a = b := by
 intro a b h
 unfold beqV at h
 split at h
 ·rw [Bool.and_eq_true] at h
  rw [kindEq_spec h.1]
  have := h.2
  rw [ieq_eq, beq_iff_eq] at this
  rw [this]
 ·rw [beq_iff_eq.1 h]
 ·rename_i x y
  have e := beq_iff_eq.1 h
  obtain ⟨⟨x⟩⟩ := x
  obtain ⟨⟨y⟩⟩ := y
  dsimp only at e
  rw [e]
 ·rfl
 ·rfl
 ·rfl
 ·simp only [Bool.and_eq_true, Nat.beq_eq] at h
  rw [h.1.1, h.1.2, h.2]
 ·simp only [Bool.and_eq_true, Nat.beq_eq] at h
  rw [h.1, h.2]
 ·simp only [Bool.and_eq_true, Nat.beq_eq] at h
  rw [h.1, beqVs_spec h.2]
 ·rw [beqVs_spec h]
 ·rw [beqVs_spec h]
 ·rw [beqVs_spec h]
 ·simp only [Bool.and_eq_true, Nat.beq_eq] at h
  rw [h.1.1, beqVs_spec h.1.2, beqVs_spec h.2]
 ·simp only [Nat.beq_eq] at h
  rw [h]
 ·rfl
 ·rfl
 ·rfl
 ·cases h
theorem beqVs_spec : ∀ {a b : List AV}, beqVs a b = true → a = b
 | [], [], _ => rfl
 | a :: as, b :: bs, h => by
  simp only [beqVs, Bool.and_eq_true] at h
  rw [beqV_spec h.1, beqVs_spec h.2]
 | [], b :: bs, h => by simp [beqVs] at h
 | a :: as, [], h => by simp [beqVs] at h
end
theorem mapV_inj : ∀ {x y : List Value}, x.map AV.v = y.map AV.v → x = y
 | [], [], _ => rfl
 | [], b :: y, q => by simp at q
 | a :: x, [], q => by simp at q
 | a :: x, b :: y, q => by
  simp only [List.map_cons, List.cons.injEq, AV.v.injEq] at q
  rw [q.1, mapV_inj q.2]
theorem beqK_spec {a b : Value} (h : beqK a b = true) : a = b := by
 unfold beqK at h
 split at h
 ·have := mapV_inj (beqVs_spec h)
  rw [Array.toList_inj.1 this]
 ·have := beqV_spec h
  injection this
theorem beqKs_spec : ∀ {a b : List Value}, beqKs a b = true → a = b
 | [], [], _ => rfl
 | a :: as, b :: bs, h => by
  simp only [beqKs, Bool.and_eq_true] at h
  rw [beqK_spec h.1, beqKs_spec h.2]
 | [], b :: bs, h => by simp [beqKs] at h
 | a :: as, [], h => by simp [beqKs] at h
theorem beqO_spec {a b : AO} (h : beqO a b = true) : a = b := by
 unfold beqO at h
 split at h
 ·simp only [Bool.and_eq_true, Nat.beq_eq] at h
  rw [h.1, beqVs_spec h.2]
 ·simp only [Bool.and_eq_true, Nat.beq_eq] at h
  rw [h.1, beqVs_spec h.2]
 ·rfl
 ·simp only [Bool.and_eq_true, Nat.beq_eq] at h
  rw [h.1, beqVs_spec h.2]
 ·simp only [Bool.and_eq_true, Nat.beq_eq] at h
  rw [h.1, beqVs_spec h.2]
 ·rw [Bool.and_eq_true] at h
  rw [beqKs_spec h.1, beqVs_spec h.2]
 ·cases h
end Go.Abs
namespace Go.Abs
open Go
abbrev XR := Option (AV × AX)
noncomputable def dNew (h : HP) : OR2 → XR
 | some (v, h') => match rGet h' h.n with
  | some o => some (v, .new o)
  | none => some (v, .same)
 | none => none
noncomputable def dApp (h : HP) : List AV → OR2 → XR
 | .sl id _ _ :: _, some (v, h') => match rGet h' h.n with
  | some o => some (v, .app id o)
  | none => some (v, .same)
 | _, some (v, h') => match rGet h' h.n with
  | some o => some (v, .new o)
  | none => some (v, .same)
 | _, none => none
noncomputable def dSet : AV → OR2 → XR
 | .pt id _, some (v, h') => match rGet h' id with
  | some o => some (v, .set id o)
  | none => none
 | _, _ => none
def dSam : OR2 → XR
 | some (v, _) => some (v, .same)
 | none => none
noncomputable def dAX (P : Program) (g : List AV) (h : HP) (op : Op) : XR := match op with
 | .store _ a _ => dSet (evF g a) (fop P g h op)
 | .box _ _ | .alloc _ | .buildSlice _ _ _ | .makeSlice _ _ _ | .convert _ _ _ => dNew h (fop P g h op)
 | .call ⟨.builtin .append, args, _⟩ => dApp h (args.toList.map (evF g)) (fop P g h op)
 | .call ⟨.builtin .clear, _, _⟩ => none
 | _ => dSam (fop P g h op)
theorem dAX_ok {P : Program} {g : List AV} {h : HP} (hk : h.ok) {op : Op} {r : AV × AX} (e : dAX P g h op = some r) : aopX P g h.L op = some r := by
 have hf : ∀ {v h'}, fop P g h op = some (v, h') → aop P g h.L op = some (v, h'.L) ∧ h'.ok ∧ h.n ≤ h'.n := fun q => fop_ok hk op q
 have new : ∀ {x : OR2}, x = fop P g h op → dNew h x = some r → newX h.L (aop P g h.L op) = some r := fun {x} hx q => by
  cases x with
  | none => cases q
  | some vh =>
   obtain ⟨v, h'⟩ := vh
   obtain ⟨q1, q2, q3⟩ := hf hx.symm
   rw [q1]
   simp only [newX, HP.len hk, ← rGet_eq q2]
   exact q
 have sam : ∀ {x : OR2}, x = fop P g h op → dSam x = some r → samX (aop P g h.L op) = some r := fun {x} hx q => by
  cases x with
  | none => cases q
  | some vh =>
   obtain ⟨v, h'⟩ := vh
   rw [(hf hx.symm).1]
   exact q
 unfold dAX at e
 unfold aopX
 split at e
 ·
  rename_i t a x
  generalize hx : fop P g h (.store t a x) = o at e
  rw [evF_eq] at e
  cases o with
  | none => generalize ev g a = y at e; cases y <;> cases e
  | some vh =>
   obtain ⟨v, h'⟩ := vh
   obtain ⟨q1, q2, q3⟩ := hf hx
   dsimp only
   rw [q1]
   generalize ev g a = y at *
   cases y <;> first | (cases e; done) | skip
   rename_i id off
   simp only [dSet, rGet_eq q2] at e
   simp only [setX]
   cases hh : h'.L[id]? with
   | none => rw [hh] at e; cases e
   | some o => rw [hh] at e; cases e; rfl
 ·exact new rfl e
 ·exact new rfl e
 ·exact new rfl e
 ·exact new rfl e
 ·exact new rfl e
 ·
  rename_i args ats
  generalize hx : fop P g h (.call ⟨.builtin .append, args, ats⟩) = o at e
  rw [evF_fun] at e
  dsimp only
  cases o with
  | none => generalize args.toList.map (ev g) = as at e; cases as with
   | nil => cases e
   | cons y ys => cases y <;> cases e
  | some vh =>
   obtain ⟨v, h'⟩ := vh
   obtain ⟨q1, q2, q3⟩ := hf hx
   rw [q1]
   generalize args.toList.map (ev g) = as at *
   cases as with
   | nil => simp only [dApp, rGet_eq q2] at e; simp only [appX, HP.len hk]; exact e
   | cons y ys => cases y <;> (simp only [dApp, rGet_eq q2] at e; simp only [appX, HP.len hk]; exact e)
 ·cases e
 ·rename_i h1 h2 h3 h4 h5 h6 h7 h8
  split <;> first
   | exact sam rfl e
   | (exfalso; first | exact h1 _ _ _ rfl | exact h2 _ _ rfl | exact h3 _ rfl | exact h4 _ _ _ rfl | exact h5 _ _ _ rfl | exact h6 _ _ _ rfl | exact h7 _ _ rfl | exact h8 _ _ rfl)
noncomputable def dRes (h : HP) (N s : Nat) (F : List Nat) : XR → Option (AV × HP × Fo)
 | some (v, .same) => some (v, h, ⟨F, [], []⟩)
 | some (v, .set id o) => match Nat.blt id h.n with
  | true => some (v, rSet h id o, ⟨F, [(id, o)], []⟩)
  | false => none
 | some (v, .new o) => match rGet h s with
  | some .dead => some (v.ren (mv N [s]), rSet h s (o.ren (mv N [s])), ⟨s :: F, [(s, o.ren (mv N [s]))], [s]⟩)
  | _ => none
 | some (v, .app id o) => match rGet h s, Nat.beq id s, Nat.blt id h.n with
  | some .dead, false, true => some (v.ren (mv N [s]), rSet (rSet h id .dead) s (o.ren (mv N [s])), ⟨s :: F, [(id, .dead), (s, o.ren (mv N [s]))], [s]⟩)
  | _, _, _ => none
 | none => none
noncomputable def rSets (h : HP) (E : List (Nat × AO)) : HP := E.foldl (fun h p => rSet h p.1 p.2) h
theorem rSets_ok : ∀ (E : List (Nat × AO)) {h : HP}, h.ok → (∀ p ∈ E, p.1 < h.n) → (rSets h E).ok ∧ (rSets h E).n = h.n ∧ (rSets h E).L = apE E h.L
 | [], h, hk, _ => ⟨hk, rfl, rfl⟩
 | p :: E, h, hk, hl => by
  obtain ⟨h1, h2, h3⟩ := rSets_ok E (h := rSet h p.1 p.2) (rSet_ok hk _ _) (fun q hq => hl q (List.mem_cons_of_mem _ hq))
  refine ⟨h1, h2, ?_⟩
  show (rSets (rSet h p.1 p.2) E).L = _
  rw [h3, apE_cons, rSet_eq hk (hl p (List.mem_cons_self ..))]
section
variable {P : Program} {n k : Nat}
theorem AFn.post {args : List AV} {Hi Hr Hr2 : List AO} {r r2 : AV} (h : AFn P n k args Hi (fun v H => v = r ∧ H = Hr)) (hv : VS k [r] Hr [r2] Hr2) : AFn P n k args Hi (fun v H => v = r2 ∧ H = Hr2) := fun I m w xs h1 h2 =>
 (h I m w xs h1 h2).mono fun v w' ⟨r', Ho, I', m', ⟨e1, e2⟩, k1, k2, k3, k4⟩ => by
  subst e1; subst e2
  obtain ⟨I2, m2, q1, q2, q3, q4, q5, q6⟩ := hv I' m' w' [v] k2 (by simp only [VRs]; exact ⟨_, _, rfl, k1, rfl⟩)
  simp only [VRs] at q2
  obtain ⟨y, zs, e, q2, _⟩ := q2
  obtain ⟨rfl, rfl⟩ := List.cons.inj e
  exact ⟨r2, Hr2, I2, m2, ⟨rfl, rfl⟩, q2, q1, k3.trans (VS.ex q3 q4 q5), k4.trans q6⟩
theorem AFn.of_ACall {args : List AV} {H : List AO} {R : AV → List AO → Prop} (h : ACall P n args H R) : AFn P n k args H R := fun I m w xs h1 h2 =>
 (h I m w xs h1 h2).mono fun v w' ⟨r, Ho, I', m', k1, k2, k3, k4⟩ => ⟨r, Ho, I', m', k1, k2, k3, k4.ex, Kp.pre k4.pre⟩
end
section
variable {H : List AO} {σ : List Src} {F : Nat → Prop} {p : Nat → Bool} {τ : Nat → Nat}
theorem Sv_on (hp : ∀ j, p j = true → σ[τ j]? = some (.old j)) {v : AV} (hv : okV p v = true) : Sv H σ F v (v.ren τ) := ⟨fun h => by rw [ren_one]; exact h, fun I m w y hr k => by
 have := VR.on (I := I) (w := w) (fun j L hj hL => sub_lk (hp j hj) hL) v y hv k
 have := VR.mono (I' := Frz F I H m) (nu := []) (w' := w) (fun _ hb => Frz.imp hb) (fun _ _ => rfl) _ y this
 simpa using this⟩
theorem Svs_on (hp : ∀ j, p j = true → σ[τ j]? = some (.old j)) : ∀ {vs : List AV}, okVs p vs = true → Svs H σ F vs (rens τ vs)
 | [], _ => by simp only [rens, Svs]
 | v :: vs, h => by
  simp only [okVs, Bool.and_eq_true] at h
  simp only [rens, Svs]
  exact ⟨Sv_on hp h.1, Svs_on hp h.2⟩
theorem Ob_on (hp : ∀ j, p j = true → σ[τ j]? = some (.old j)) {id : Nat} {o : AO} (ho : H[id]? = some o) (h : okO p o = true) : Ob H σ F (.old id) (o.ren τ) := by
 cases o with
 | cells sz cs => exact ⟨cs, ho, Svs_on hp h⟩
 | ice sz cs => exact ⟨cs, .inr ho, Svs_on hp h⟩
 | raw o => exact ho
 | mapv ks vs => exact ⟨vs, ho, Svs_on hp h⟩
 | tc t cs => exact ⟨cs, ho, Svs_on hp h⟩
 | tf t cs => exact ⟨cs, ho, Svs_on hp h⟩
 | fx sz cs r => exact ⟨cs, ho, Svs_on hp h⟩
 | mi cs s sn l => exact ⟨cs, ho, Svs_on hp h⟩
 | dead => trivial
theorem Obs_on (hp : ∀ j, p j = true → σ[τ j]? = some (.old j)) : ∀ {l : List Nat}, (∀ j ∈ l, ∃ o, H[j]? = some o ∧ okO p o = true) → Obs H σ F (l.map .old) (l.map fun j => (H.getD j .dead).ren τ)
 | [], _ => by simp only [List.map_nil, Obs]
 | j :: l, h => by
  obtain ⟨o, h1, h2⟩ := h j (List.mem_cons_self ..)
  simp only [List.map_cons, Obs]
  refine ⟨?_, Obs_on hp fun i hi => h i (List.mem_cons_of_mem _ hi)⟩
  have : H.getD j .dead = o := by simp [List.getD, h1]
  rw [this]
  exact Ob_on hp h1 h2
end
theorem LCl_run {P : Program} {n : FuncId} {args : List AV} {h : HP} (hk : h.ok) {ids : List Nat} {r : AV} {Hr : List AO} (hcl : closedN h ids args = true)
 (hc : AFn P n ids.length (rens (posN ids) args) (packH h ids).L (fun v H => v = r ∧ H = Hr)) :
 LCl P h.n n args h.L ids (r.ren (tau ids ids.length h.n)) (updE (tau ids ids.length h.n) ids.length ids Hr) ((Hr.drop ids.length).map (·.ren (tau ids ids.length h.n))) := by
 obtain ⟨c1, c2, c3, c4⟩ := closedN_spec hcl
 have hp : ∀ j, memN j ids = true → (ids.map Src.old)[posN ids j]? = some (.old j) := fun j hj => by rw [List.getElem?_map, posN_get hj]; rfl
 refine LCl_fn (F := ids) (H := h.L) hc [] ids c1 c2 (Nat.le_refl _) fun H2 hl hF => ⟨trivial, ?_, Svs_on hp c3⟩
 rw [apE_nil, packH_L hk]
 have key : ∀ j ∈ ids, ∃ o, H2[j]? = some o ∧ okO (fun j => memN j ids) o = true := fun j hj => by
  have hlt := c2 j hj
  have hok := c4 j hj
  unfold okAt at hok
  rw [rGet_eq hk] at hok
  rw [hF j hj]
  have hlen := HP.len hk
  refine ⟨h.L[j], List.getElem?_eq_getElem (by omega), ?_⟩
  rw [List.getElem?_eq_getElem (by omega)] at hok
  exact hok
 have e : (ids.map fun j => (h.L.getD j .dead).ren (posN ids)) = ids.map fun j => (H2.getD j .dead).ren (posN ids) := List.map_congr_left fun j hj => by
  have := hF j hj
  simp only [List.getD, this]
 rw [e]
 exact Obs_on hp key
end Go.Abs
namespace Go.Abs
open Go
noncomputable def sameAt (h : HP) (p : Nat × AO) : Bool := match rGet h p.1 with
 | some o => beqO o p.2
 | none => false
noncomputable def turned (h : HP) (E : List (Nat × AO)) : List (Nat × AO) := List.rec (motive := fun _ => List (Nat × AO)) [] (fun p _ ih => match sameAt h p with
 | true => ih
 | false => p :: ih) E
theorem turned_cons (h : HP) (p : Nat × AO) (E : List (Nat × AO)) : turned h (p :: E) = (match sameAt h p with
 | true => turned h E
 | false => p :: turned h E) := rfl
theorem turned_sub (h : HP) : ∀ (E : List (Nat × AO)), ∀ p ∈ turned h E, p ∈ E
 | q :: E, p, hp => by
  rw [turned_cons] at hp
  split at hp
  ·exact List.mem_cons_of_mem _ (turned_sub h E p hp)
  ·rcases List.mem_cons.1 hp with rfl | hp
   ·exact List.mem_cons_self ..
   ·exact List.mem_cons_of_mem _ (turned_sub h E p hp)
theorem turned_eq {h : HP} (hk : h.ok) : ∀ (E : List (Nat × AO)) (H2 : List AO), (E.map (·.1)).Nodup → (∀ p ∈ E, H2[p.1]? = h.L[p.1]?) → apE (turned h E) H2 = apE E H2
 | [], H2, _, _ => rfl
 | q :: E, H2, hn, hs => by
  simp only [List.map_cons, List.nodup_cons] at hn
  rw [turned_cons, apE_cons]
  cases hq : sameAt h q
  ·dsimp only
   rw [apE_cons]
   refine turned_eq hk E _ hn.2 fun p hp => ?_
   rw [List.getElem?_set_ne (fun e => hn.1 (by rw [e]; exact List.mem_map_of_mem hp))]
   exact hs p (List.mem_cons_of_mem _ hp)
  ·dsimp only
   have e : H2.set q.1 q.2 = H2 := by
    unfold sameAt at hq
    rw [rGet_eq hk] at hq
    have hs1 := hs q (List.mem_cons_self ..)
    cases hh : h.L[q.1]? with
    | none => rw [hh] at hq; cases hq
    | some o =>
     rw [hh] at hq hs1
     have := beqO_spec hq
     subst this
     apply List.ext_getElem?
     intro i
     rw [List.getElem?_set]
     split
     ·rename_i hi
      subst hi
      split
      ·rw [hs1]
      ·rw [List.getElem?_eq_none (by omega)]
     ·rfl
   rw [e]
   exact turned_eq hk E H2 hn.2 fun p hp => hs p (List.mem_cons_of_mem _ hp)
theorem updE_keys (τ : Nat → Nat) : ∀ (k : Nat) (ids : List Nat) (Ho : List AO), (updE τ k ids Ho).map (·.1) = ids
 | 0, [], Ho => by simp only [updE, List.map_nil]
 | k + 1, [], Ho => by simp only [updE, List.map_nil]
 | 0, id :: ids, Ho => by simp only [updE, List.map_cons, updE_keys τ 0 ids Ho]
 | k + 1, id :: ids, [] => by simp only [updE, List.map_cons, updE_keys τ k ids []]
 | k + 1, id :: ids, o :: Ho => by simp only [updE, List.map_cons, updE_keys τ k ids Ho]
theorem LCl.less {P : Program} {N : Nat} {n : FuncId} {args : List AV} {h : HP} (hk : h.ok) {F : List Nat} {v : AV} {E : List (Nat × AO)} {Hn : List AO} (hc : LCl P N n args h.L F v E Hn) (hn : (E.map (·.1)).Nodup) (hF : ∀ p ∈ E, p.1 ∈ F) : LCl P N n args h.L F v (turned h E) Hn := fun H2 hl hs => by
 rw [turned_eq hk E H2 hn fun p hp => hs _ (hF p hp)]
 exact hc H2 hl hs
noncomputable def dCall4 (h : HP) (s : Nat) (ids : List Nat) (v : AV) (E : List (Nat × AO)) (Hn : List AO) (slots : List Nat) : Option (AV × HP × Fo) :=
 match allAt (fun t => Nat.blt t h.n) slots with
 | true => match allAt (fun t => (match memN t (E.map (·.1)) with
  | true => false
  | false => true)) slots with
  | true => match allAt (fun t => Nat.blt t h.n) (E.map (·.1)) with
   | true => some (v.ren (mv h.n slots), rSets h (E.map (fun p => (p.1, p.2.ren (mv h.n slots))) ++ slots.zip (Hn.map (·.ren (mv h.n slots)))), ⟨slots ++ ids, E.map (fun p => (p.1, p.2.ren (mv h.n slots))) ++ slots.zip (Hn.map (·.ren (mv h.n slots))), slots⟩)
   | false => none
  | false => none
 | false => none
noncomputable def dCall3 (h : HP) (s : Nat) (ids : List Nat) (r : AV) (Hr : List AO) : Option (AV × HP × Fo) :=
 dCall4 h s ids (r.ren (tau ids ids.length h.n)) (turned h (updE (tau ids ids.length h.n) ids.length ids Hr)) ((Hr.drop ids.length).map (·.ren (tau ids ids.length h.n))) (List.range' s ((Hr.drop ids.length).map (·.ren (tau ids ids.length h.n))).length)
noncomputable def dCall2 (h : HP) (s : Nat) (ids : List Nat) (v : AV) (hr : HP) (keep : List Nat) : Option (AV × HP × Fo) :=
 match closedN hr keep [v] with
 | true => match firstN ids.length keep with
  | true => dCall3 h s ids (v.ren (posN keep)) (keep.map fun j => (hr.L.getD j .dead).ren (posN keep))
  | false => none
 | false => none
noncomputable def dCall1 (h : HP) (s : Nat) (ids : List Nat) : OR2 → Option (AV × HP × Fo)
 | some (v, hr) => dCall2 h s ids v hr (newIds ids.length hr v)
 | none => none
noncomputable def dCall0 (call : CT) (h : HP) (s : Nat) (n : FuncId) (args : List AV) (ids : List Nat) : Option (AV × HP × Fo) := match closedN h ids args with
 | true => dCall1 h s ids (call n (rens (posN ids) args) (packH h ids))
 | false => none
noncomputable def dCall (call : CT) (h : HP) (s : Nat) (n : FuncId) (args : List AV) : Option (AV × HP × Fo) := dCall0 call h s n args (reach h 100000 (idsVs args []) [])
noncomputable def dCallV (call : CT) (h : HP) (s : Nat) (args : List AV) : AV → Option (AV × HP × Fo)
 | .fn (.func n) first cap => dCall call h s n (first ++ args ++ cap)
 | _ => none
noncomputable def dExec (P : Program) (call : CT) (g : List AV) (h : HP) (s : Nat) (op : Op) : Option (AV × HP × Fo) := match op with
 | .call ⟨.value f, args, _⟩ => dCallV call h s (args.toList.map (evF g)) (evF g f)
 | op => dRes h h.n s (opIds g op) (dAX P g h op)
noncomputable def dGuard (g : List AV) : Option (Tmp × Bool) → Option Bool
 | none => some true
 | some (d, want) => gB want (nthO g d)
section
variable {P : Program} {call : CT} {k N : Nat} {An : List (List Nat)}
theorem dCall_ok (hc : CTok P call) {h : HP} (hk : h.ok) (hN : h.n = N) {n : FuncId} {args : List AV} {acc : List Fo} {v : AV} {h' : HP} {f : Fo} (e : dCall call h (slot k acc) n args = some (v, h', f)) {R : List LOp → List AV → List AO → List Fo → Prop} {os : List LOp} {dst : Option Tmp} {g : List AV}
 (hR : R os (put g dst v) h'.L (f :: acc)) : YCall P k N R os dst g h.L acc n args := by
 subst hN
 unfold dCall dCall0 at e
 generalize hids : reach h 100000 (idsVs args []) [] = ids at e
 split at e
 ·rename_i hcl
  cases hr : call n (rens (posN ids) args) (packH h ids) with
  | none => rw [hr] at e; cases e
  | some vh =>
   obtain ⟨v0, hr0⟩ := vh
   rw [hr] at e
   obtain ⟨⟨k1, l1⟩, a1⟩ := hc _ _ _ _ _ (packH_ok h ids) hr
   simp only [dCall1] at e
   generalize hkp : newIds ids.length hr0 v0 = keep at e
   unfold dCall2 at e
   split at e
   ·rename_i hcl2
    split at e
    ·rename_i hfirst
     obtain ⟨c1, c2, c3, c4⟩ := closedN_spec hcl2
     simp only [okVs, Bool.and_true] at c3
     have hA : AFn P n ids.length (rens (posN ids) args) (packH h ids).L (fun v H => v = v0.ren (posN keep) ∧ H = keep.map fun j => (hr0.L.getD j .dead).ren (posN keep)) :=
      (AFn.of_ACall a1).post (VS_keep keep (posN keep) (fun j => memN j keep) (fun j hj => posN_get hj) (firstN_spec hfirst) c1 (fun j hj => by rw [HP.len k1]; exact c2 j hj) c3 (fun j o hj ho => by
       have := c4 j hj
       unfold okAt at this
       rw [rGet_eq k1, ho] at this
       exact this))
     have hL := LCl_run hk hcl hA
     have hL2 := hL.less hk (by rw [updE_keys]; exact (closedN_spec hcl).1) (fun p hp => by
      have : p.1 ∈ (updE (tau ids ids.length h.n) ids.length ids (keep.map fun j => (hr0.L.getD j .dead).ren (posN keep))).map (·.1) := List.mem_map_of_mem hp
      rwa [updE_keys] at this)
     unfold dCall3 dCall4 at e
     split at e
     ·rename_i s1
      split at e
      ·rename_i s2
       split at e
       ·rename_i s3
        cases e
        unfold YCall
        refine ⟨_, _, _, _, hL2, fun s hs => ⟨?_, ?_⟩, ?_⟩
        ·have := allAt_spec s1 s hs
         rwa [Nat.blt_eq] at this
        ·have := allAt_spec s2 s hs
         intro q
         rw [memN_spec.2 q] at this
         cases this
        ·rw [(rSets_ok _ hk ?_).2.2] at hR
         ·exact hR
         ·intro p hp
          rcases List.mem_append.1 hp with hp | hp
          ·obtain ⟨q, hq, rfl⟩ := List.mem_map.1 hp
           have := allAt_spec s3 q.1 (List.mem_map_of_mem hq)
           rwa [Nat.blt_eq] at this
          ·have := allAt_spec s1 p.1 (List.of_mem_zip hp).1
           rwa [Nat.blt_eq] at this
       ·cases e
      ·cases e
     ·cases e
    ·cases e
   ·cases e
 ·cases e
theorem dGuard_eq (g : List AV) (d : Tmp) (want : Bool) : dGuard g (some (d, want)) = gB want g[d]? := by simp only [dGuard, nthO_eq]
theorem dRes_keep {h : HP} (hk : h.ok) {s : Nat} {F : List Nat} {x : XR} {v : AV} {h' : HP} {f : Fo} (e : dRes h h.n s F x = some (v, h', f)) : h'.ok ∧ h'.n = h.n := by
 unfold dRes at e
 split at e
 ·cases e; exact ⟨hk, rfl⟩
 ·split at e
  ·cases e; exact ⟨rSet_ok hk _ _, rfl⟩
  ·cases e
 ·split at e
  ·cases e; exact ⟨rSet_ok hk _ _, rfl⟩
  ·cases e
 ·split at e
  ·cases e; exact ⟨rSet_ok (rSet_ok hk _ _) _ _, rfl⟩
  ·cases e
 ·cases e
theorem dRes_ok {h : HP} (hk : h.ok) (hN : h.n = N) {F : List Nat} {x : XR} {acc : List Fo} {v : AV} {h' : HP} {f : Fo} (e : dRes h h.n (slot k acc) F x = some (v, h', f)) {Q : List AV → List AO → Prop} {R : List LOp → List AV → List AO → List Fo → Prop} {os : List LOp} {dst : Option Tmp} {g : List AV}
 (hR : R os (put g dst v) h'.L (f :: acc)) : YRes P k N An Q R os dst g h.L acc F x := by
 subst hN
 unfold dRes at e
 unfold YRes
 split at e
 ·cases e; exact hR
 ·split at e
  ·rename_i hb
   cases e
   rw [Nat.blt_eq] at hb
   rw [rSet_eq hk hb] at hR
   exact hR
  ·cases e
 ·split at e
  ·rename_i hg
   cases e
   have hlt := rGet_lt hg
   rw [rGet_eq hk] at hg
   rw [rSet_eq hk hlt] at hR
   exact ⟨hg, hR⟩
  ·cases e
 ·split at e
  ·rename_i hg hne hlt2
   cases e
   have hlt := rGet_lt hg
   rw [rGet_eq hk] at hg
   rw [Nat.blt_eq] at hlt2
   rw [rSet_eq (rSet_ok hk _ _) hlt, rSet_eq hk hlt2] at hR
   exact ⟨⟨hg, fun q => by rw [q] at hne; simp at hne⟩, hR⟩
  ·cases e
 ·cases e
theorem dCall_keep {h : HP} (hk : h.ok) {s : Nat} {n : FuncId} {args : List AV} {v : AV} {h' : HP} {f : Fo} (e : dCall call h s n args = some (v, h', f)) : h'.ok ∧ h'.n = h.n := by
 unfold dCall dCall0 at e
 split at e
 ·generalize call n _ _ = o at e
  cases o with
  | none => cases e
  | some vh =>
   simp only [dCall1, dCall2] at e
   split at e
   ·split at e
    ·unfold dCall3 dCall4 at e
     split at e
     ·rename_i s1
      split at e
      ·split at e
       ·rename_i s3
        cases e
        refine (fun this => ⟨this.1, this.2.1⟩) (rSets_ok _ hk ?_)
        intro p hp
        rcases List.mem_append.1 hp with hp | hp
        ·obtain ⟨q, hq, rfl⟩ := List.mem_map.1 hp
         have := allAt_spec s3 q.1 (List.mem_map_of_mem hq)
         rwa [Nat.blt_eq] at this
        ·have := allAt_spec s1 p.1 (List.of_mem_zip hp).1
         rwa [Nat.blt_eq] at this
       ·cases e
      ·cases e
     ·cases e
    ·cases e
   ·cases e
 ·cases e
theorem dExec_keep {g : List AV} {h : HP} (hk : h.ok) {s : Nat} {op : Op} {v : AV} {h' : HP} {f : Fo} (e : dExec P call g h s op = some (v, h', f)) : h'.ok ∧ h'.n = h.n := by
 unfold dExec at e
 split at e
 ·rename_i f args _
  generalize evF g f = x at e
  cases x <;> first | (cases e; done) | skip
  rename_i fn a b
  cases fn <;> first | (cases e; done) | skip
  exact dCall_keep hk e
 ·exact dRes_keep hk e
theorem dExec_ok (hc : CTok P call) {g : List AV} {h : HP} (hk : h.ok) (hN : h.n = N) {op : Op} {acc : List Fo} {v : AV} {h' : HP} {f : Fo} (e : dExec P call g h (slot k acc) op = some (v, h', f)) {Q : List AV → List AO → Prop} {R : List LOp → List AV → List AO → List Fo → Prop} {os : List LOp} {dst : Option Tmp}
 (hR : R os (put g dst v) h'.L (f :: acc)) : YDo P k N An Q R os dst g h.L acc op := by
 unfold dExec at e
 unfold YDo
 split at e
 ·rename_i f args ats
  dsimp only
  rw [evF_fun] at e
  generalize ev g f = x at *
  cases x <;> first | (cases e; done) | skip
  rename_i fn a b
  cases fn <;> first | (cases e; done) | skip
  simp only [YCallV]
  exact dCall_ok hc hk hN e hR
 ·rename_i h1
  cases hx : dAX P g h op with
  | none => rw [hx] at e; cases e
  | some r =>
   have ha := dAX_ok hk hx
   rw [hx] at e
   rw [← ha] at e
   split
   ·rename_i f args ats; exact (h1 _ _ _ rfl).elim
   ·exact dRes_ok hk hN e hR
end
def ancStep (acc : List (List Nat)) (o : Oper) : List (List Nat) := acc ++ [(waits o ++ (waits o).flatMap fun l => acc.getD l []).eraseDups]
def ancs (ops : List Oper) : List (List Nat) := ops.foldl ancStep []
def padH (s : Nat) (h : HP) : HP := ⟨h.n + s, List.replicate s .dead ++ h.r⟩
def newKind : Op → Nat
 | .box _ _ | .alloc _ | .buildSlice _ _ _ | .makeSlice _ _ _ | .convert _ _ _ => 1
 | .call ⟨.builtin .append, _, _⟩ => 1
 | .call ⟨.value _, _, _⟩ => 6
 | _ => 0
def newMany (ops : List Oper) : Nat := (ops.map fun o => newKind o.op).sum
theorem padH_ok {h : HP} (hk : h.ok) (s : Nat) : (padH s h).ok ∧ (padH s h).L = h.L ++ List.replicate s .dead := by
 unfold padH HP.ok HP.L at *
 refine ⟨by simp [hk]; omega, ?_⟩
 simp only [List.reverse_append, List.reverse_replicate]
end Go.Abs
