/- Part 18 of the texts that lead to repairNearestCard_holds. No condition. -/
import Derived.Test.YtcjckmnhlfbdlaaGreatDoorH17
set_option linter.all false
namespace Go.Abs
open Go
structure ME where
  f : FuncId
  a : List AV
  i : List AO
  r : AV
  o : List AO
def MEok (P : Program) (e : ME) : Prop := AFn P e.f e.i.length e.a e.i (fun v H => v = e.r ∧ H = e.o)
def beqOs : List AO → List AO → Bool
 | [], [] => true
 | a :: as, b :: bs => match beqO a b with
  | true => beqOs as bs
  | false => false
 | _, _ => false
theorem beqOs_spec : ∀ {a b : List AO}, beqOs a b = true → a = b
 | [], [], _ => rfl
 | a :: as, b :: bs, h => by
  unfold beqOs at h
  split at h
  ·rename_i hb; rw [beqO_spec hb, beqOs_spec h]
  ·cases h
 | [], b :: bs, h => by simp [beqOs] at h
 | a :: as, [], h => by simp [beqOs] at h
def okIf : Bool → Bool → Bool
 | true, b => b
 | false, _ => false
theorem okIf_spec {a b : Bool} (h : okIf a b = true) : a = true ∧ b = true := by cases a <;> first | exact ⟨rfl, h⟩ | cases h
noncomputable def mePack (e : ME) (hr : HP) (v : AV) (keep : List Nat) : Bool :=
 okIf (closedN hr keep [v]) (okIf (firstN e.i.length keep) (okIf (beqV (v.ren (posN keep)) e.r) (beqOs (keep.map (objN hr (posN keep))) e.o)))
noncomputable def meEnd (e : ME) : OR2 → Bool
 | some (v, hr) => mePack e hr v (newIds e.i.length hr v)
 | none => false
noncomputable def meRun (P : Program) (bwt : BWT) (call : CT) (dr : DT) (fuel : Nat) (e : ME) : Bool := meEnd e (eFn P bwt call dr fuel e.a ⟨e.i.length, e.i.reverse⟩ (P.funcs[e.f]?))
theorem objN_eq {h : HP} (hk : h.ok) (τ : Nat → Nat) (j : Nat) : objN h τ j = (h.L.getD j .dead).ren τ := by
 unfold objN
 rw [rGet_eq hk, List.getD_eq_getElem?_getD]
 cases h.L[j]? <;> rfl
theorem meRun_ok {P : Program} {bwt : BWT} {call : CT} {dr : DT} (hN : namesOK P = true) (hB : BWok P bwt) (hc : CTok P call) (hd : DTok P dr) {fuel : Nat} {e : ME} (h : meRun P bwt call dr fuel e = true) : MEok P e := by
 unfold meRun at h
 have hk0 : (⟨e.i.length, e.i.reverse⟩ : HP).ok := by simp [HP.ok]
 have hL0 : (⟨e.i.length, e.i.reverse⟩ : HP).L = e.i := by simp [HP.L]
 cases hx : eFn P bwt call dr fuel e.a ⟨e.i.length, e.i.reverse⟩ (P.funcs[e.f]?) with
 | none => rw [hx] at h; cases h
 | some vh =>
  obtain ⟨v0, hr0⟩ := vh
  rw [hx] at h
  obtain ⟨⟨k1, l1⟩, a1⟩ := eFn_ok hN hB hc hd hk0 hx
  rw [hL0] at a1
  simp only [meEnd] at h
  generalize newIds e.i.length hr0 v0 = keep at h
  unfold mePack at h
  obtain ⟨hcl2, h⟩ := okIf_spec h
  obtain ⟨hfirst, h⟩ := okIf_spec h
  obtain ⟨hr, ho⟩ := okIf_spec h
  obtain ⟨c1, c2, c3, c4⟩ := closedN_spec hcl2
  simp only [okVs, Bool.and_true] at c3
  have hA : AFn P e.f e.i.length e.a e.i (fun v H => v = v0.ren (posN keep) ∧ H = keep.map fun j => (hr0.L.getD j .dead).ren (posN keep)) :=
   a1.post (VS_keep keep (posN keep) (fun j => memN j keep) (fun j hj => posN_get hj) (firstN_spec hfirst) c1 (fun j hj => by rw [HP.len k1]; exact c2 j hj) c3 (fun j o hj ho => by
    have := c4 j hj
    unfold okAt at this
    rw [rGet_eq k1, ho] at this
    exact this))
  have e1 := beqV_spec hr
  have e2 := beqOs_spec ho
  have e3 : (keep.map fun j => (hr0.L.getD j .dead).ren (posN keep)) = e.o := by
   rw [← e2]
   exact List.map_congr_left fun j _ => (objN_eq k1 _ j).symm
  rw [e1, e3] at hA
  exact hA
noncomputable def mePut (h : HP) (ids : List Nat) (e : ME) : OR2 :=
 match allAt (fun t => Nat.blt t h.n) ids with
 | true => some (e.r.ren (tau ids ids.length h.n), List.foldl rNew (rSets h (turned h (updE (tau ids ids.length h.n) ids.length ids e.o))) ((e.o.drop ids.length).map (·.ren (tau ids ids.length h.n))))
 | false => none
noncomputable def meHit (args : List AV) (h : HP) (ids : List Nat) (e : ME) : Bool :=
 okIf (Nat.beq ids.length e.i.length) (okIf (beqVs (rens (posN ids) args) e.a) (beqOs (ids.map (objN h (posN ids))) e.i))
def meTry (h : HP) (put : OR2) (rest : OR2) : Bool → OR2
 | true => put
 | false => rest
noncomputable def meFind (args : List AV) (h : HP) (ids : List Nat) (es : List ME) : OR2 :=
 List.rec (motive := fun _ => OR2) none (fun e _ ih => meTry h (mePut h ids e) ih (meHit args h ids e)) es
noncomputable def meGo (args : List AV) (h : HP) (es : List ME) (ids : List Nat) : OR2 := match closedN h ids args with
 | true => meFind args h ids es
 | false => none
noncomputable def meLook (args : List AV) (h : HP) : List ME → OR2
 | [] => none
 | es => meGo args h es (reach h 100000 (idsVs args []) [])
noncomputable def ofF (f : FuncId) (es : List ME) : List ME := List.rec (motive := fun _ => List ME) [] (fun e _ ih => match Nat.beq e.f f with
 | true => e :: ih
 | false => ih) es
noncomputable def kMe (es : List ME) : KM := fun f args h => meLook args h (ofF f es)
theorem ofF_sub (f : FuncId) : ∀ (es : List ME), ∀ e ∈ ofF f es, e ∈ es ∧ e.f = f
 | [], e, h => by cases h
 | a :: es, e, h => by
  have h : e ∈ (match Nat.beq a.f f with
   | true => a :: ofF f es
   | false => ofF f es) := h
  cases hb : Nat.beq a.f f
  ·rw [hb] at h
   obtain ⟨h1, h2⟩ := ofF_sub f es e h
   exact ⟨List.mem_cons_of_mem _ h1, h2⟩
  ·rw [hb] at h
   rcases List.mem_cons.1 h with rfl | h
   ·exact ⟨List.mem_cons_self .., Nat.eq_of_beq_eq_true hb⟩
   ·obtain ⟨h1, h2⟩ := ofF_sub f es e h
    exact ⟨List.mem_cons_of_mem _ h1, h2⟩
theorem meFind_ok {args : List AV} {h : HP} {ids : List Nat} {v : AV} {h' : HP} : ∀ {es : List ME}, meFind args h ids es = some (v, h') → ∃ e ∈ es, meHit args h ids e = true ∧ mePut h ids e = some (v, h')
 | [], q => by cases q
 | e :: es, q => by
  have q : meTry h (mePut h ids e) (meFind args h ids es) (meHit args h ids e) = some (v, h') := q
  cases hh : meHit args h ids e
  ·rw [hh] at q
   obtain ⟨e', h1, h2⟩ := meFind_ok (es := es) q
   exact ⟨e', List.mem_cons_of_mem _ h1, h2⟩
  ·rw [hh] at q
   exact ⟨e, List.mem_cons_self .., hh, q⟩
theorem foldNew_L : ∀ (l : List AO) (h : HP), h.ok → (List.foldl rNew h l).L = h.L ++ l ∧ (List.foldl rNew h l).ok ∧ h.n ≤ (List.foldl rNew h l).n
 | [], h, hk => ⟨by simp, hk, Nat.le_refl _⟩
 | o :: l, h, hk => by
  obtain ⟨h1, h2, h3⟩ := foldNew_L l (rNew h o) (rNew_ok hk o)
  simp only [List.foldl_cons]
  refine ⟨by rw [h1, rNew_eq]; simp, h2, Nat.le_trans (Nat.le_succ _) h3⟩
theorem kMe_ok {P : Program} {es : List ME} (hes : ∀ e ∈ es, MEok P e) : KMok P (kMe es) := by
 intro f args h v h' hk e
 unfold kMe at e
 have sub := ofF_sub f es
 generalize ofF f es = fs at *
 unfold meLook at e
 split at e
 ·cases e
 ·generalize reach h 100000 (idsVs args []) [] = ids at e
  unfold meGo at e
  split at e
  case h_2 => cases e
  rename_i hcl
  obtain ⟨m, hm, hit, put⟩ := meFind_ok e
  obtain ⟨hm1, rfl⟩ := sub m hm
  have hM := hes m hm1
  unfold meHit at hit
  obtain ⟨t1, hit⟩ := okIf_spec hit
  obtain ⟨t2, t3⟩ := okIf_spec hit
  have t1 := Nat.eq_of_beq_eq_true t1
  have t2 := beqVs_spec t2
  have t3 := beqOs_spec t3
  have hpk : (packH h ids).L = m.i := by
   rw [packH_L hk, ← t3]
   exact List.map_congr_left fun j _ => (objN_eq hk _ j).symm
  unfold MEok at hM
  rw [← t1, ← t2, ← hpk] at hM
  have hL := (LCl_run hk hcl hM).less hk (by rw [updE_keys]; exact (closedN_spec hcl).1) (fun p hp => by
   have : p.1 ∈ (updE (tau ids ids.length h.n) ids.length ids m.o).map (·.1) := List.mem_map_of_mem hp
   rwa [updE_keys] at this)
  have hA := hL h.L (HP.len hk) fun _ _ => rfl
  unfold mePut at put
  split at put
  case h_2 => cases put
  rename_i hall
  cases put
  have hS := rSets_ok (turned h (updE (tau ids ids.length h.n) ids.length ids m.o)) hk (fun p hp => by
   have hp2 := turned_sub _ _ p hp
   have : p.1 ∈ (updE (tau ids ids.length h.n) ids.length ids m.o).map (·.1) := List.mem_map_of_mem hp2
   rw [updE_keys] at this
   have := allAt_spec hall p.1 this
   rwa [Nat.blt_eq] at this)
  obtain ⟨s1, s2, s3⟩ := hS
  obtain ⟨u1, u2, u3⟩ := foldNew_L ((m.o.drop ids.length).map (·.ren (tau ids ids.length h.n))) _ s1
  refine ⟨⟨u2, by omega⟩, hA.mono fun v1 H1 ⟨q1, q2⟩ => ⟨q1, ?_⟩⟩
  rw [q2, u1, s3]
end Go.Abs
