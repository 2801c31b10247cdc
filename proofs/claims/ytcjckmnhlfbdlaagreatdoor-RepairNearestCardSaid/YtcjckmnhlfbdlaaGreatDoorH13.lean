/- Part 13 of the texts that lead to repairNearestCard_holds. No condition. -/
import Derived.Lib.OthersKept
import Derived.Test.YtcjckmnhlfbdlaaGreatDoorH12
set_option linter.all false
namespace Go.Abs
open Go Go.Lib
section
variable {P : Program} {I : Nat → Prop} {m : List Loc} {H : List AO} {w : World}
theorem SOK.rangeS (hr : HR I m H w) {t : TypeId} (ht : P.underlying t = some .string) (s : ByteArray) : SOK P I m H w (Instr.range t (.string s)) (.pt H.length 0) (H ++ [.raw (.stringIter s 0)]) := by
 obtain ⟨h1, h2⟩ := hr.alloc (w' := w.iter s 0) (o := .raw (.stringIter s 0)) (L := ⟨w.heap.size, 0, 1, 1⟩) rfl rfl rfl rfl rfl (by
  simp only [OR]
  exact ⟨by decide, World.iter_heap w s 0, trivial⟩)
 refine ⟨_, _, _, run_range_string w t s ht, ?_, h1, h2⟩
 simp only [VR]
 exact ⟨_, by rw [← hr.len]; exact last_lk _ (by simp), rfl⟩
theorem raw_get (hr : HR I m H w) {id : Nat} {o : Obj} (ho : H[id]? = some (.raw o)) {x : Value} (hx : VR I m w (.pt id 0) x) :
 ∃ L, m[id]? = some L ∧ L.cap ≠ 0 ∧ x = .pointer (some ⟨L.b, 0, none⟩) ∧ w.heap[L.b]? = some o ∧ L.o = 0 := by
 simp only [VR] at hx
 obtain ⟨L, h1, rfl⟩ := hx
 have h2 := (lk_get h1).1
 obtain ⟨q1, q2, q3⟩ : L.cap ≠ 0 ∧ w.heap[L.b]? = some o ∧ L.o = 0 := by simpa only [OR] using hr.ob id _ L ho h2
 exact ⟨L, h2, q1, by rw [q3], q2, q3⟩
theorem SOK.nextS (hr : HR I m H w) {id : Nat} {s : ByteArray} {pos : Nat} (ho : H[id]? = some (.raw (.stringIter s pos))) {x : Value} (hx : VR I m w (.pt id 0) x) (h : pos < s.size) (t : TypeId) :
 SOK P I m H w (Instr.next x true t) (.tu [.v (.bool true), .v (.int .i64 pos), .v (.int .i32 (Utf8.decode s pos).1)]) (H.set id (.raw (.stringIter s (pos + (Utf8.decode s pos).2)))) := by
 obtain ⟨L, h2, q1, rfl, q2, q3⟩ := raw_get hr ho hx
 obtain ⟨r1, r2⟩ := hr.set (w' := w.iterAt L.b s (pos + (Utf8.decode s pos).2)) (o' := .raw (.stringIter s (pos + (Utf8.decode s pos).2))) ho rfl h2 (iterAt_size _ _ _ _) (fun b hb => iterAt_other _ _ _ _ _ (hb q1)) rfl rfl rfl (by
  simp only [OR]
  exact ⟨q1, iterAt_heap _ _ _ _ _ q2, q3⟩)
 refine ⟨_, _, _, run_next_any_at w L.b s pos t q2 h, ?_, r1, r2⟩
 simp only [VR, VRs]
 exact ⟨_, rfl, _, _, rfl, rfl, _, _, rfl, rfl, _, _, rfl, rfl, rfl⟩
theorem SOK.nextE (hr : HR I m H w) {id : Nat} {s : ByteArray} {pos : Nat} (ho : H[id]? = some (.raw (.stringIter s pos))) {x : Value} (hx : VR I m w (.pt id 0) x) (h : ¬ pos < s.size) (t : TypeId) :
 SOK P I m H w (Instr.next x true t) (.tu [.v (.bool false)]) H := by
 obtain ⟨L, h2, q1, rfl, q2, q3⟩ := raw_get hr ho hx
 refine SOK.same hr (run_next_end_at w L.b s pos t q2 h) ?_
 simp only [VR, VRs]
 exact ⟨_, rfl, _, _, rfl, rfl, rfl⟩
theorem SOK.lenM (hr : HR I m H w) {id : Nat} {ks : List Value} {vs : List AV} (ho : H[id]? = some (.mapv ks vs)) {x : Value} (hx : VR I m w (.mp id) x) {t : TypeId} {k e : TypeId} (ht : P.underlying t = some (.map k e)) (ty : TypeId) (ats : Array TypeId) (h0 : ats[0]? = some t) :
 SOK P I m H w (Builtin.len_ ats ty #[x]) (.v (.int .i64 ks.length)) H := by
 obtain ⟨L, es, cl, q1, q2, rfl, q4, q5, q6⟩ := mapv_get hr ho hx
 refine SOK.same hr (y := .int .i64 ks.length) ?_ (by simp only [VR])
 have : ks.length = es.size := by rw [← q5]; simp
 simp [Builtin.len_, h0, run_underlying ht, MapKept.run_getObj_map q4, Result.andThen, goInt, this]
end
def nilK (P : Program) (t : TypeId) : AV → Option Bool
 | .v (.slice none _ _) => match P.underlying t with
  | some (.slice _) => some true
  | _ => none
 | .v (.pointer none) => match P.underlying t with
  | some (.pointer _) => some true
  | _ => none
 | .v (.map none) => match P.underlying t with
  | some (.map _ _) => some true
  | _ => none
 | .pt _ _ => match P.underlying t with
  | some (.pointer _) => some false
  | _ => none
 | .mp _ => match P.underlying t with
  | some (.map _ _) => some false
  | _ => none
 | _ => none
def isNilV : AV → Bool
 | .v (.slice none _ _) | .v (.pointer none) | .v (.map none) => true
 | _ => false
def xNil (P : Program) (op : BinOp) (t : TypeId) (x y : AV) : Option Value := match isNilV y with
 | true => match nilK P t x, nilK P t y with
  | some b, some _ => flipB op b
  | _, _ => none
 | false => none
theorem xNil_ok {P : Program} {I : Nat → Prop} {m : List Loc} {w : World} {op : BinOp} {t : TypeId} {x y : AV} {r : Value} (e : xNil P op t x y = some r) {xv yv : Value} (hx : VR I m w x xv) (hy : VR I m w y yv) (o1 o2 : Operand) :
 (do eqGuard op t o1 o2 xv yv; Go.binOp op t xv yv : Sem Value).run P w = .ok r w := by
 have key : ∀ b, flipB op b = some r → (Op.equal t xv yv).run P w = .ok b w → ((∃ A n c, xv = .slice A n c) ∨ (∃ A, xv = .pointer A) ∨ (∃ A, xv = .map A)) → (do eqGuard op t o1 o2 xv yv; Go.binOp op t xv yv : Sem Value).run P w = .ok r w := fun b hb h1 h2 => by
  have h3 : xv ≠ .nilIface ∧ xv.oneCell' = true := by rcases h2 with ⟨_, _, _, rfl⟩ | ⟨_, rfl⟩ | ⟨_, rfl⟩ <;> exact ⟨by simp, rfl⟩
  simp only [Sem.run_bind, eqGuard_ok h3.1 h3.2, Result.andThen_ok]
  cases op <;> simp only [flipB] at hb <;> first | (cases hb; done) | skip
  all_goals (cases hb; rcases h2 with ⟨_, _, _, rfl⟩ | ⟨_, rfl⟩ | ⟨_, rfl⟩ <;> simp [Go.binOp, h1])
 unfold xNil at e
 split at e
 ·rename_i hn
  split at e
  ·rename_i b b' h1 h2
   have hk : (Op.equal t xv yv).run P w = .ok b w ∧ ((∃ A n c, xv = .slice A n c) ∨ (∃ A, xv = .pointer A) ∨ (∃ A, xv = .map A)) := by
    unfold nilK at h1 h2
    split at h1 <;> first | (cases h1; done) | skip
    all_goals (split at h1 <;> first | (cases h1; done) | skip)
    all_goals cases h1
    all_goals (rename_i ht)
    all_goals (split at h2 <;> first | (cases h2; done) | (cases hn; done) | skip)
    all_goals (rw [ht] at h2; first | (cases h2; done) | skip)
    all_goals simp only [VR] at hx hy
    all_goals (first | (obtain ⟨L, _, rfl⟩ := hx) | subst hx)
    all_goals subst hy
    all_goals (refine ⟨?_, by simp⟩; show Sem.run P (Op.equalIn (9999 + 1) t _ _) w = _; unfold Op.equalIn; simp [run_underlying ht, Result.andThen])
   exact key b e hk.1 hk.2
  ·cases e
 ·cases e
noncomputable def forceN {α : Type} (n : Nat) (k : Nat → α) : α := Nat.rec (motive := fun _ => α) (k 0) (fun j _ => k (Nat.succ j)) n
theorem forceN_eq {α : Type} (n : Nat) (k : Nat → α) : forceN n k = k n := by cases n <;> rfl
noncomputable def yRangeM (h : HP) (id : Nat) : Option AO → OR2
 | some (.mapv ks _) => forceN ks.length fun n => some (.pt h.n 0, rNew h (.mi [.mp id] n [] n))
 | _ => none
noncomputable def yNextM4 (h : HP) (id im s j n : Nat) (sn : List Nat) : Option Value → Option AV → OR2
 | some k, some v => forceN n fun n => some (.tu [.v (.bool true), .v k, v], rSet h id (.mi [.mp im] s (sn ++ [j]) n))
 | _, _ => none
noncomputable def yNextM3 (h : HP) (id im s : Nat) (sn : List Nat) (ks : List Value) (vs : List AV) : List Nat → OR2
 | [] => some (.tu [.v (.bool false)], h)
 | [j] => forceN j fun j => yNextM4 h id im s j ks.length sn (nthO ks j) (nthO vs j)
 | _ => none
noncomputable def yNextM2 (h : HP) (id im s : Nat) (sn : List Nat) (l : Nat) : Option AO → OR2
 | some (.mapv ks vs) => match Nat.ble ks.length s, Nat.ble s l with
  | true, true => yNextM3 h id im s sn ks vs (leftI ks.length sn)
  | _, _ => none
 | _ => none
noncomputable def yNextM1 (h : HP) (id : Nat) : Option AO → OR2
 | some (.mi [.mp im] s sn l) => yNextM2 h id im s sn l (rGet h im)
 | _ => none
noncomputable def yNextM (h : HP) : AV → OR2
 | .pt id 0 => yNextM1 h id (rGet h id)
 | _ => none
theorem yNextM_ok {P : Program} {I : Nat → Prop} {m : List Loc} {w : World} {h : HP} (hk : h.ok) (hr : HR I m h.L w) {x v : AV} {h' : HP} (e : yNextM h x = some (v, h')) {xv : Value} (hx : VR I m w x xv) (t : TypeId) : SOK P I m h.L w (Instr.next xv false t) v h'.L := by
 unfold yNextM at e
 split at e
 ·rename_i id
  cases hg : rGet h id with
  | none => rw [hg] at e; cases e
  | some ob =>
   have hlt := rGet_lt hg
   rw [hg] at e
   rw [rGet_eq hk] at hg
   unfold yNextM1 at e
   split at e
   ·rename_i im s sn l hob
    cases hob
    cases hg2 : rGet h im with
    | none => rw [hg2] at e; cases e
    | some om =>
     rw [hg2] at e
     rw [rGet_eq hk] at hg2
     unfold yNextM2 at e
     split at e
     ·rename_i ks vs hom
      cases hom
      split at e
      ·rename_i hb1 hb2
       have key := SOK.nextM (P := P) hr hg hg2 hx (by rwa [Nat.ble_eq] at hb1) (by rwa [Nat.ble_eq] at hb2) t
       unfold yNextM3 at e
       split at e
       ·rename_i hl
        cases e
        rcases key with ⟨_, q⟩ | ⟨j, k, v, q1, _⟩
        ·exact q
        ·rw [hl] at q1; cases q1
       ·rename_i j0 hl
        rw [forceN_eq, nthO_eq, nthO_eq] at e
        unfold yNextM4 at e
        split at e
        ·rename_i k0 v0 hk0 hv0
         rw [forceN_eq] at e
         cases e
         rcases key with ⟨q1, _⟩ | ⟨j, k, v, q1, q2, q3, q4⟩
         ·rw [hl] at q1; cases q1
         ·rw [hl, List.mem_singleton] at q1
          subst q1
          rw [hk0] at q2; rw [hv0] at q3
          cases q2; cases q3
          rw [rSet_eq hk hlt]
          exact q4
        ·cases e
       ·cases e
      ·cases e
     ·cases e
   ·cases e
 ·cases e
theorem yNextM_keep {h : HP} (hk : h.ok) {x v : AV} {h' : HP} (e : yNextM h x = some (v, h')) : h'.ok ∧ h.n ≤ h'.n := by
 unfold yNextM at e
 split at e
 ·rename_i id
  unfold yNextM1 at e
  split at e
  ·rename_i im s sn l hob
   unfold yNextM2 at e
   split at e
   ·split at e
    ·unfold yNextM3 at e
     split at e
     ·cases e; exact ⟨hk, Nat.le_refl _⟩
     ·rw [forceN_eq] at e
      unfold yNextM4 at e
      split at e
      ·rw [forceN_eq] at e
       cases e; exact ⟨rSet_ok hk _ _, Nat.le_refl _⟩
      ·cases e
     ·cases e
    ·cases e
   ·cases e
  ·cases e
 ·cases e
def yEntry5 (h : HP) : Option Value → Option AV → OR2
 | some k, some v => some (.tu [.v k, v], h)
 | _, _ => none
noncomputable def yEntry4 (h : HP) (ks : List Value) (vs : List AV) : Option Nat → OR2
 | some j => yEntry5 h (nthO ks j) (nthO vs j)
 | none => none
noncomputable def yEntry2 (h : HP) (sn : List Nat) (l : Nat) : Option AO → OR2
 | some (.mapv ks vs) => match Nat.beq l ks.length with
  | true => yEntry4 h ks vs sn.getLast?
  | false => none
 | _ => none
noncomputable def yEntry1 (h : HP) : Option AO → OR2
 | some (.mi [.mp im] _ sn l) => yEntry2 h sn l (rGet h im)
 | _ => none
noncomputable def yEntry (h : HP) : AV → OR2
 | .pt id 0 => yEntry1 h (rGet h id)
 | _ => none
theorem yEntry_ok {P : Program} {I : Nat → Prop} {m : List Loc} {w : World} {h : HP} (hk : h.ok) (hr : HR I m h.L w) {x v : AV} {h' : HP} (e : yEntry h x = some (v, h')) {xv : Value} (hx : VR I m w x xv) : h' = h ∧ SOK P I m h.L w (Instr.entry xv) v h.L := by
 unfold yEntry at e
 split at e
 ·rename_i id
  cases hg : rGet h id with
  | none => rw [hg] at e; cases e
  | some ob =>
   rw [hg] at e
   rw [rGet_eq hk] at hg
   unfold yEntry1 at e
   split at e
   ·rename_i im s sn l hob
    cases hob
    cases hg2 : rGet h im with
    | none => rw [hg2] at e; cases e
    | some om =>
     rw [hg2] at e
     rw [rGet_eq hk] at hg2
     unfold yEntry2 at e
     split at e
     ·rename_i ks vs hom
      cases hom
      split at e
      ·rename_i hb1
       rw [Nat.beq_eq] at hb1
       unfold yEntry4 at e
       split at e
       ·rename_i j hj
        rw [nthO_eq, nthO_eq] at e
        unfold yEntry5 at e
        split at e
        ·rename_i k0 v0 hk0 hv0
         cases e
         obtain ⟨sn', rfl⟩ := List.getLast?_eq_some_iff.1 hj
         exact ⟨rfl, SOK.entryM hr hg hg2 hx hb1 hk0 hv0⟩
        ·cases e
       ·cases e
      ·cases e
     ·cases e
   ·cases e
 ·cases e
theorem yEntry_keep {h : HP} {x v : AV} {h' : HP} (e : yEntry h x = some (v, h')) : h' = h := by
 unfold yEntry at e
 split at e
 ·unfold yEntry1 at e
  split at e
  ·unfold yEntry2 at e
   split at e
   ·split at e
    ·unfold yEntry4 at e
     split at e
     ·unfold yEntry5 at e
      split at e
      ·cases e; rfl
      ·cases e
     ·cases e
    ·cases e
   ·cases e
  ·cases e
 ·cases e
noncomputable def yRange (h : HP) : Option TypeDesc → AV → OR2
 | some (.map _ _), .mp id => yRangeM h id (rGet h id)
 | some .string, .v (.string s) => some (.pt h.n 0, rNew h (.raw (.stringIter s 0)))
 | _, _ => none
noncomputable def yNext3 (h : HP) (id : Nat) (s : ByteArray) (pos : Nat) : Nat × Nat → OR2
 | (c, k) => forceN c fun c => forceN (Nat.add pos k) fun p => some (.tu [.v (.bool true), .v (.int .i64 (Int.ofNat pos)), .v (.int .i32 (Int.ofNat c))], rSet h id (.raw (.stringIter s p)))
noncomputable def yNext2 (h : HP) (id : Nat) (s : ByteArray) (pos : Nat) : Bool → OR2
 | true => yNext3 h id s pos (Utf8.decode s pos)
 | false => some (.tu [.v (.bool false)], h)
noncomputable def yNext1 (h : HP) (id : Nat) : Option AO → OR2
 | some (.raw (.stringIter s pos)) => yNext2 h id s pos (Nat.blt pos s.size)
 | _ => none
noncomputable def yNext (h : HP) : AV → OR2
 | .pt id 0 => yNext1 h id (rGet h id)
 | _ => none
def yLen3 (h : HP) : Option AO → OR2
 | some (.mapv ks _) => some (.v (.int .i64 (Int.ofNat ks.length)), h)
 | _ => none
def isMapD : Option TypeDesc → Bool
 | some (.map _ _) => true
 | _ => false
noncomputable def yLen2 (P : Program) (h : HP) (id : Nat) : Option TypeId → OR2
 | some t => match isMapD (P.underlying t) with
  | true => yLen3 h (rGet h id)
  | false => none
 | none => none
noncomputable def yLen (P : Program) (g : List AV) (h : HP) (ats : List TypeId) : List Operand → OR2
 | [x] => match evF g x with
  | .mp id => yLen2 P h id (nthO ats 0)
  | _ => none
 | _ => none
noncomputable def yop (P : Program) (g : List AV) (h : HP) : Op → OR2
 | .range t x => yRange h (P.underlying t) (evF g x)
 | .next x true => yNext h (evF g x)
 | .next x false => yNextM h (evF g x)
 | .entry x => yEntry h (evF g x)
 | .binOp op t x y _ => xop.wrapV h (xNil P op t (evF g x) (evF g y))
 | .call ⟨.builtin .len, args, ats⟩ => yLen P g h ats.toList args.toList
 | _ => none
noncomputable def orY (P : Program) (g : List AV) (h : HP) (op : Op) : OR2 → OR2
 | some r => some r
 | none => yop P g h op
noncomputable def zop (P : Program) (g : List AV) (h : HP) (op : Op) : OR2 := orY P g h op (xop P g h op)
theorem yop_ok {P : Program} {g : List AV} {h : HP} (hk : h.ok) (op : Op) {v : AV} {h' : HP} (e : yop P g h op = some (v, h')) : (h'.ok ∧ h.n ≤ h'.n) ∧ OpSem P g h.L op v h'.L := by
 unfold yop at e
 split at e
 ·rename_i t x
  rw [evF_eq] at e
  unfold yRange at e
  split at e
  ·rename_i k0 e0 id ht hx0
   cases hg : rGet h id with
   | none => rw [hg] at e; cases e
   | some ob =>
    rw [hg] at e
    rw [rGet_eq hk] at hg
    unfold yRangeM at e
    split at e
    ·rename_i ks vs hob
     cases hob
     rw [forceN_eq] at e
     cases e
     refine ⟨⟨rNew_ok hk _, Nat.le_succ _⟩, fun I m w a o ho hr hx => ?_⟩
     have hv := hx x (by simp [Op.operands])
     rw [hx0] at hv
     rw [rNew_eq, ← HP.len hk]
     exact OpS.of_sok (SOK.rangeM hr ht hg hv) (by simp [execOp, ho])
    ·cases e
  ·rename_i s ht hx0
   cases e
   refine ⟨⟨rNew_ok hk _, Nat.le_succ _⟩, fun I m w a o ho hr hx => ?_⟩
   have hv := hx x (by simp [Op.operands])
   rw [hx0] at hv
   simp only [VR] at hv
   rw [rNew_eq, ← HP.len hk]
   exact OpS.of_sok (SOK.rangeS hr ht s) (by simp [execOp, ho, hv])
  ·cases e
 ·rename_i x
  rw [evF_eq] at e
  unfold yNext at e
  split at e
  ·rename_i id hx0
   cases hg : rGet h id with
   | none => rw [hg] at e; cases e
   | some ob =>
    have hlt := rGet_lt hg
    rw [hg] at e
    rw [rGet_eq hk] at hg
    unfold yNext1 at e
    split at e
    ·rename_i s pos hob
     cases hob
     cases hb : Nat.blt pos s.size
     ·rw [hb] at e
      cases e
      have hn : ¬ pos < s.size := fun hl => by rw [← Nat.blt_eq, hb] at hl; cases hl
      refine ⟨⟨hk, Nat.le_refl _⟩, fun I m w a o ho hr hx => ?_⟩
      have hv := hx x (by simp [Op.operands])
      rw [hx0] at hv
      exact OpS.of_sok (SOK.nextE hr hg hv hn o.type) (by simp [execOp, ho])
     ·rw [hb] at e
      have hn : pos < s.size := by rw [← Nat.blt_eq]; exact hb
      simp only [yNext2, yNext3, forceN_eq] at e
      cases e
      refine ⟨⟨rSet_ok hk _ _, Nat.le_refl _⟩, fun I m w a o ho hr hx => ?_⟩
      have hv := hx x (by simp [Op.operands])
      rw [hx0] at hv
      rw [rSet_eq hk hlt]
      exact OpS.of_sok (SOK.nextS hr hg hv hn o.type) (by simp [execOp, ho])
    ·cases e
  ·cases e
 ·rename_i x
  rw [evF_eq] at e
  refine ⟨yNextM_keep hk e, fun I m w a o ho hr hx => ?_⟩
  exact OpS.of_sok (yNextM_ok hk hr e (hx x (by simp [Op.operands])) o.type) (by simp [execOp, ho])
 ·rename_i x
  rw [evF_eq] at e
  obtain rfl := yEntry_keep e
  refine ⟨⟨hk, Nat.le_refl _⟩, fun I m w a o ho hr hx => ?_⟩
  exact OpS.of_sok (yEntry_ok hk hr e (hx x (by simp [Op.operands]))).2 (by simp [execOp, ho])
 ·rename_i op t x y u
  cases hl : xNil P op t (evF g x) (evF g y) with
  | none => rw [hl] at e; cases e
  | some v0 =>
   rw [hl] at e
   cases e
   refine ⟨⟨hk, Nat.le_refl _⟩, fun I m w a o ho hr hx => ?_⟩
   rw [evF_eq, evF_eq] at hl
   have := xNil_ok hl (hx x (by simp [Op.operands])) (hx y (by simp [Op.operands])) x y
   exact OpS.of_sok (SOK.same hr this (by simp only [VR])) (by simp [execOp, ho])
 ·rename_i args ats
  unfold yLen at e
  split at e
  ·rename_i x hargs
   rw [evF_eq] at e
   split at e
   ·rename_i id hx0
    unfold yLen2 at e
    rw [nthO_eq] at e
    split at e
    ·rename_i t ht0
     cases hm : isMapD (P.underlying t) with
     | false => rw [hm] at e; cases e
     | true =>
      rw [hm] at e
      obtain ⟨k, el, ht⟩ : ∃ k el, P.underlying t = some (.map k el) := by
       unfold isMapD at hm
       split at hm
       ·rename_i k el h1; exact ⟨_, _, h1⟩
       ·cases hm
      cases hg : rGet h id with
      | none => rw [hg] at e; cases e
      | some ob =>
       rw [hg] at e
       rw [rGet_eq hk] at hg
       unfold yLen3 at e
       dsimp only at e
       split at e
       ·rename_i ks vs hob
        cases hob
        cases e
        refine ⟨⟨hk, Nat.le_refl _⟩, fun I m w a o ho hr hx => ?_⟩
        have hargs' : args = #[x] := by
         apply Array.ext'; simpa using hargs
        subst hargs'
        have hv := hx x (by simp [Op.operands, Call.operands])
        rw [hx0] at hv
        exact OpS.of_sok (SOK.lenM hr hg hv ht o.type ats (by simpa using ht0)) (by simp [execOp, ho, resolve, invoke, builtin])
       ·cases e
    ·cases e
   ·cases e
  ·cases e
 ·cases e
theorem zop_ok {P : Program} {g : List AV} {h : HP} (hk : h.ok) (op : Op) {v : AV} {h' : HP} (e : zop P g h op = some (v, h')) : (h'.ok ∧ h.n ≤ h'.n) ∧ OpSem P g h.L op v h'.L := by
 unfold zop at e
 cases hx : xop P g h op with
 | some r => rw [hx] at e; cases e; exact xop_ok hk op hx
 | none => rw [hx] at e; exact yop_ok hk op e
end Go.Abs
namespace Go.Abs
open Go
section
variable {P : Program} {I : Nat → Prop} {m : List Loc} {H : List AO} {w : World}
theorem HR.shorten (hr : HR I m H w) {id sz : Nat} {cs : List AV} (ho : H[id]? = some (.cells sz cs)) (k : Nat) : HR I m (H.set id (.cells sz (cs.take k))) w ∧ Ext I m (Own H m) w I m (Own (H.set id (.cells sz (cs.take k))) m) w := by
 have hlt : id < m.length := by rw [hr.len]; exact (List.getElem?_eq_some_iff.1 ho).1
 have hm : m[id]? = some m[id] := List.getElem?_eq_getElem hlt
 obtain ⟨h1, h2, h3⟩ := hr.ob id _ _ ho hm
 refine hr.set ho rfl hm rfl (fun _ _ => rfl) rfl rfl rfl ?_
 simp only [OR]
 refine ⟨h1, by rw [List.length_take]; omega, fun hc => ?_⟩
 obtain ⟨c, E, fz, q1, q2, q3, q4⟩ := h3 hc
 refine ⟨c, E, fz, q1, q2, q3, fun i x hx => q4 i x ?_⟩
 rw [List.getElem?_take] at hx
 split at hx
 ·exact hx
 ·cases hx
theorem SOK.pre {H1 H2 : List AO} {s : Sem Value} {v : AV} (hx : Ext I m (Own H m) w I m (Own H1 m) w) (h : SOK P I m H1 w s v H2) : SOK P I m H w s v H2 := by
 obtain ⟨y, w', m', h1, h2, h3, h4⟩ := h
 exact ⟨y, w', m', h1, h2, h3, hx.trans h4⟩
theorem SOK.copy (hr : HR I m H w) {t u e ty : TypeId} {d te : TI} (hi : ti P t = some d) (hd : d.desc = .slice e) (hte : ti P e = some te) {id off len sz n : Nat} {cs new : List AV} (ho : H[id]? = some (.cells sz cs)) (hsz : sz = te.size) {x : AV}
    (hn : lenA x = some n) (hf : firstA H te.size (Nat.min n len) x = some new) (h1 : new.all (·.one) = true) (hl : new.length = Nat.min n len * te.size) (h0 : te.size ≠ 0) (h3 : off + new.length ≤ cs.length) {ys yx : Value} (hs : VR I m w (.sl id off len) ys) (hx : VR I m w x yx) :
    SOK P I m H w (Builtin.copy_ #[t, u] ty #[ys, yx]) (.v (.int .i64 (Nat.min n len : Nat))) (H.set id (.cells sz (setRange cs off new))) := by
  simp only [VR] at hs
  obtain ⟨L, a, c, hm, hcap, hlc, ha, rfl⟩ := hs
  replace hm := (lk_get hm).1
  obtain ⟨zs, hz1, hz2⟩ := firstA_any (P := P) hr hf hx w rfl
  have hlen := lenA_any (P := P) hn hx
  by_cases hk : Nat.min n len = 0
  · have hnew0 : new = [] := List.eq_nil_of_length_eq_zero (by rw [hl, hk]; simp)
    subst hnew0
    have hsame : H.set id (.cells sz (setRange cs off [])) = H := by
      have : setRange cs off [] = cs := by simp [setRange]
      rw [this]
      apply List.ext_getElem?
      intro j
      rw [List.getElem?_set]
      split
      · rename_i e; subst e
        rw [if_pos (List.getElem?_eq_some_iff.1 ho).1, ho]
      · rfl
    rw [hsame]
    have hzs : zs = #[] := by
      simp only [VRs] at hz2
      cases zs; simp_all
    subst hzs
    refine SOK.same hr (y := .int .i64 (Nat.min n len : Nat)) ?_ (by simp only [VR])
    cases a <;> simp [Builtin.copy_, run_underlying' hi, hd, run_sizeOf' hte, hlen, hz1, storeCells, goInt]
  · have hc0 : c ≠ 0 := fun e => hk (by subst e; have : len = 0 := by omega
                                        subst this; exact Nat.min_zero _)
    have hae := ha.resolve_left hc0
    subst hae
    have hL0 : L.cap ≠ 0 := by
      have hq : L.sz = sz := (hr.ob id _ L ho hm).1
      rw [hq, hsz] at hcap
      have := Nat.mul_ne_zero hc0 h0
      omega
    obtain ⟨w', q1, q2, q3⟩ := rowSet_ok (P := P) hr ho hm hL0 hz2 h1 h3
    refine ⟨.int .i64 (Nat.min n len : Nat), w', m, ?_, by simp only [VR], q2, q3⟩
    simp [Builtin.copy_, run_underlying' hi, hd, run_sizeOf' hte, hlen, hz1, q1, goInt]
theorem SOK.appendZ (hr : HR I m H w) {t u e ty : TypeId} {d du te : TI} (hi : ti P t = some d) (hd : d.desc = .slice e) (hu : ti P u = some du) (hz : isIntD du.desc = true) (he : ti P e = some te) {k : IntKind} {n : Int} (h0 : 0 < n)
    (hb : n * te.bytes ≤ 140737488355328) (hn : n ≤ 9223372036854775807) (hs : te.size ≠ 0) :
    SOK P I m H w (Builtin.append_ #[t, u] ty #[.slice none 0 0, .int k n]) (.sl H.length 0 n.toNat) (H ++ [.cells te.size ((List.replicate n.toNat (te.zero.map AV.v)).flatten)]) := by
  obtain ⟨N, rfl⟩ : ∃ N : Nat, n = N := ⟨n.toNat, by omega⟩
  obtain ⟨j, hj1, hj2, hj3⟩ := run_typeInfo' (w := w) he
  obtain ⟨zv, hz0, hz1, hz2⟩ := run_zeroValue' (w := { w with drawn := w.drawn + 1 }) he
  obtain ⟨j', hj1', hj2', hj3'⟩ := run_typeInfo' (w := { w with drawn := w.drawn + 1 }) he
  have hnz : zv.cells.size ≠ 0 := by omega
  have hz' : (Builtin.zeroCells zv.cells N).toList = (List.replicate N te.zero).flatten := by
    have := zeros_ok zv.cells hnz N
    rw [hz1] at this
    exact this
  have hw : IntKind.i64.wrap (N : Int) = N := IntWalk.i64_in N ⟨by omega, hn⟩
  have hone' : ((List.replicate N (te.zero.map AV.v)).flatten).all (·.one) = true := List.all_eq_true.2 fun c hc => by
    obtain ⟨l, hl, hx⟩ := List.mem_flatten.1 hc
    rw [(List.mem_replicate.1 hl).2] at hx
    exact List.all_eq_true.1 (map_v_one (ti_zero_one he)) c hx
  have hgs : Builtin.nextslicecap N 0 * te.bytes ≤ 281474976710656 := by
    exact growslice_fits (need := N) (old := 0) (bytes := te.bytes) (by omega) (by have h1 : ((N * te.bytes : Nat) : Int) ≤ 140737488355328 := by { rw [Int.natCast_mul]; exact hb }; omega)
  have hnf : (Question.appendCap N 0 e).forced = false := rfl
  generalize hkk : (Question.appendCap N 0 e).cut (w.tape w.drawn (.appendCap N 0 e)) = K at *
  have hK : N ≤ K := by rw [← hkk]; exact Nat.le_add_right _ _
  have hsz : (#[] ++ Builtin.zeroCells zv.cells N ++ Builtin.zeroCells zv.cells (K - N) : Array Value).size = K * te.size := by
    simp only [Array.size_append, size_zeroCells, hz2, List.size_toArray, List.length_nil, Nat.zero_add]
    rw [← Nat.add_mul]; congr 1; omega
  obtain ⟨h10, h11⟩ := hr.newCells (w' := { w with drawn := w.drawn + 1, heap := w.heap.push (.cells (#[] ++ Builtin.zeroCells zv.cells N ++ Builtin.zeroCells zv.cells (K - N)) e) }) te.size (VRs.flatten_v N te.zero) hone' (rest := (Builtin.zeroCells zv.cells (K - N)).toList)
    (arr := #[] ++ Builtin.zeroCells zv.cells N ++ Builtin.zeroCells zv.cells (K - N)) (by simp [hz']) (E := e) (fz := (0, 0)) (by intro j _ h; simp at h) rfl rfl rfl rfl
  rw [hsz] at h10 h11
  refine ⟨.slice (some ⟨w.heap.size, 0, none⟩) N K, _, _, ?_, ?_, h10, h11⟩
  · have hu1 := run_underlying' (w := w) hu
    have hg' : ¬ (Builtin.nextslicecap N 0 * j.bytes > 2 ^ 48) := by rw [hj3]; omega
    have hg2 : ¬ ((N : Int) * j.bytes > 2 ^ 48) := by
      have : (N : Int) * j.bytes ≤ 140737488355328 := by rw [hj3]; exact hb
      omega
    have hnS : N * te.size ≠ 0 := Nat.mul_ne_zero (by omega) hs
    generalize hdd : du.desc = D at *
    cases D <;> first
      | (simp [isIntD] at hz; done)
      | (simp only [Builtin.append_, List.getElem?_toArray, List.getElem?_cons_zero, List.getElem?_cons_succ, Sem.run_bind, run_underlying' hi, hd, Result.andThen_ok, run_sizeOf' he, hu1, hdd, Sem.run_pure, if_true, asInt, asIntOf, hw, Sem.run_ite, hj1]
         rw [if_neg (by omega), if_neg hg2]
         simp only [Sem.run_pure, Result.andThen_ok, Int.toNat_natCast, Nat.zero_add, Bool.not_true, Bool.false_eq_true, if_false, hnS, Sem.run_bind, Sem.run_ite, hj1]
         rw [if_neg (by omega), if_neg (by intro h; have := h.1; simp [IntKind.max, IntKind.signed, IntKind.bits] at this; omega)]
         rw [if_neg hg']
         simp only [run_choose, hnf, Bool.false_eq_true, if_false, Result.andThen_ok, Sem.run_bind, hj1', run_askRoom, hz0, hkk, Builtin.firstCells, newRow, run_newObj, Sem.run_pure])
  · simp only [VR]
    exact ⟨_, _, K, by rw [← hr.len]; exact last_lk _ hs, by simp, by simpa using hK, .inr rfl, rfl⟩
end
noncomputable def zApp2 (P : Program) (h : HP) (t u : TypeId) (id off len : Nat) (x : AV) : Option AO → OR2
 | some (.cells sz cs) => rAppend P (rSet h id (.cells sz (cs.take (off + len * sz)))) t u (.sl id off len) x
 | _ => none
noncomputable def zZero2 (h : HP) (te : TI) (n : Int) : OR2 := if 0 < n ∧ n * te.bytes ≤ 140737488355328 ∧ n ≤ 9223372036854775807 ∧ te.size ≠ 0 then
 some (.sl h.n 0 n.toNat, rNew h (.cells te.size ((List.replicate n.toNat (te.zero.map AV.v)).flatten))) else none
noncomputable def zZero1 (h : HP) (x : AV) : Option TI → OR2
 | some te => match x with
  | .v (.int _ n) => zZero2 h te n
  | _ => none
 | none => none
noncomputable def zZero (P : Program) (h : HP) (t u : TypeId) (x : AV) : OR2 := match ti P t, ti P u with
 | some ⟨.slice e, _, _, _⟩, some ⟨d, _, _, _⟩ => match isIntD d with
  | true => zZero1 h x (ti P e)
  | false => none
 | _, _ => none
noncomputable def zApp (P : Program) (h : HP) (t u : TypeId) (x : AV) : AV → OR2
 | .sl id off len => zApp2 P h t u id off len x (rGet h id)
 | .v (.slice none 0 0) => zZero P h t u x
 | _ => none
noncomputable def zCopy5 (h : HP) (te : TI) (id off sz k : Nat) (cs : List AV) : Option (List AV) → OR2
 | some new => if sz = te.size ∧ new.all (·.one) = true ∧ new.length = k * te.size ∧ te.size ≠ 0 ∧ off + new.length ≤ cs.length then
  some (.v (.int .i64 (k : Nat)), rSet h id (.cells sz (setRange cs off new))) else none
 | none => none
noncomputable def zCopy4 (h : HP) (te : TI) (id off len sz : Nat) (cs : List AV) (x : AV) : Option Nat → OR2
 | some n => zCopy5 h te id off sz (Nat.min n len) cs (oFirst h te.size (Nat.min n len) x)
 | none => none
noncomputable def zCopy3 (h : HP) (te : TI) (id off len : Nat) (x : AV) : Option AO → OR2
 | some (.cells sz cs) => zCopy4 h te id off len sz cs x (lenA x)
 | _ => none
noncomputable def zCopy2 (h : HP) (s x : AV) : Option TI → OR2
 | some te => match s with
  | .sl id off len => zCopy3 h te id off len x (rGet h id)
  | _ => none
 | none => none
noncomputable def zCopy (P : Program) (h : HP) (t : TypeId) (s x : AV) : OR2 := match ti P t with
 | some ⟨.slice e, _, _, _⟩ => zCopy2 h s x (ti P e)
 | _ => none
def zCap (P : Program) (h : HP) (t : TypeId) : AV → OR2
 | .v (.slice none _ c) => match ti P t with
  | some ⟨.slice _, _, _, _⟩ => some (.v (.int .i64 (c : Nat)), h)
  | _ => none
 | _ => none
noncomputable def zApp0 (P : Program) (h : HP) (s x : AV) : Option TypeId → Option TypeId → OR2
 | some t, some u => zApp P h t u x s
 | _, _ => none
noncomputable def zCopy0 (P : Program) (h : HP) (s x : AV) : Option TypeId → Option TypeId → OR2
 | some t, some _ => zCopy P h t s x
 | _, _ => none
noncomputable def zCap0 (P : Program) (h : HP) (s : AV) : Option TypeId → OR2
 | some t => zCap P h t s
 | _ => none
noncomputable def zBuiltin (P : Program) (g : List AV) (h : HP) (ats : List TypeId) : Builtin → List Operand → OR2
 | .append, [s, x] => zApp0 P h (evF g s) (evF g x) (nthO ats 0) (nthO ats 1)
 | .copy, [s, x] => zCopy0 P h (evF g s) (evF g x) (nthO ats 0) (nthO ats 1)
 | .cap, [s] => zCap0 P h (evF g s) (nthO ats 0)
 | _, _ => none
noncomputable def wop (P : Program) (g : List AV) (h : HP) : Op → OR2
 | .call ⟨.builtin b, args, ats⟩ => zBuiltin P g h ats.toList b args.toList
 | _ => none
section
variable {P : Program} {h : HP}
theorem zApp_keep (hk : h.ok) {t u : TypeId} {s x v : AV} {h' : HP} (e : zApp P h t u x s = some (v, h')) : h'.ok ∧ h.n ≤ h'.n := by
 unfold zApp at e
 split at e
 ·rename_i id off len
  cases hg : rGet h id with
  | none => rw [hg] at e; cases e
  | some o =>
   rw [hg] at e
   cases o <;> first | (cases e; done) | skip
   rename_i sz cs
   exact (rAppend_eq (P := P) (rSet_ok hk id (.cells sz (cs.take (off + len * sz)))) t u (.sl id off len) x).2 _ _ e
 ·unfold zZero at e
  split at e
  ·rename_i ed _ _ _ dd _ _ _ hd hu
   split at e
   ·rename_i hz
    cases he : ti P ed with
    | none => rw [he] at e; cases e
    | some te =>
     rw [he] at e
     simp only [zZero1] at e
     split at e
     ·unfold zZero2 at e
      split at e
      ·cases e; exact ⟨rNew_ok hk _, Nat.le_succ _⟩
      ·cases e
     ·cases e
   ·cases e
  ·cases e
 ·cases e
theorem zApp_ok {I : Nat → Prop} {m : List Loc} {w : World} (hk : h.ok) (hr : HR I m h.L w) {t u ty : TypeId} {s x v : AV} {h' : HP} (e : zApp P h t u x s = some (v, h')) {ys yx : Value} (hs : VR I m w s ys) (hx : VR I m w x yx) :
 SOK P I m h.L w (Builtin.append_ #[t, u] ty #[ys, yx]) v h'.L := by
 unfold zApp at e
 split at e
 ·rename_i id off len
  cases hg : rGet h id with
  | none => rw [hg] at e; cases e
  | some o =>
   have hlt := rGet_lt hg
   rw [hg] at e
   rw [rGet_eq hk] at hg
   cases o <;> first | (cases e; done) | skip
   rename_i sz cs
   simp only [zApp2] at e
   have hA := (rAppend_eq (P := P) (rSet_ok hk id (.cells sz (cs.take (off + len * sz)))) t u (.sl id off len) x).1
   rw [e, rSet_eq hk hlt] at hA
   obtain ⟨q1, q2⟩ := hr.shorten hg (off + len * sz)
   exact SOK.pre q2 (aappend_ok q1 hA.symm hs hx)
 ·unfold zZero at e
  split at e
  ·rename_i ed _ _ _ dd _ _ _ hd hu
   split at e
   ·rename_i hz
    cases he : ti P ed with
    | none => rw [he] at e; cases e
    | some te =>
     rw [he] at e
     simp only [zZero1] at e
     split at e
     ·rename_i k n
      unfold zZero2 at e
      split at e
      ·rename_i hc
       cases e
       simp only [VR] at hs hx
       subst hs; subst hx
       rw [rNew_eq, ← HP.len hk]
       exact SOK.appendZ hr hd rfl hu hz he hc.1 hc.2.1 hc.2.2.1 hc.2.2.2
      ·cases e
     ·cases e
   ·cases e
  ·cases e
 ·cases e
theorem zCopy_ok (hk : h.ok) {t u ty : TypeId} {s x v : AV} {h' : HP} (e : zCopy P h t s x = some (v, h')) : (h'.ok ∧ h.n ≤ h'.n) ∧ ∀ {I : Nat → Prop} {m : List Loc} {w : World} (hr : HR I m h.L w) {ys yx : Value} (hs : VR I m w s ys) (hx : VR I m w x yx),
 SOK P I m h.L w (Builtin.copy_ #[t, u] ty #[ys, yx]) v h'.L := by
 unfold zCopy at e
 split at e
 ·rename_i ed _ _ _ hd
  cases he : ti P ed with
  | none => rw [he] at e; cases e
  | some te =>
   rw [he] at e
   simp only [zCopy2] at e
   split at e
   ·rename_i id off len
    cases hg : rGet h id with
    | none => rw [hg] at e; cases e
    | some o =>
     have hlt := rGet_lt hg
     rw [hg] at e
     rw [rGet_eq hk] at hg
     cases o <;> first | (cases e; done) | skip
     rename_i sz cs
     simp only [zCopy3] at e
     cases hn : lenA x with
     | none => rw [hn] at e; cases e
     | some n =>
      rw [hn] at e
      simp only [zCopy4, oFirst_eq hk] at e
      cases hf : firstA h.L te.size (Nat.min n len) x with
      | none => rw [hf] at e; cases e
      | some new =>
       rw [hf] at e
       simp only [zCopy5] at e
       split at e
       ·rename_i hc
        cases e
        refine ⟨⟨rSet_ok hk _ _, Nat.le_refl _⟩, fun {I m w} hr {ys yx} hs hx => ?_⟩
        rw [rSet_eq hk hlt]
        exact SOK.copy hr hd rfl he hg hc.1 hn hf hc.2.1 hc.2.2.1 hc.2.2.2.1 hc.2.2.2.2 hs hx
       ·cases e
   ·cases e
 ·cases e
theorem arr2 {α : Type} {a : Array α} {x y : α} (h : a.toList = [x, y]) : a = #[x, y] := by apply Array.ext'; simpa using h
theorem arr1 {α : Type} {a : Array α} {x : α} (h : a.toList = [x]) : a = #[x] := by apply Array.ext'; simpa using h
theorem wop_ok {g : List AV} (hk : h.ok) (op : Op) {v : AV} {h' : HP} (e : wop P g h op = some (v, h')) : (h'.ok ∧ h.n ≤ h'.n) ∧ OpSem P g h.L op v h'.L := by
 unfold wop at e
 split at e
 case h_2 => cases e
 rename_i b args ats
 unfold zBuiltin at e
 split at e
 ·rename_i s x ha
  obtain rfl := arr2 ha
  rw [evF_eq, evF_eq, nthO_eq, nthO_eq] at e
  unfold zApp0 at e
  split at e
  ·rename_i t u ht hu
   refine ⟨zApp_keep hk e, fun I m w a o ho hr hx => ?_⟩
   refine OpS.of_sok (zApp_ok (ty := o.type) hk hr e (hx s (by simp [Op.operands, Call.operands])) (hx x (by simp [Op.operands, Call.operands]))) ?_
   have hats : Builtin.append_ ats o.type #[a.eval s, a.eval x] = Builtin.append_ #[t, u] o.type #[a.eval s, a.eval x] := by
    rw [Array.getElem?_toList] at ht hu
    unfold Builtin.append_
    simp [ht, hu]
   simp [execOp, ho, resolve, invoke, builtin, hats]
  ·cases e
 ·rename_i s x ha
  obtain rfl := arr2 ha
  rw [evF_eq, evF_eq, nthO_eq, nthO_eq] at e
  unfold zCopy0 at e
  split at e
  ·rename_i t u ht hu
   refine ⟨(zCopy_ok (u := u) (ty := 0) hk e).1, fun I m w a o ho hr hx => ?_⟩
   refine OpS.of_sok ((zCopy_ok (u := u) (ty := o.type) hk e).2 hr (hx s (by simp [Op.operands, Call.operands])) (hx x (by simp [Op.operands, Call.operands]))) ?_
   have hats : Builtin.copy_ ats o.type #[a.eval s, a.eval x] = Builtin.copy_ #[t, u] o.type #[a.eval s, a.eval x] := by
    rw [Array.getElem?_toList] at ht hu
    unfold Builtin.copy_
    simp [ht, hu]
   simp [execOp, ho, resolve, invoke, builtin, hats]
  ·cases e
 ·rename_i s ha
  obtain rfl := arr1 ha
  rw [evF_eq, nthO_eq] at e
  unfold zCap0 at e
  split at e
  ·rename_i t ht
   unfold zCap at e
   split at e
   ·rename_i n c hs
    split at e
    ·rename_i ed _ _ _ hd
     cases e
     refine ⟨⟨hk, Nat.le_refl _⟩, fun I m w a o ho hr hx => ?_⟩
     have hv := hx s (by simp [Op.operands, Call.operands])
     rw [hs] at hv
     simp only [VR] at hv
     rw [Array.getElem?_toList] at ht
     refine OpS.of_value hr (y := .int .i64 (c : Nat)) (by simp only [VR]) ?_
     simp [execOp, ho, resolve, invoke, builtin, Builtin.cap_, ht, hv, run_underlying' hd, goInt]
    ·cases e
   ·cases e
  ·cases e
 ·cases e
end
noncomputable def orW (P : Program) (g : List AV) (h : HP) (op : Op) : OR2 → OR2
 | some r => some r
 | none => wop P g h op
noncomputable def uop (P : Program) (g : List AV) (h : HP) (op : Op) : OR2 := orW P g h op (zop P g h op)
theorem uop_ok {P : Program} {g : List AV} {h : HP} (hk : h.ok) (op : Op) {v : AV} {h' : HP} (e : uop P g h op = some (v, h')) : (h'.ok ∧ h.n ≤ h'.n) ∧ OpSem P g h.L op v h'.L := by
 unfold uop at e
 cases hx : zop P g h op with
 | some r => rw [hx] at e; cases e; exact zop_ok hk op hx
 | none => rw [hx] at e; exact wop_ok hk op e
end Go.Abs
namespace Go.Abs
open Go
section
variable {P : Program} {I : Nat → Prop} {m : List Loc} {H : List AO} {w : World}
theorem HR.newTC (hr : HR I m H w) {t : TypeId} {cs : List AV} {xs : List Value} (hv : VRs I m w cs xs) (h1 : cs.all (·.one) = true) {arr : Array Value} {rest : List Value} (harr : arr.toList = xs ++ rest) (h0 : arr.size ≠ 0) (hbt : t = bty → arr.size = 2)
 {w' : World} (hw : w'.heap = w.heap.push (.cells arr t (0, 0))) (hos : w'.os = w.os) (htp : w'.tape = w.tape) (hout : w'.output = w.output) :
 HR I (m ++ [⟨w.heap.size, 0, 1, arr.size⟩]) (H ++ [.tc t cs]) w' ∧ Ext I m (Own H m) w I (m ++ [⟨w.heap.size, 0, 1, arr.size⟩]) (Own (H ++ [.tc t cs]) (m ++ [⟨w.heap.size, 0, 1, arr.size⟩])) w' := by
 have hl : arr.size = xs.length + rest.length := by rw [← Array.length_toList, harr, List.length_append]
 refine hr.alloc rfl hw hos htp hout ?_
 simp only [OR]
 refine ⟨⟨trivial, h0, trivial, by rw [← hv.len]; omega⟩, arr, ⟨by rw [hw]; simp, rfl, hbt⟩, fun i x hx => ?_⟩
 obtain ⟨y, h2, h3⟩ := hv.get i x hx
 have hlt : i < xs.length := (List.getElem?_eq_some_iff.1 h2).1
 refine ⟨y, ?_, VR.mono (fun _ h => h) (fun b hb => by rw [hw, Array.getElem?_push, if_neg (by have := hr.ilt b hb; omega)]) x y h3, List.all_eq_true.1 h1 x (List.mem_of_getElem? hx)⟩
 rw [← Array.getElem?_toList, harr, List.getElem?_append_left hlt]
 exact h2
theorem OpSem.allocTC {g : List AV} {t : TypeId} {i : TI} (hi : ti P t = some i) (h0 : i.size = 2) : OpSem P g H (.alloc t) (.pt H.length 0) (H ++ [.tc t (i.zero.map .v)]) := fun I m w ac o hop hr hx => by
 obtain ⟨z, hz0, hz1, hz2⟩ := run_zeroValue' (P := P) (w := w) hi
 have hl := hr.len
 obtain ⟨h2, h3⟩ := hr.newTC (w' := { w with heap := w.heap.push (.cells z.cells t) }) (VRs.map_v i.zero) (map_v_one (ti_zero_one hi)) (rest := []) (arr := z.cells) (by simp [hz1]) (by omega) (fun _ => by omega) rfl rfl rfl rfl
 have hs : SOK P I m H w (Instr.alloc t true (.tuple #[])) (.pt H.length 0) (H ++ [.tc t (i.zero.map .v)]) := by
  refine ⟨.pointer (some ⟨w.heap.size, 0, none⟩), _, _, by simp [Instr.alloc, hz0, newVar, newRow], ?_, h2, h3⟩
  simp only [VR]; exact ⟨_, by rw [← hl]; exact last_lk _ (by simp), rfl⟩
 exact OpS.of_sok hs (by simp [execOp, hop])
end
noncomputable def vAlloc2 (h : HP) (t : TypeId) : Option TI → OR2
 | some i => match Nat.beq i.size 2 with
  | true => some (.pt h.n 0, rNew h (.tc t (i.zero.map .v)))
  | false => none
 | none => none
noncomputable def vAlloc (P : Program) (h : HP) (t : TypeId) : Bool → OR2 → OR2
 | true, _ => vAlloc2 h t (ti P t)
 | false, r => r
theorem vAlloc2_ok {P : Program} {g : List AV} {h : HP} (hk : h.ok) {t : TypeId} {v : AV} {h' : HP} (e : vAlloc2 h t (ti P t) = some (v, h')) : (h'.ok ∧ h.n ≤ h'.n) ∧ OpSem P g h.L (.alloc t) v h'.L := by
 cases hi : ti P t with
 | none => rw [hi] at e; cases e
 | some i =>
  rw [hi] at e
  simp only [vAlloc2] at e
  cases hb : Nat.beq i.size 2
  ·rw [hb] at e; cases e
  ·rw [hb] at e
   cases e
   have h2 := Nat.eq_of_beq_eq_true hb
   refine ⟨⟨rNew_ok hk _, Nat.le_succ _⟩, ?_⟩
   have := OpSem.allocTC (g := g) (H := h.L) hi h2
   rw [HP.len hk] at this
   rw [rNew_eq]
   exact this
end Go.Abs
namespace Go.Abs
open Go
section
variable {P : Program} {H : List AO}
theorem VS_ice {k : Nat} {g : List AV} (id : Nat) {sz : Nat} {cs : List AV} (ho : H[id]? = some (.cells sz cs)) : VS k g H g (H.set id (.ice sz cs)) := by
 intro I m w xs hr hv
 have hlt : id < H.length := (List.getElem?_eq_some_iff.1 ho).1
 have hm : m[id]? = some (m[id]'(by rw [hr.len]; exact hlt)) := List.getElem?_eq_getElem _
 generalize m[id]'(by rw [hr.len]; exact hlt) = L at hm
 let I2 : Nat → Prop := fun b => I b ∨ (L.cap ≠ 0 ∧ b = L.b)
 have old : ∀ (j : Nat) oj, (H.set id (.ice sz cs))[j]? = some oj → oj.alive = true → j ≠ id ∧ H[j]? = some oj := fun j oj h ha => by
  by_cases hj : j = id
  ·subst hj
   rw [List.getElem?_set_self hlt] at h
   injection h with h; subst h; cases ha
  ·exact ⟨hj, by rwa [List.getElem?_set_ne (Ne.symm hj)] at h⟩
 have own : ∀ b, Own (H.set id (.ice sz cs)) m b → Own H m b := fun b ⟨j, oj, Lj, h1, h2, h3⟩ => ⟨j, oj, Lj, (old j oj h1 h2).2, h2, h3⟩
 have mono : ∀ v y, VR I m w v y → VR I2 m w v y := fun v y k => by
  have := VR.mono (I' := I2) (nu := []) (w' := w) (fun _ h => .inl h) (fun _ _ => rfl) v y k
  simpa using this
 have hr2 : HR I2 m (H.set id (.ice sz cs)) w := ⟨by simp [hr.len], fun j oj Lj h1 h2 => by
  by_cases hj : j = id
  ·subst hj
   rw [List.getElem?_set_self hlt] at h1
   injection h1 with h1; subst h1
   rw [hm] at h2; injection h2 with h2; subst h2
   obtain ⟨q1, q2, q3⟩ := hr.ob j _ L ho hm
   refine ⟨q1, q2, fun hc => ⟨.inr ⟨hc, rfl⟩, CR.of_get fun i c hci => ?_⟩⟩
   obtain ⟨y, q4, q5⟩ := hr.cellOf (.inl ho) hm hci
   exact ⟨y, q4, mono c y q5⟩
  ·rw [List.getElem?_set_ne (Ne.symm hj)] at h1
   have := OR.mono (I' := I2) (nu := []) (w' := w) (fun _ h => .inl h) (fun _ _ => rfl) (fun _ _ => rfl) (hr.ob j oj Lj h1 h2)
   simpa using this,
  fun i j oi oj Li Lj hij hi hj ai aj => hr.inj i j oi oj Li Lj hij (old i oi hi ai).2 (old j oj hj aj).2 ai aj,
  fun b hb hO => by
   rcases hb with hb | ⟨hc, rfl⟩
   ·exact hr.imm b hb (own b hO)
   ·obtain ⟨j, oj, Lj, h1, h2, h3, h4, h5⟩ := hO
    obtain ⟨hj, h1'⟩ := old j oj h1 h2
    exact hr.inj j id oj _ Lj L hj h1' ho h2 rfl h3 hm h4 hc h5,
  fun b hb => by
   rcases hb with hb | ⟨hc, rfl⟩
   ·exact hr.ilt b hb
   ·exact hr.lt ho rfl hm hc, hr.gl.on (fun _ h => .inl h) fun _ _ => rfl⟩
 refine ⟨I2, m, hr2, ?_, fun _ h => .inl h, fun b hb => ?_, own, Kp.refl k m⟩
 ·have := VRs.mono (I' := I2) (nu := []) (w' := w) (fun _ h => .inl h) (fun _ _ => rfl) g _ hv
  simpa using this
 ·rcases hb with hb | ⟨hc, rfl⟩
  ·exact .inl hb
  ·exact .inr ⟨id, _, L, ho, rfl, hm, hc, rfl⟩
end
def iceCut (sz : Nat) (cs : List AV) (off l u : Nat) : AV := if l = u then .im 0 [] else .im (u - l) ((cs.drop (off + l * sz)).take ((u - l) * sz))
noncomputable def s3Go (h : HP) (tsz : Nat) (x : AV) (l u : Nat) : Option AV := match x with
 | .sl id off len => match rGet h id with
  | some (.ice sz cs) => if tsz = sz ∧ l ≤ u ∧ u ≤ len then some (iceCut sz cs off l u) else none
  | _ => none
 | _ => none
def natOf : Option AV → Option Nat
 | none => some 0
 | some (.v (.int _ (.ofNat n))) => some n
 | _ => none
noncomputable def s3Do (P : Program) (h : HP) (t : TypeId) (x : AV) (lo : Option AV) (hi : Option AV) (mx : AV) : Option AV := match ti P t with
 | some ⟨.slice e, _, _, _⟩ => match ti P e, natOf lo, hi, mx with
  | some te, some l, some (.v (.int _ (.ofNat u))), .v (.int _ (.ofNat u2)) => if u = u2 then s3Go h te.size x l u else none
  | _, _, _, _ => none
 | _ => none
noncomputable def s3Op (P : Program) (g : List AV) (h : HP) : Op → OR2
 | .slice t x lo hi (some mx) => match s3Do P h t (evF g x) (lo.map (evF g)) (hi.map (evF g)) (evF g mx) with
  | some v => some (v, h)
  | none => none
 | _ => none
theorem s3Op_ok {P : Program} {g : List AV} {h : HP} (hk : h.ok) (op : Op) {v : AV} {h' : HP} (e : s3Op P g h op = some (v, h')) : (h'.ok ∧ h.n ≤ h'.n) ∧ OpSem P g h.L op v h'.L := by
 unfold s3Op at e
 split at e
 case h_2 => cases e
 rename_i t x lo hi mx
 split at e
 case h_2 => cases e
 rename_i v' hs
 cases e
 refine ⟨⟨hk, Nat.le_refl _⟩, fun I m w a o ho hr hx => ?_⟩
 unfold s3Do at hs
 split at hs
 case h_2 => cases hs
 rename_i ed b1 b2 z hd
 split at hs
 case h_2 => cases hs
 rename_i te l k1 u k2 u2 hte hlo hhi hmx
 split at hs
 case isFalse => cases hs
 rename_i hu
 subst hu
 unfold s3Go at hs
 split at hs
 case h_2 => cases hs
 rename_i id off len hxx
 split at hs
 case h_2 => cases hs
 rename_i sz cs hg
 split at hs
 case isFalse => cases hs
 rename_i hc
 obtain ⟨rfl, hlu, hul⟩ := hc
 injection hs with hs
 subst hs
 rw [rGet_eq hk] at hg
 rw [evF_eq] at hxx hmx
 have hvx := hx x (by simp [Op.operands])
 have hvm := hx mx (by simp [Op.operands])
 rw [hxx] at hvx
 rw [hmx] at hvm
 simp only [VR] at hvx hvm
 obtain ⟨L, A, c, h1, h2, h3, h4, hy⟩ := hvx
 have hm1 := (lk_get h1).1
 have hob := hr.ob id _ L hg hm1
 simp only [OR] at hob
 obtain ⟨q1, q2, q3⟩ := hob
 have hhi' : ∃ y, hi = some y ∧ a.eval y = .int k1 (Int.ofNat u) := by
  cases hi with
  | none => simp at hhi
  | some y =>
   simp only [Option.map_some, Option.some.injEq, evF_eq] at hhi
   have := hx y (by simp [Op.operands])
   rw [hhi] at this
   exact ⟨y, rfl, by simpa only [VR] using this⟩
 obtain ⟨yh, rfl, hyh⟩ := hhi'
 have hlo' : (lo = none ∧ l = 0) ∨ ∃ y k, lo = some y ∧ a.eval y = .int k (Int.ofNat l) := by
  cases lo with
  | none => simp only [Option.map_none, natOf, Option.some.injEq] at hlo; exact .inl ⟨rfl, hlo.symm⟩
  | some y =>
   simp only [Option.map_some, evF_eq] at hlo
   have hv := hx y (by simp [Op.operands])
   unfold natOf at hlo
   split at hlo
   ·rename_i hh; cases hh
   ·rename_i k n hh
    injection hh with hh
    injection hlo with hlo
    subst hlo
    rw [hh] at hv
    exact .inr ⟨y, k, rfl, by simpa only [VR] using hv⟩
   ·cases hlo
 have b0 : ∀ (k : IntKind) (i : Nat) (y : Nat) (cd : BoundsCode), i ≤ y → (Instr.sliceBound (.int k (i : Int)) y cd).run P w = .ok i w := fun k i y cd hi => by
  have := run_sliceBound (P := P) (w := w) (k := k) (i := (i : Int)) (y := y) (c := cd) ⟨Int.natCast_nonneg _, by omega⟩
  simpa using this
 have run : (Instr.sliceAt t (.slice A len c) (lo.map a.eval) (some (.int k1 (Int.ofNat u))) (some (.int k2 (Int.ofNat u)))).run P w = .ok (.slice (if u = l then A else A.map (·.add (l * te.size))) (u - l) (u - l)) w := by
  rcases hlo' with ⟨rfl, rfl⟩ | ⟨y, k, rfl, hy2⟩
  ·simp [Instr.sliceAt, run_underlying' hd, Instr.slice, run_sizeOf' hte, Instr.sliceBounds, b0 k2 u c _ (by omega), b0 k1 u u _ (Nat.le_refl _)]
  ·simp [Instr.sliceAt, run_underlying' hd, Instr.slice, run_sizeOf' hte, Instr.sliceBounds, hy2, b0 k2 u c _ (by omega), b0 k1 u u _ (Nat.le_refl _), b0 k l u _ hlu]
 refine OpS.of_value hr (y := .slice (if u = l then A else A.map (·.add (l * te.size))) (u - l) (u - l)) ?_ (by
  have e1 : o.op = .slice t x lo (some yh) (some mx) := ho
  have e2 : (Instr.sliceAt t (.slice A len c) (lo.map a.eval) (some (.int k1 (u : Int))) (some (.int k2 (u : Int)))).run P w = .ok (.slice (if u = l then A else A.map (·.add (l * te.size))) (u - l) (u - l)) w := run
  have e3 : a.eval yh = .int k1 (u : Int) := hyh
  have e4 : a.eval mx = .int k2 (u : Int) := hvm
  simp only [execOp, e1, hy, Option.map_some, e3, e4, Sem.run_bind, e2, Result.andThen_ok]
  rfl)
 unfold iceCut
 by_cases he : l = u
 ·subst he
  rw [if_pos rfl, if_pos rfl]
  simp only [VR]
  exact ⟨A, l - l, by simp, by omega, by simp⟩
 ·rw [if_neg he, if_neg (fun e => he e.symm)]
  simp only [VR]
  have hc0 : c ≠ 0 := by omega
  have hA := h4.resolve_left hc0
  subst hA
  refine ⟨_, u - l, rfl, Nat.le_refl _, .inr ⟨L.b, L.o + off + l * te.size, ?_, ?_, ?_⟩⟩
  ·simp only [Option.map_some, add_none]
  ·by_cases hz : L.cap = 0
   ·exfalso
    have h8 : (lk m id).isSome = true := by rw [h1]; rfl
    rw [hz] at h2
    have hsz : L.sz ≠ 0 := by
     intro h0
     exact absurd h0 (lk_get h1).2
    have : c * L.sz = 0 := by omega
    rcases Nat.mul_eq_zero.1 this with q | q
    ·exact hc0 q
    ·exact hsz q
   ·exact (q3 hz).1
  ·by_cases hz : L.cap = 0
   ·have : cs = [] := List.eq_nil_of_length_eq_zero (by omega)
    subst this
    simp only [List.drop_nil, List.take_nil, CR]
   ·have hcr := (q3 hz).2
    refine CR.of_get fun i cc hci => ?_
    have hlt : i < (u - l) * te.size := by
     have := (List.getElem?_eq_some_iff.1 hci).1
     rw [List.length_take] at this
     omega
    rw [List.getElem?_take_of_lt hlt, List.getElem?_drop] at hci
    obtain ⟨y, r1, r2⟩ := hcr.get _ _ hci
    exact ⟨y, by rw [show L.o + off + l * te.size + i = L.o + (off + l * te.size + i) by omega]; exact r1, r2⟩
end Go.Abs
namespace Go.Abs
open Go
abbrev CT := FuncId → List AV → HP → OR2
def CTok (P : Program) (call : CT) : Prop := ∀ n args h v h', h.ok → call n args h = some (v, h') → (h'.ok ∧ h.n ≤ h'.n) ∧ ACall P n args h.L (fun v1 H1 => v1 = v ∧ H1 = h'.L)
def cCallV (call : CT) (h : HP) (args : List AV) : AV → OR2
 | .fn (.func n) first cap => call n (first ++ args ++ cap) h
 | _ => none
noncomputable def orS (P : Program) (g : List AV) (h : HP) (op : Op) : OR2 → OR2
 | some r => some r
 | none => s3Op P g h op
noncomputable def orX (P : Program) (g : List AV) (h : HP) (op : Op) : OR2 → OR2
 | some r => some r
 | none => orS P g h op (uop P g h op)
noncomputable def cCall (P : Program) (call : CT) (g : List AV) (h : HP) (c : Call) : OR2 := match c.callee with
 | .value f => cCallV call h (c.args.toList.map (evF g)) (evF g f)
 | _ => orX P g h (.call c) (fop P g h (.call c))
noncomputable def cExec (P : Program) (call : CT) (g : List AV) (h : HP) : Op → OR2
 | .call c => cCall P call g h c
 | .alloc t => vAlloc P h t (Nat.beq t bty) (orX P g h (.alloc t) (fop P g h (.alloc t)))
 | op => orX P g h op (fop P g h op)
def gB (want : Bool) : Option AV → Option Bool
 | some (.v (.bool b)) => some (b == want)
 | some (.v (.tuple _)) => some false
 | _ => none
noncomputable def gT (g : List AV) (want : Bool) : Option Tmp → Option Bool
 | some d => gB want (nthO g d)
 | none => none
noncomputable def gD (g : List AV) (want : Bool) : Option Oper → Option Bool
 | some o => gT g want o.dst
 | none => none
noncomputable def gWant (ops : List Oper) (g : List AV) : Option (Nat × Bool) → Option Bool
 | none => some true
 | some (j, want) => gD g want (nthO ops j)
noncomputable def cStep (P : Program) (call : CT) (g : List AV) (h : HP) (op : Op) : Option Bool → OR2
 | some true => cExec P call g h op
 | some false => some (.v undef, h)
 | none => none
def cNext (ih : List AV → HP → Option (List AV × HP)) (put : AV → List AV) : OR2 → Option (List AV × HP)
 | some (v, h') => ih (put v) h'
 | none => none
noncomputable def cOps (P : Program) (call : CT) (ops : List Oper) (l : List Oper) : List AV → HP → Option (List AV × HP) :=
 List.rec (motive := fun _ => List AV → HP → Option (List AV × HP)) (fun g h => some (g, h))
  (fun o _ ih g h => cNext ih (fun v => putF g v o.dst) (cStep P call g h o.op (gWant ops g o.guard))) l
section
variable {P : Program} {call : CT}
theorem gWant_eq (ops : Array Oper) (g : List AV) (o : Oper) : gWant ops.toList g o.guard = wantA ops g o := by
 unfold gWant wantA
 cases o.guard with
 | none => rfl
 | some jw =>
  obtain ⟨j, want⟩ := jw
  simp only [nthO_eq, Array.getElem?_toList]
  cases ops[j]? with
  | none => rfl
  | some o2 =>
   simp only [gD, Option.bind_some]
   cases o2.dst with
   | none => rfl
   | some d =>
    simp only [gT, nthO_eq]
    cases g[d]? with
    | none => rfl
    | some v =>
     cases v with
     | v y => cases y <;> rfl
     | _ => rfl
theorem cExec_ok (hc : CTok P call) {o : Oper} {g : List AV} {h : HP} (hk : h.ok) {v : AV} {h' : HP} (e : cExec P call g h o.op = some (v, h')) : (h'.ok ∧ h.n ≤ h'.n) ∧ AExecR P o g h.L (fun v1 H1 => v1 = v ∧ H1 = h'.L) := by
 unfold AExecR
 split
 ·rename_i f args ats hop
  rw [hop] at e
  simp only [cExec, cCall, evF_fun] at e
  generalize ev g f = x at *
  cases x <;> first | (cases e; done) | skip
  rename_i fn first cap
  cases fn <;> first | (cases e; done) | skip
  exact hc _ _ _ _ _ hk e
 ·rename_i op hno
  have e2 : orX P g h o.op (fop P g h o.op) = some (v, h') ∨ ∃ t, o.op = .alloc t ∧ vAlloc2 h t (ti P t) = some (v, h') := by
   generalize o.op = op at *
   cases op <;> first | exact .inl e | skip
   ·rename_i t
    simp only [cExec] at e
    cases hb : Nat.beq t bty
    ·rw [hb] at e; exact .inl e
    ·rw [hb] at e; exact .inr ⟨t, rfl, e⟩
   ·rename_i c
    obtain ⟨f, args, ats⟩ := c
    cases f <;> first | exact .inl e | exact (hno _ _ _ rfl).elim
  rcases e2 with e2 | ⟨t, hop, e2⟩
  case inr =>
   obtain ⟨q1, q2⟩ := vAlloc2_ok (g := g) hk e2
   exact ⟨q1, .inr ⟨v, _, by rw [hop]; exact q2, rfl, rfl⟩⟩
  cases hf : fop P g h o.op with
  | some r =>
   rw [hf] at e2
   cases e2
   obtain ⟨h1, h2⟩ := fop_ok hk _ hf
   exact ⟨h2, .inl ⟨v, _, h1, rfl, rfl⟩⟩
  | none =>
   rw [hf] at e2
   simp only [orX] at e2
   cases hu : uop P g h o.op with
   | some r =>
    rw [hu] at e2
    cases e2
    obtain ⟨h1, h2⟩ := uop_ok hk _ hu
    exact ⟨h1, .inr ⟨v, _, h2, rfl, rfl⟩⟩
   | none =>
    rw [hu] at e2
    obtain ⟨h1, h2⟩ := s3Op_ok hk _ e2
    exact ⟨h1, .inr ⟨v, _, h2, rfl, rfl⟩⟩
theorem cStep_ok (hc : CTok P call) {ops : Array Oper} {o : Oper} {g : List AV} {h : HP} (hk : h.ok) {v : AV} {h' : HP} (e : cStep P call g h o.op (gWant ops.toList g o.guard) = some (v, h')) : (h'.ok ∧ h.n ≤ h'.n) ∧ AOpR P ops o g h.L (fun v1 H1 => v1 = v ∧ H1 = h'.L) := by
 unfold AOpR
 rw [gWant_eq] at e
 cases hw : wantA ops g o with
 | none => rw [hw] at e; cases e
 | some b =>
  rw [hw] at e
  cases b
  ·cases e; exact ⟨⟨hk, Nat.le_refl _⟩, rfl, rfl⟩
  ·exact cExec_ok hc hk e
theorem cOps_ok (hc : CTok P call) {ops : Array Oper} : ∀ (l : List Oper) {g : List AV} {h : HP} {g' : List AV} {h' : HP}, h.ok → cOps P call ops.toList l g h = some (g', h') → (h'.ok ∧ h.n ≤ h'.n) ∧ AOps P ops (fun g1 H1 => g1 = g' ∧ H1 = h'.L) l g h.L
 | [], g, h, g', h', hk, e => by cases e; exact ⟨⟨hk, Nat.le_refl _⟩, rfl, rfl⟩
 | o :: os, g, h, g', h', hk, e => by
  have e1 : cNext (cOps P call ops.toList os) (fun v => putF g v o.dst) (cStep P call g h o.op (gWant ops.toList g o.guard)) = some (g', h') := e
  simp only [AOps, AOp]
  cases hs : cStep P call g h o.op (gWant ops.toList g o.guard) with
  | none => rw [hs] at e1; cases e1
  | some r =>
   obtain ⟨v, h1⟩ := r
   rw [hs] at e1
   obtain ⟨⟨k1, l1⟩, k2⟩ := cStep_ok hc hk hs
   obtain ⟨⟨k3, l3⟩, k4⟩ := cOps_ok hc os k1 e1
   refine ⟨⟨k3, Nat.le_trans l1 l3⟩, k2.mono ?_⟩
   rintro v' H' ⟨rfl, rfl⟩
   rw [← putF_eq]
   exact k4
end
theorem AOps.imp {P : Program} {ops : Array Oper} {K K' : List AV → List AO → Prop} (hk : ∀ g H, K g H → K' g H) : ∀ (l : List Oper) {g : List AV} {H : List AO}, AOps P ops K l g H → AOps P ops K' l g H
 | [], g, H, h => hk _ _ h
 | o :: os, g, H, h => by
  simp only [AOps, AOp] at h ⊢
  exact h.mono fun v H' k => AOps.imp hk os k
abbrev KR := Option (Exit × List AV × HP)
def cThen (k : List AV → HP → KR) : KR → KR
 | some (.normal, g', h') => k g' h'
 | r => r
def cCond (a b : KR) : AV → KR
 | .v (.bool true) => a
 | .v (.bool false) => b
 | _ => none
def cBlk (i : Nat) : KR → KR
 | some (.exit j, g', h') => match Nat.beq j i with
  | true => some (.normal, g', h')
  | false => some (.exit j, g', h')
 | r => r
def cReg : Option (List AV × HP) → KR
 | some (g', h') => some (.normal, g', h')
 | none => none
abbrev DT := Array Oper → List AV → HP → Option (List AV × HP)
def DTok (P : Program) (dr : DT) : Prop := ∀ ops g h g' h', h.ok → dr ops g h = some (g', h') → (h'.ok ∧ h.n ≤ h'.n) ∧ ∀ (_ : DSt) k id, k ≤ h.n → BW P k (.region id ops true) (fun e1 g1 H1 => e1 = .normal ∧ g1 = g' ∧ H1 = h'.L) g h.L
noncomputable def cCode (P : Program) (call : CT) (dr : DT) (ih : Code → List AV → HP → KR) (g : List AV) (h : HP) : Code → KR
 | .skip => some (.normal, g, h)
 | .ret => some (.ret, g, h)
 | .exit i => some (.exit i, g, h)
 | .seq a b => cThen (ih b) (ih a g h)
 | .cond x a b => cCond (ih a g h) (ih b g h) (evF g x)
 | .block i b => cBlk i (ih b g h)
 | .loop b => cThen (ih (.loop b)) (ih b g h)
 | .region _ ops false => cReg (cOps P call ops.toList ops.toList g h)
 | .region _ ops true => cReg (dr ops g h)
 | _ => none
noncomputable def cC (P : Program) (call : CT) (dr : DT) (n : Nat) : Code → List AV → HP → KR :=
 Nat.rec (motive := fun _ => Code → List AV → HP → KR) (fun _ _ _ => none) (fun _ ih c g h => cCode P call dr ih g h c) n
section
variable {P : Program} {call : CT} {dr : DT}
def PostC (e : Exit) (g : List AV) (H : List AO) : Exit → List AV → List AO → Prop := fun e1 g1 H1 => e1 = e ∧ g1 = g ∧ H1 = H
theorem cC_ok [DSt] (hc : CTok P call) (hd : DTok P dr) : ∀ (n k : Nat) (c : Code) {g : List AV} {h : HP} {e : Exit} {g' : List AV} {h' : HP}, h.ok → k ≤ h.n → cC P call dr n c g h = some (e, g', h') → (h'.ok ∧ h.n ≤ h'.n) ∧ BW P k c (PostC e g' h'.L) g h.L
 | 0, k, c, g, h, e, g', h', hk, hn, he => by cases he
 | n + 1, k, c, g, h, e, g', h', hk, hn, he => by
  have he : cCode P call dr (cC P call dr n) g h c = some (e, g', h') := he
  have ih := @cC_ok _ hc hd n k
  have one : ∀ (e1 : Exit) (g1 : List AV) (h1 : HP) (Q : Exit → List AV → List AO → Prop), (some (e1, g1, h1) : KR) = some (e, g', h') → e = e1 ∧ g' = g1 ∧ h' = h1 := fun e1 g1 h1 Q q => by cases q; exact ⟨rfl, rfl, rfl⟩
  cases c with
  | skip => cases he; exact ⟨⟨hk, Nat.le_refl _⟩, BW.of_AW (AW_skip ⟨rfl, rfl, rfl⟩)⟩
  | ret => cases he; exact ⟨⟨hk, Nat.le_refl _⟩, BW.of_AW (AW_ret ⟨rfl, rfl, rfl⟩)⟩
  | exit i => cases he; exact ⟨⟨hk, Nat.le_refl _⟩, BW.of_AW (AW_exit ⟨rfl, rfl, rfl⟩)⟩
  | seq a b =>
   simp only [cCode] at he
   cases ha : cC P call dr n a g h with
   | none => rw [ha] at he; cases he
   | some r =>
    obtain ⟨e1, g1, h1⟩ := r
    rw [ha] at he
    obtain ⟨⟨k1, l1⟩, b1⟩ := ih a hk hn ha
    by_cases hx : e1 = .normal
    ·subst hx
     obtain ⟨⟨k2, l2⟩, b2⟩ := ih b k1 (Nat.le_trans hn l1) he
     refine ⟨⟨k2, Nat.le_trans l1 l2⟩, BW_seq (b1.mono ?_)⟩
     rintro _ _ _ ⟨rfl, rfl, rfl⟩
     exact b2
    ·have hq : (some (e1, g1, h1) : KR) = some (e, g', h') := by cases e1 <;> first | exact he | exact absurd rfl hx
     cases hq
     refine ⟨⟨k1, l1⟩, BW_seq (b1.mono ?_)⟩
     rintro ex _ _ ⟨rfl, rfl, rfl⟩
     cases ex <;> first | exact ⟨rfl, rfl, rfl⟩ | exact absurd rfl hx
  | cond x a b =>
   simp only [cCode, evF_eq] at he
   generalize hv : ev g x = v at he
   cases v <;> first | (cases he; done) | skip
   rename_i y
   cases y <;> first | (cases he; done) | skip
   rename_i t
   cases t
   ·obtain ⟨k1, b1⟩ := ih b hk hn he
    exact ⟨k1, BW_cond hv b1⟩
   ·obtain ⟨k1, b1⟩ := ih a hk hn he
    exact ⟨k1, BW_cond hv b1⟩
  | block i b =>
   simp only [cCode] at he
   cases hb : cC P call dr n b g h with
   | none => rw [hb] at he; cases he
   | some r =>
    obtain ⟨e1, g1, h1⟩ := r
    rw [hb] at he
    obtain ⟨k1, b1⟩ := ih b hk hn hb
    refine ⟨?_, BW_block (b1.mono ?_)⟩
    ·cases e1 <;> first | (cases he; exact k1) | skip
     simp only [cBlk] at he
     split at he <;> (cases he; exact k1)
    ·rintro ex _ _ ⟨rfl, rfl, rfl⟩
     cases ex <;> first | (cases he; exact ⟨rfl, rfl, rfl⟩) | skip
     rename_i j
     simp only [cBlk] at he
     simp only [blockA]
     cases hj : Nat.beq j i
     ·rw [hj] at he
      rw [if_neg (by intro q; subst q; simp at hj)]
      cases he; exact ⟨rfl, rfl, rfl⟩
     ·rw [hj] at he
      rw [if_pos (Nat.eq_of_beq_eq_true hj)]
      cases he; exact ⟨rfl, rfl, rfl⟩
  | loop b =>
   have key : ∀ (j : Nat), j ≤ n + 1 → ∀ {g : List AV} {h : HP}, h.ok → k ≤ h.n → cC P call dr j (.loop b) g h = some (e, g', h') → h'.ok ∧ h.n ≤ h'.n := by
    intro j
    induction j with
    | zero => intro _ _ _ _ _ q; cases q
    | succ j ihj =>
     intro hj g h hk hn q
     have q : cThen (cC P call dr j (.loop b)) (cC P call dr j b g h) = some (e, g', h') := q
     cases hb : cC P call dr j b g h with
     | none => rw [hb] at q; cases q
     | some r =>
      obtain ⟨e1, g1, h1⟩ := r
      rw [hb] at q
      obtain ⟨⟨k1, l1⟩, _⟩ := @cC_ok _ hc hd j k b g h e1 g1 h1 hk hn hb
      by_cases hx : e1 = .normal
      ·subst hx
       obtain ⟨k2, l2⟩ := ihj (by omega) k1 (Nat.le_trans hn l1) q
       exact ⟨k2, Nat.le_trans l1 l2⟩
      ·have hq : (some (e1, g1, h1) : KR) = some (e, g', h') := by cases e1 <;> first | exact q | exact absurd rfl hx
       cases hq
       exact ⟨k1, l1⟩
   have he0 : cC P call dr (n + 1) (.loop b) g h = some (e, g', h') := he
   refine ⟨key (n + 1) (Nat.le_refl _) hk hn he0, ?_⟩
   refine BW_loop (fun j g1 H1 => ∃ h1 : HP, h1.ok ∧ k ≤ h1.n ∧ H1 = h1.L ∧ j ≤ n + 1 ∧ cC P call dr j (.loop b) g1 h1 = some (e, g', h')) (n + 1) ⟨h, hk, hn, rfl, Nat.le_refl _, he0⟩ ?_
   rintro j g1 _ ⟨h1, k1, n1, rfl, hj, q⟩
   cases j with
   | zero => cases q
   | succ j =>
    have q : cThen (cC P call dr j (.loop b)) (cC P call dr j b g1 h1) = some (e, g', h') := q
    cases hb : cC P call dr j b g1 h1 with
    | none => rw [hb] at q; cases q
    | some r =>
     obtain ⟨e1, g2, h2⟩ := r
     rw [hb] at q
     obtain ⟨⟨k2, l2⟩, b2⟩ := @cC_ok _ hc hd j k b g1 h1 e1 g2 h2 k1 n1 hb
     by_cases hx : e1 = .normal
     ·subst hx
      refine b2.mono ?_
      rintro _ _ _ ⟨rfl, rfl, rfl⟩
      exact ⟨j, _, _, Nat.lt_succ_self _, ⟨h2, k2, Nat.le_trans n1 l2, rfl, by omega, q⟩, VS.refl _ _ _⟩
     ·have hq : (some (e1, g2, h2) : KR) = some (e, g', h') := by cases e1 <;> first | exact q | exact absurd rfl hx
      cases hq
      refine b2.mono ?_
      rintro ex _ _ ⟨rfl, rfl, rfl⟩
      cases ex <;> first | exact ⟨rfl, rfl, rfl⟩ | exact absurd rfl hx
  | region id ops dw =>
   cases dw
   ·simp only [cCode] at he
    cases hr : cOps P call ops.toList ops.toList g h with
    | none => rw [hr] at he; cases he
    | some r =>
     obtain ⟨g1, h1⟩ := r
     rw [hr] at he
     cases he
     obtain ⟨k1, a1⟩ := cOps_ok hc _ hk hr
     exact ⟨k1, .of_AW (AW_region (AOps.imp (fun g H q => ⟨rfl, q.1, q.2⟩) _ a1))⟩
   ·simp only [cCode] at he
    cases hr : dr ops g h with
    | none => rw [hr] at he; cases he
    | some r =>
     obtain ⟨g1, h1⟩ := r
     rw [hr] at he
     cases he
     obtain ⟨k1, a1⟩ := hd _ _ _ _ _ hk hr
     exact ⟨k1, a1 _ k id hn⟩
  | _ => cases he
termination_by n => n
end
end Go.Abs
namespace Go.Abs
open Go
mutual
def okV (p : Nat → Bool) : AV → Bool
 | .v _ | .em | .any | .nb => true
 | .sl id _ _ | .pt id _ | .mp id => p id
 | .im _ cs | .ip cs | .ag cs | .tu cs => okVs p cs
 | .fn _ a b => okVs p a && okVs p b
def okVs (p : Nat → Bool) : List AV → Bool
 | [] => true
 | v :: vs => okV p v && okVs p vs
end
def okO (p : Nat → Bool) : AO → Bool
 | .cells _ cs | .ice _ cs | .mapv _ cs | .tc _ cs | .tf _ cs | .fx _ cs _ | .mi cs _ _ _ => okVs p cs
 | _ => true
theorem okVs_mem {p : Nat → Bool} : ∀ {vs : List AV} {v : AV}, okVs p vs = true → v ∈ vs → okV p v = true
 | c :: cs, v, h, hm => by
  simp only [okVs, Bool.and_eq_true] at h
  rcases List.mem_cons.1 hm with rfl | hm
  ·exact h.1
  ·exact okVs_mem h.2 hm
section
variable {I : Nat → Prop} {m m' : List Loc} {w : World} {τ : Nat → Nat} {p : Nat → Bool}
mutual
theorem VR.on (h : ∀ (j : Nat) L, p j = true → lk m j = some L → lk m' (τ j) = some L) : ∀ (c : AV) (x : Value), okV p c = true → VR I m w c x → VR I m' w (c.ren τ) x
 | .v _, _, _, k => by simpa only [AV.ren, VR] using k
 | .em, _, _, k => by simpa only [AV.ren, VR] using k
 | .any, _, _, k => by simp only [AV.ren, VR]
 | .nb, _, _, k => by simpa only [AV.ren, VR] using k
 | .sl _ _ _, _, q, k => by
  simp only [okV] at q
  simp only [AV.ren, VR] at k ⊢
  obtain ⟨L, A, c, h1, h2⟩ := k
  exact ⟨L, A, c, h _ _ q h1, h2⟩
 | .pt _ _, _, q, k => by
  simp only [okV] at q
  simp only [AV.ren, VR] at k ⊢
  obtain ⟨L, h1, h2⟩ := k
  exact ⟨L, h _ _ q h1, h2⟩
 | .mp _, _, q, k => by
  simp only [okV] at q
  simp only [AV.ren, VR] at k ⊢
  obtain ⟨L, h1, h2⟩ := k
  exact ⟨L, h _ _ q h1, h2⟩
 | .im n cs, _, q, k => by
  simp only [okV] at q
  simp only [AV.ren, VR] at k ⊢
  obtain ⟨A, c, h1, h2, h3⟩ := k
  refine ⟨A, c, h1, h2, ?_⟩
  rcases h3 with rfl | ⟨b, o, h4, h5, h6⟩
  ·exact .inl (by simp only [rens])
  ·exact .inr ⟨b, o, h4, h5, CR.on h cs o q h6⟩
 | .ip cs, _, q, k => by
  simp only [okV] at q
  simp only [AV.ren, VR] at k ⊢
  obtain ⟨b, o, h4, h5, h6⟩ := k
  exact ⟨b, o, h4, h5, CR.on h cs o q h6⟩
 | .ag cs, _, q, k => by
  simp only [okV] at q
  simp only [AV.ren, VR] at k ⊢
  obtain ⟨xs, h1, h2⟩ := k
  exact ⟨xs, h1, VRs.on h cs _ q h2⟩
 | .tu cs, _, q, k => by
  simp only [okV] at q
  simp only [AV.ren, VR] at k ⊢
  obtain ⟨xs, h1, h2⟩ := k
  exact ⟨xs, h1, VRs.on h cs _ q h2⟩
 | .fn f a b, _, q, k => by
  simp only [okV, Bool.and_eq_true] at q
  simp only [AV.ren, VR] at k ⊢
  obtain ⟨xs, ys, h1, h2, h3⟩ := k
  exact ⟨xs, ys, h1, VRs.on h a _ q.1 h2, VRs.on h b _ q.2 h3⟩
theorem VRs.on (h : ∀ (j : Nat) L, p j = true → lk m j = some L → lk m' (τ j) = some L) : ∀ (cs : List AV) (xs : List Value), okVs p cs = true → VRs I m w cs xs → VRs I m' w (rens τ cs) xs
 | [], _, _, k => by simpa only [rens, VRs] using k
 | c :: cs, _, q, k => by
  simp only [okVs, Bool.and_eq_true] at q
  simp only [rens, VRs] at k ⊢
  obtain ⟨y, zs, h1, h2, h3⟩ := k
  exact ⟨y, zs, h1, VR.on h c y q.1 h2, VRs.on h cs zs q.2 h3⟩
theorem CR.on {b : Nat} (h : ∀ (j : Nat) L, p j = true → lk m j = some L → lk m' (τ j) = some L) : ∀ (cs : List AV) (o : Nat), okVs p cs = true → CR I m w b cs o → CR I m' w b (rens τ cs) o
 | [], _, _, _ => by simp only [rens, CR]
 | c :: cs, o, q, k => by
  simp only [okVs, Bool.and_eq_true] at q
  simp only [rens, CR] at k ⊢
  obtain ⟨⟨x, h1, h2⟩, h3⟩ := k
  exact ⟨⟨x, h1, VR.on h c x q.1 h2⟩, CR.on h cs (o + 1) q.2 h3⟩
end
theorem OR.on (h : ∀ (j : Nat) L, p j = true → lk m j = some L → lk m' (τ j) = some L) {o : AO} {L : Loc} (q : okO p o = true) (k : OR I m w o L) : OR I m' w (o.ren τ) L := by
 cases o with
 | dead => simp only [AO.ren, OR]
 | raw => simpa only [AO.ren, OR] using k
 | mapv ks vs =>
  simp only [okO] at q
  simp only [AO.ren, OR] at k ⊢
  obtain ⟨q1, es, cl, q2, q3, q4⟩ := k
  exact ⟨q1, es, cl, q2, q3, VRs.on h vs _ q q4.1, q4.2⟩
 | mi vs s sn l =>
  simp only [okO] at q
  simp only [AO.ren, OR] at k ⊢
  obtain ⟨q1, b, q2, q3⟩ := k
  exact ⟨q1, b, q2, VRs.on h vs _ q q3⟩
 | tc t cs =>
  simp only [okO] at q
  simp only [AO.ren, OR] at k ⊢
  obtain ⟨q1, c, q2, q3⟩ := k
  refine ⟨⟨q1.1, q1.2.1, q1.2.2.1, by rw [rens_eq, List.length_map]; exact q1.2.2.2⟩, c, q2, fun i x hx => ?_⟩
  rw [rens_eq, List.getElem?_map, Option.map_eq_some_iff] at hx
  obtain ⟨v, hv, rfl⟩ := hx
  obtain ⟨y, h5, h6, h7⟩ := q3 i v hv
  exact ⟨y, h5, VR.on h v y (okVs_mem q (List.mem_of_getElem? hv)) h6, by rw [ren_one]; exact h7⟩
 | tf t cs =>
  simp only [okO] at q
  simp only [AO.ren, OR] at k ⊢
  obtain ⟨q1, c, fz, q2, q3⟩ := k
  refine ⟨⟨q1.1, q1.2.1, q1.2.2.1, by rw [rens_eq, List.length_map]; exact q1.2.2.2⟩, c, fz, q2, fun i x hx => ?_⟩
  rw [rens_eq, List.getElem?_map, Option.map_eq_some_iff] at hx
  obtain ⟨v, hv, rfl⟩ := hx
  obtain ⟨y, h5, h6, h7⟩ := q3 i v hv
  exact ⟨y, h5, VR.on h v y (okVs_mem q (List.mem_of_getElem? hv)) h6, by rw [ren_one]; exact h7⟩
 | ice sz cs =>
  simp only [okO] at q
  simp only [AO.ren, OR] at k ⊢
  exact ⟨k.1, by rw [rens_eq, List.length_map]; exact k.2.1, fun hc => ⟨(k.2.2 hc).1, CR.on h cs _ q (k.2.2 hc).2⟩⟩
 | fx sz cs r =>
  simp only [okO] at q
  simp only [AO.ren, OR] at k ⊢
  refine ⟨⟨k.1.1, by rw [rens_eq, List.length_map]; exact k.1.2.1, fun hc => ?_⟩, by rw [rens_eq, List.length_map]; exact k.2⟩
  obtain ⟨c, E, fz, h1, h2, h3, h4⟩ := k.1.2.2 hc
  refine ⟨c, E, fz, h1, h2, h3, fun i x hx => ?_⟩
  rw [rens_eq, List.getElem?_map, Option.map_eq_some_iff] at hx
  obtain ⟨v, hv, rfl⟩ := hx
  obtain ⟨y, h5, h6, h7⟩ := h4 i v hv
  exact ⟨y, h5, VR.on h v y (okVs_mem q (List.mem_of_getElem? hv)) h6, by rw [ren_one]; exact h7⟩
 | cells sz cs =>
  simp only [okO] at q
  simp only [AO.ren, OR] at k ⊢
  refine ⟨k.1, by rw [rens_eq, List.length_map]; exact k.2.1, fun hc => ?_⟩
  obtain ⟨c, E, fz, h1, h2, h3, h4⟩ := k.2.2 hc
  refine ⟨c, E, fz, h1, h2, h3, fun i x hx => ?_⟩
  rw [rens_eq, List.getElem?_map, Option.map_eq_some_iff] at hx
  obtain ⟨v, hv, rfl⟩ := hx
  obtain ⟨y, h5, h6, h7⟩ := h4 i v hv
  exact ⟨y, h5, VR.on h v y (okVs_mem q (List.mem_of_getElem? hv)) h6, by rw [ren_one]; exact h7⟩
end
theorem VS_keep {k : Nat} {v : AV} {H : List AO} (σ : List Nat) (τ : Nat → Nat) (p : Nat → Bool) (hp : ∀ j, p j = true → σ[τ j]? = some j) (h0 : ∀ j, j < k → σ[j]? = some j) (hn : σ.Nodup) (hl : ∀ j ∈ σ, j < H.length)
 (hv : okV p v = true) (ho : ∀ (j : Nat) o, j ∈ σ → H[j]? = some o → okO p o = true) : VS k [v] H [v.ren τ] (σ.map fun j => (H.getD j .dead).ren τ) := by
 intro I m w xs hr hx
 have hlen := hr.len
 have get : ∀ (i : Nat) (j : Nat), σ[i]? = some j → j < m.length ∧ (σ.map fun j => m.getD j ⟨0, 0, 0, 0⟩)[i]? = m[j]? := fun i j hj => by
  have hjl := hl j (List.mem_of_getElem? hj)
  refine ⟨by omega, ?_⟩
  rw [List.getElem?_map, hj]
  simp only [Option.map_some, List.getD]
  rw [List.getElem?_eq_getElem (by omega)]; rfl
 have hlk : ∀ (j : Nat) L, p j = true → lk m j = some L → lk (σ.map fun j => m.getD j ⟨0, 0, 0, 0⟩) (τ j) = some L := fun j L hj hL => by
  obtain ⟨q1, q2⟩ := lk_get hL
  refine lk_of ?_ q2
  rw [(get _ _ (hp j hj)).2]; exact q1
 have obj : ∀ (i : Nat) (o : AO), (σ.map fun j => (H.getD j .dead).ren τ)[i]? = some o → ∃ (j : Nat) (o' : AO), σ[i]? = some j ∧ H[j]? = some o' ∧ o = o'.ren τ := fun i o hi => by
  rw [List.getElem?_map, Option.map_eq_some_iff] at hi
  obtain ⟨j, hj, rfl⟩ := hi
  have := hl j (List.mem_of_getElem? hj)
  exact ⟨j, H[j], hj, List.getElem?_eq_getElem this, by simp [List.getD, List.getElem?_eq_getElem this]⟩
 have own : ∀ b, Own (σ.map fun j => (H.getD j .dead).ren τ) (σ.map fun j => m.getD j ⟨0, 0, 0, 0⟩) b → Own H m b := by
  rintro b ⟨id, o, L, h1, h2, h3, h4, h5⟩
  obtain ⟨j, o', q1, q2, rfl⟩ := obj _ _ h1
  rw [(get _ _ q1).2] at h3
  rw [ren_alive] at h2
  exact ⟨j, o', L, q2, h2, h3, h4, h5⟩
 refine ⟨I, σ.map fun j => m.getD j ⟨0, 0, 0, 0⟩, ⟨by simp, ?_, ?_, ?_, hr.ilt, hr.gl⟩, ?_, fun _ h => h, fun _ h => .inl h, own, ?_⟩
 ·intro id o L h1 h2
  obtain ⟨j, o', q1, q2, rfl⟩ := obj _ _ h1
  rw [(get _ _ q1).2] at h2
  exact OR.on hlk (ho j o' (List.mem_of_getElem? q1) q2) (hr.ob j o' L q2 h2)
 ·intro i j oi oj Li Lj hij h1 h2 h3 h4 h5 h6 h7 h8
  obtain ⟨a, o1, q1, q2, rfl⟩ := obj _ _ h1
  obtain ⟨b, o2, r1, r2, rfl⟩ := obj _ _ h2
  rw [(get _ _ q1).2] at h5
  rw [(get _ _ r1).2] at h6
  rw [ren_alive] at h3 h4
  refine hr.inj a b o1 o2 Li Lj (fun hab => ?_) q2 r2 h3 h4 h5 h6 h7 h8
  subst hab
  exact hij ((List.getElem?_inj (List.getElem?_eq_some_iff.1 q1).1 hn).1 (q1.trans r1.symm))
 ·exact fun b hb ho => hr.imm b hb (own b ho)
 ·simp only [VRs] at hx ⊢
  obtain ⟨y, zs, rfl, q1, q2⟩ := hx
  exact ⟨y, zs, rfl, VR.on hlk v y hv q1, q2⟩
 ·intro i L hi hm
  rw [(get _ _ (h0 i hi)).2]; exact hm
section
variable {P : Program} {k : Nat}
theorem AFn_of_BW {n : FuncId} {fn : Func} {c : Code} {args : List AV} {Hi : List AO} {R : AV → List AO → Prop} {rs : List ResultVar} {nt : Nat} (hf : P.funcs[n]? = some fn) (hb : fn.body = some c) (hn : (fn.name == "runtime.NumGoroutine") = false) (hrs : fn.results.toList = rs) (hnt : fn.ntmps = nt)
 (h : BW P k c (endM P k rs R) (args ++ List.replicate (nt - args.length) (.v undef)) Hi) : AFn P n k args Hi R := by
 intro I m w xs hr hv
 have hl := hv.len
 rw [Array.length_toList] at hl
 have e0 : (callFunc n xs).run P w = .ok (.enter n xs) w := by
  simp [callFunc, hf, hn, hb]
  intro hh
  simp [hh] at hn
 unfold CallsFn
 rw [e0]
 refine calls_of_wp hf hb (wp_mono (h I m { tmps := xs ++ Array.replicate (fn.ntmps - xs.size) undef, defers := [] } w hr ?_ rfl) ?_)
 ·simp only [Array.toList_append, Array.toList_replicate, hl, ← hnt]
  refine hv.append ?_
  generalize fn.ntmps - args.length = k
  induction k with
  | zero => simp [VRs]
  | succ k ih => simp only [List.replicate_succ, VRs]; exact ⟨_, _, rfl, by simp only [VR], ih⟩
 ·rintro e a' w' ⟨g', H', I', m', h1, h2, h3, h4, h5, h6⟩
  have key : (match resAll P g' H' rs with
   | some vs => Fin k (result vs) H' R
   | none => False) → ∃ v, (results fn a'.tmps).run P w' = .ok v w' ∧ ∃ v', Ending.returned v = .returned v' ∧ ∃ r Ho I' m', R r Ho ∧ VR I' m' w' r v' ∧ HR I' m' Ho w' ∧ Ex I (Own Hi m) w I' (Own Ho m') w' ∧ Kp k m m' := by
   intro h1
   split at h1
   ·rename_i vs k1
    obtain ⟨r, Ho, k2, hvs⟩ := h1
    subst hrs
    obtain ⟨ys, k3, k4⟩ := resAll_ok h2 h3 k1
    have k5 : (results fn a'.tmps).run P w' = .ok (if h : ys.toArray.size = 1 then ys.toArray[0] else .tuple ys.toArray) w' := by
     unfold results
     simp only [Array.mapM_eq_mapM_toList, Sem.run_bind, Sem.run_map]
     erw [k3]
     simp
    have k6 : VR I' m' w' (result vs) (if h : ys.toArray.size = 1 then ys.toArray[0] else .tuple ys.toArray) := by
     have kl := k4.len
     match vs, ys, k4, kl with
     | [v], [y], k4, _ =>
      simp only [VRs] at k4
      obtain ⟨y', zs, e, k6, _⟩ := k4
      obtain ⟨rfl, rfl⟩ := List.cons.inj e
      simpa [result] using k6
     | [], [], k4, _ => simp [result, VR, VRs]
     | v :: v2 :: vs, y :: y2 :: ys, k4, _ =>
      simp only [result]
      rw [dif_neg (by simp)]
      simp only [VR]
      exact ⟨_, rfl, k4⟩
    obtain ⟨I2, m2, q1, q2, q3, q4, q5, q6⟩ := hvs I' m' w' [_] h2 (by simp only [VRs]; exact ⟨_, _, rfl, k6, rfl⟩)
    simp only [VRs] at q2
    obtain ⟨y', zs, e, q2, _⟩ := q2
    obtain ⟨rfl, rfl⟩ := List.cons.inj e
    exact ⟨_, k5, _, rfl, r, Ho, I2, m2, k2, q2, q1, h5.trans (VS.ex q3 q4 q5), h6.trans q6⟩
   ·exact h1.elim
  cases e with
  | normal => exact ⟨h4, key h1⟩
  | ret => exact ⟨h4, key h1⟩
  | _ => exact h1.elim
theorem ACall_of_AFn {n : FuncId} {args : List AV} {H : List AO} {R : AV → List AO → Prop} (h : AFn P n H.length args H R) : ACall P n args H R := fun I m w xs hr hv =>
 (h I m w xs hr hv).mono fun v w' ⟨r, Ho, I', m', h1, h2, h3, h4, h5⟩ => ⟨r, Ho, I', m', h1, h2, h3, h4.ext ⟨m'.drop m.length, by
  have hl := hr.len
  have : m'.take m.length = m := by
   apply List.ext_getElem?
   intro i
   by_cases hi : i < m.length
   ·rw [List.getElem?_take_of_lt hi, List.getElem?_eq_getElem hi]
    exact h5 i _ (by omega) (List.getElem?_eq_getElem hi)
   ·rw [List.getElem?_eq_none (by simp; omega), List.getElem?_eq_none (by omega)]
  conv => lhs; rw [← List.take_append_drop m.length m']
  rw [this]⟩⟩
end
end Go.Abs
