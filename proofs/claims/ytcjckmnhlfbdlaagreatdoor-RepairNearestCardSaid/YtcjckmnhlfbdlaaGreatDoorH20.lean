/- Part 20 of the texts that lead to repairNearestCard_holds. No condition. -/
import Derived.Shelf.Strconv.Itoa3
import Derived.Test.YtcjckmnhlfbdlaaGreatDoorH17
import Derived.Test.YtcjckmnhlfbdlaaGreatDoorH18
import Derived.Test.YtcjckmnhlfbdlaaGreatDoorH19
set_option linter.all false
namespace Go.Abs
open Go
def itL2 (u : Nat) : Bool → Bool → Option (List UInt8)
 | true, _ => some [UInt8.ofNat (48 + u)]
 | false, true => some [UInt8.ofNat (48 + u / 10), UInt8.ofNat (48 + u % 10)]
 | _, _ => none
def itNeg (u : Nat) : Bool → Option (List UInt8)
 | true => some [45, UInt8.ofNat (48 + (u + 1))]
 | false => none
def itL : Int → Option (List UInt8)
 | .ofNat u => itL2 u (Nat.blt u 10) (Nat.blt u 100)
 | .negSucc u => itNeg u (Nat.blt (u + 1) 10)
theorem itL_ok {n : Int} {l : List UInt8} (h : itL n = some l) : Lib.itoa n = l ∧ -9223372036854775808 ≤ n ∧ n ≤ 9223372036854775807 := by
 cases n with
 | ofNat u =>
  simp only [itL] at h
  cases h1 : Nat.blt u 10
  ·cases h2 : Nat.blt u 100
   ·rw [h1, h2] at h; cases h
   ·rw [h1, h2] at h
    cases h
    have h1' : ¬ u < 10 := fun q => by rw [← Nat.blt_eq, h1] at q; cases q
    rw [Nat.blt_eq] at h2
    refine ⟨?_, by simp only [Int.ofNat_eq_natCast]; omega, by simp only [Int.ofNat_eq_natCast]; omega⟩
    rw [Int.ofNat_eq_natCast, Lib.itoa_nonneg, Lib.decDigits_two h1' h2]
  ·rw [h1] at h
   cases h
   rw [Nat.blt_eq] at h1
   refine ⟨?_, by simp only [Int.ofNat_eq_natCast]; omega, by simp only [Int.ofNat_eq_natCast]; omega⟩
   rw [Int.ofNat_eq_natCast, Lib.itoa_nonneg, Lib.decDigits_one h1]
 | negSucc u =>
  simp only [itL] at h
  cases h1 : Nat.blt (u + 1) 10
  ·rw [h1] at h; cases h
  ·rw [h1] at h
   cases h
   rw [Nat.blt_eq] at h1
   have e : Int.negSucc u = -((u + 1 : Nat) : Int) := rfl
   refine ⟨?_, by omega, by omega⟩
   rw [e, Lib.itoa_neg _ (by omega), Lib.decDigits_one h1]
def kIt2 (h : HP) : Option (List UInt8) → OR2
 | some l => some (.v (.string ⟨l.toArray⟩), h)
 | none => none
def kIt : List AV → HP → OR2
 | [.v (.int .i64 n)], h => kIt2 h (itL n)
 | _, _ => none
theorem it_ok {P : Program} {f : FuncId} {g : Nat} {vs : List Value} (hg : P.globalNamed "internal/strconv.uint64pow10" = some g) (hglo : (g, vs) ∈ glo) (hvs : vs = Lib.pow10Tab.map fun z => Value.int .u64 z) (he : ∀ args w, (callFunc f args).run P w = .ok (.enter f args) w)
 (hI : ∀ (n : Int), -9223372036854775808 ≤ n → n ≤ 9223372036854775807 → ∀ w, Lib.TabIs P w "internal/strconv.uint64pow10" .u64 Lib.pow10Tab → Calls P f #[.int .i64 n] w fun e w' => e = .returned (.string ⟨(Lib.itoa n).toArray⟩) ∧ ∃ k os, w' = Sort.grow (w.drewN k) os)
 {args : List AV} {h : HP} (hk : h.ok) {v : AV} {h' : HP} (e : kIt args h = some (v, h')) : (h'.ok ∧ h.n ≤ h'.n) ∧ ACall P f args h.L (fun v1 H1 => v1 = v ∧ H1 = h'.L) := by
 unfold kIt at e
 split at e
 case h_2 => cases e
 rename_i n
 cases hl : itL n with
 | none => rw [hl] at e; cases e
 | some l =>
  rw [hl] at e
  cases e
  obtain ⟨q1, q2, q3⟩ := itL_ok hl
  refine ⟨⟨hk, Nat.le_refl _⟩, fun I m w xs hr hv => ?_⟩
  simp only [VRs, VR] at hv
  obtain ⟨_, _, hxs, rfl, rfl⟩ := hv
  obtain rfl : xs = #[.int .i64 n] := by apply Array.ext'; simpa using hxs
  obtain ⟨_, t, fz, hh⟩ := hr.gl _ hglo
  have htab : Lib.TabIs P w "internal/strconv.uint64pow10" .u64 Lib.pow10Tab := by
   unfold Lib.TabIs World.var?
   rw [hg]
   simp only [Option.bind_some]
   simp only at hh
   rw [hh, hvs]
  unfold CallsFn
  rw [he]
  refine (hI n q2 q3 w htab).mono ?_
  rintro e w' ⟨rfl, k, os, rfl⟩
  have hs : w.heap.size ≤ (Sort.grow (w.drewN k) os).heap.size := by simp [Sort.grow, World.drewN]
  have hw : ∀ b, b < w.heap.size → (Sort.grow (w.drewN k) os).heap[b]? = w.heap[b]? := fun b hb => by
   simp only [Sort.grow, World.drewN]
   rw [Array.getElem?_append_left hb]
  rw [q1]
  exact ⟨_, rfl, _, _, I, m, ⟨rfl, rfl⟩, by simp only [VR], hr.aside hs fun b hb _ => hw b hb, ⟨rfl, rfl, rfl, hs, fun b hb _ => hw b hb, fun _ h => h, fun _ h => .inl h, ⟨[], by simp⟩, fun _ h => .inl h⟩⟩
noncomputable def kWs2 (bT eT : TypeId) (id : Nat) (s : ByteArray) (h : HP) : Bool → OR2
 | true => kBld bT eT id (s.data.toList.map fun b => .v (.int .u8 (Int.ofNat b.toNat))) h (.tu [.v (.int .i64 (Int.ofNat s.size)), .v .nilIface])
 | false => none
noncomputable def kWs (bT eT : TypeId) : List AV → HP → OR2
 | [.pt id 0, .v (.string s)], h => kWs2 bT eT id s h (Nat.ble s.size 140737488355328)
 | _, _ => none
noncomputable def kWb2 (bT eT : TypeId) (id : Nat) (x : Int) (h : HP) : Bool → OR2
 | true => kBld bT eT id [.v (.int .u8 x)] (rNew h (.cells 1 [.v (.int .u8 x)])) (.v .nilIface)
 | false => none
noncomputable def kWb (bT eT : TypeId) : List AV → HP → OR2
 | [.pt id 0, .v (.int .u8 x)], h => kWb2 bT eT id x h (Nat.blt id h.n)
 | _, _ => none
def KFok (P : Program) (f : FuncId) (k : List AV → HP → OR2) : Prop := ∀ args h v h', h.ok → k args h = some (v, h') → (h'.ok ∧ h.n ≤ h'.n) ∧ ACall P f args h.L (fun v1 H1 => v1 = v ∧ H1 = h'.L)
theorem kWs_ok {P : Program} {bT sT eT : TypeId} {f cc : FuncId} {uT tI tF : TypeId} (B : BTy P bT sT eT) (hu : ∃ a b z, ti P uT = some ⟨.string, a, b, z⟩) (hc : WsCode P f cc bT sT uT tI tF) (hcc : CcOK P bT cc) : KFok P f (kWs bT eT) := fun args h v h' hk e => by
 unfold kWs at e
 split at e
 case h_2 => cases e
 rename_i id s
 cases hb : Nat.ble s.size 140737488355328
 ·rw [hb] at e; cases e
 ·rw [hb] at e
  rw [Nat.ble_eq] at hb
  exact ws_ok B hu hc hcc hk hb e
theorem kWb_ok {P : Program} {bT sT eT : TypeId} {f cc : FuncId} (B : BTy P bT sT eT) (hz0 : B.te.zero = [.int .u8 0]) (hc : WbCode P f cc bT sT) (hcc : CcOK P bT cc) : KFok P f (kWb bT eT) := fun args h v h' hk e => by
 unfold kWb at e
 split at e
 case h_2 => cases e
 rename_i id x
 cases hb : Nat.blt id h.n
 ·rw [hb] at e; cases e
 ·rw [hb] at e
  rw [Nat.blt_eq] at hb
  exact wb_ok B hz0 rfl hc hcc hk hb e
def kTabGo (args : List AV) (h : HP) : Option (List AV → HP → OR2) → OR2 → OR2
 | some k, _ => k args h
 | none, r => r
noncomputable def kTabFind (f : FuncId) (l : List (FuncId × (List AV → HP → OR2))) : Option (List AV → HP → OR2) := List.rec (motive := fun _ => Option (List AV → HP → OR2)) none (fun p _ ih => match Nat.beq p.1 f with
 | true => some p.2
 | false => ih) l
noncomputable def kTab (l : List (FuncId × (List AV → HP → OR2))) (rest : KM) : KM := fun f args h => kTabGo args h (kTabFind f l) (rest f args h)
theorem kTab_ok {P : Program} {l : List (FuncId × (List AV → HP → OR2))} {rest : KM} (hl : ∀ p ∈ l, KFok P p.1 p.2) (hr : KMok P rest) : KMok P (kTab l rest) := by
 intro f args h v h' hk e
 unfold kTab at e
 have find : ∀ (l : List (FuncId × (List AV → HP → OR2))) k, kTabFind f l = some k → ∃ p ∈ l, p.1 = f ∧ p.2 = k := by
  intro l
  induction l with
  | nil => intro k q; cases q
  | cons p l ih =>
   intro k q
   have q : (match Nat.beq p.1 f with
    | true => some p.2
    | false => kTabFind f l) = some k := q
   cases hb : Nat.beq p.1 f
   ·rw [hb] at q
    obtain ⟨p', h1, h2⟩ := ih k q
    exact ⟨p', List.mem_cons_of_mem _ h1, h2⟩
   ·rw [hb] at q
    cases q
    exact ⟨p, List.mem_cons_self .., Nat.eq_of_beq_eq_true hb, rfl⟩
 cases hf : kTabFind f l with
 | none => rw [hf] at e; exact hr f args h v h' hk e
 | some k =>
  rw [hf] at e
  obtain ⟨p, h1, rfl, rfl⟩ := find l k hf
  exact hl p h1 args h v h' hk e
end Go.Abs
namespace Go.Abs
open Go
def qI (n : Nat) : AV := .v (.int .i64 (.ofNat n))
def qN (n : Nat) : AV := .v (.int .i64 (.negSucc n))
def qJ (k : IntKind) (n : Nat) : AV := .v (.int k (.ofNat n))
def qT : AV := .v (.bool true)
def qF : AV := .v (.bool false)
def qS (l : List Nat) : AV := .v (.string ⟨(l.map UInt8.ofNat).toArray⟩)
def qZ : AV := .v (.slice none 0 0)
def uJ (k : IntKind) (n : Nat) : Value := .int k (.ofNat n)
def uQ (k : IntKind) (n : Nat) : Value := .int k (.negSucc n)
def uT : Value := .bool true
def uS (l : List Nat) : Value := .string ⟨(l.map UInt8.ofNat).toArray⟩
end Go.Abs
namespace Go.Abs
open Go
def Oks (P : Program) (es : List ME) : Prop := ∀ e ∈ es, MEok P e
theorem oN {P : Program} : Oks P [] := fun _ h => by cases h
theorem oC {P : Program} {e : ME} {es : List ME} (h : MEok P e) (hs : Oks P es) : Oks P (e :: es) := fun x hx => by
 rcases List.mem_cons.1 hx with rfl | hx
 ·exact h
 ·exact hs x hx
@[irreducible] def fu : Nat := 100000
noncomputable def cal (P : Program) (bwT : BWT) (kT : List (FuncId × (List AV → HP → OR2))) (es : List ME) : CT := eF P bwT (kTab kT (kMe es)) (fRun P) fu fu
noncomputable def runE (P : Program) (bwT : BWT) (kT : List (FuncId × (List AV → HP → OR2))) (es : List ME) (e : ME) : Bool := meRun P bwT (cal P bwT kT es) (fRun P (cal P bwT kT es)) fu e
theorem cal_ok {P : Program} {bwT : BWT} {kT : List (FuncId × (List AV → HP → OR2))} (hN : namesOK P = true) (hB : BWok P bwT) (hK : ∀ p ∈ kT, KFok P p.1 p.2) (hm : P.follows .mixedOrders = true) {es : List ME} (hes : Oks P es) : CTok P (cal P bwT kT es) :=
 eF_ok hN hB (kTab_ok hK (kMe_ok hes)) (fun _ hc => fRun_ok hm hc) fu fu
theorem goE {P : Program} {bwT : BWT} {kT : List (FuncId × (List AV → HP → OR2))} (hN : namesOK P = true) (hB : BWok P bwT) (hK : ∀ p ∈ kT, KFok P p.1 p.2) (hm : P.follows .mixedOrders = true) {es : List ME} (hes : Oks P es) {e : ME} (h : runE P bwT kT es e = true) : MEok P e :=
 meRun_ok hN hB (cal_ok hN hB hK hm hes) (fRun_ok hm (cal_ok hN hB hK hm hes)) h
end Go.Abs
namespace Go.Abs
open Go
section
variable {P : Program} {call : CT} {dr : DT}
end
inductive Fr where
  | sq (c : Code)
  | bl (i : Nat)
def loopOf : Code → List Fr → Option (List Fr × Code)
 | .seq a b, K => match loopOf a (.sq b :: K) with
  | some x => some x
  | none => loopOf b K
 | .block i b, K => loopOf b (.bl i :: K)
 | .loop b, K => some (K, b)
 | _, _ => none
section
variable {P : Program} {call : CT} {dr : DT}
theorem loopOf_nil : ∀ (c : Code) (K : List Fr), (loopOf c []).isSome = (loopOf c K).isSome := by
 intro c
 have key : ∀ (c : Code) (K K' : List Fr), (loopOf c K).isSome = (loopOf c K').isSome := by
  intro c
  induction c with
  | seq a b iha ihb =>
   intro K K'
   simp only [loopOf]
   have h1 := iha (.sq b :: K) (.sq b :: K')
   have h2 := ihb K K'
   cases ha : loopOf a (.sq b :: K) <;> cases ha' : loopOf a (.sq b :: K') <;> simp_all
  | block i b ih => intro K K'; simp only [loopOf]; exact ih _ _
  | loop b ih => intro K K'; rfl
  | _ => intro K K'; rfl
 exact fun K => key c [] K
end
theorem meEnd_ok {P : Program} {e : ME} {v0 : AV} {hr0 : HP} (k1 : hr0.ok) (a1 : AFn P e.f e.i.length e.a e.i (fun v1 H1 => v1 = v0 ∧ H1 = hr0.L)) (h : meEnd e (some (v0, hr0)) = true) : MEok P e := by
 simp only [meEnd] at h
 generalize newIds e.i.length hr0 v0 = keep at h
 unfold mePack at h
 obtain ⟨hcl2, h⟩ := okIf_spec h
 obtain ⟨hfirst, h⟩ := okIf_spec h
 obtain ⟨hr, ho⟩ := okIf_spec h
 obtain ⟨c1, c2, c3, c4⟩ := closedN_spec hcl2
 simp only [okVs, Bool.and_true] at c3
 have hA : AFn P e.f e.i.length e.a e.i (fun v H => v = v0.ren (posN keep) ∧ H = keep.map fun j => (hr0.L.getD j .dead).ren (posN keep)) :=
  a1.post (VS_keep keep (posN keep) (fun j => memN j keep) (fun j hj => posN_get hj) (firstN_spec hfirst) c1 (fun j hj => by rw [HP.len k1]; exact c2 j hj) c3 (fun j o hj ho => by
   have := c4 j hj
   unfold okAt at this
   rw [rGet_eq k1, ho] at this
   exact this))
 have e1 := beqV_spec hr
 have e2 := beqOs_spec ho
 have e3 : (keep.map fun j => (hr0.L.getD j .dead).ren (posN keep)) = e.o := by
  rw [← e2]
  exact List.map_congr_left fun j _ => (objN_eq k1 _ j).symm
 rw [e1, e3] at hA
 exact hA
noncomputable def fnCode (P : Program) (f : FuncId) : Code := match P.funcs[f]? with
 | some fn => match fn.body with
  | some c => c
  | none => .skip
 | none => .skip
noncomputable def fnStart (P : Program) (f : FuncId) (args : List AV) : List AV := match P.funcs[f]? with
 | some fn => args ++ List.replicate (fn.ntmps - args.length) (.v undef)
 | none => args
noncomputable def fnRes (P : Program) (f : FuncId) : List ResultVar := match P.funcs[f]? with
 | some fn => fn.results.toList
 | none => []
def hpIn (i : List AO) : HP := ⟨i.length, i.reverse⟩
def lpBody (c : Code) : Code := match loopOf c [] with
 | some x => x.2
 | none => .skip
end Go.Abs
namespace Go.Abs
open Go
def beqG : AV → AV → Bool
 | .v (.tuple ⟨[]⟩), .v (.tuple ⟨[]⟩) => true
 | a, b => beqV a b
def beqGs : List AV → List AV → Bool
 | [], [] => true
 | a :: xs, b :: ys => okIf (beqG a b) (beqGs xs ys)
 | _, _ => false
theorem beqG_spec {a b : AV} (h : beqG a b = true) : a = b := by
 unfold beqG at h
 split at h
 ·rfl
 ·exact beqV_spec h
theorem beqGs_spec : ∀ {a b : List AV}, beqGs a b = true → a = b
 | [], [], _ => rfl
 | a :: xs, b :: ys, h => by
  obtain ⟨h1, h2⟩ := okIf_spec (show okIf (beqG a b) (beqGs xs ys) = true from h)
  rw [beqG_spec h1, beqGs_spec h2]
 | [], b :: ys, h => by simp [beqGs] at h
 | a :: xs, [], h => by simp [beqGs] at h
noncomputable def sameSt (g : List AV) (h : HP) : Option (List AV × HP) → Bool
 | some (g1, h1) => okIf (beqGs g1 g) (okIf (Nat.beq h1.n h.n) (beqOs h1.r h.r))
 | none => false
theorem sameSt_spec {g : List AV} {h : HP} {x : Option (List AV × HP)} (e : sameSt g h x = true) : x = some (g, h) := by
 cases x with
 | none => cases e
 | some p =>
  obtain ⟨g1, h1⟩ := p
  obtain ⟨e1, e⟩ := okIf_spec (show okIf (beqGs g1 g) (okIf (Nat.beq h1.n h.n) (beqOs h1.r h.r)) = true from e)
  obtain ⟨e2, e3⟩ := okIf_spec e
  have q1 := beqGs_spec e1
  have q2 := Nat.eq_of_beq_eq_true e2
  have q3 := beqOs_spec e3
  cases h1; cases h
  simp only at q2 q3
  subst q1; subst q2; subst q3
  rfl
def hasLoop (P : Program) (f : FuncId) : Bool := match P.funcs[f]? with
 | some fn => match fn.body with
  | some c => (loopOf c []).isSome
  | none => false
 | none => false
section
variable (P : Program) (bwT : BWT) (kT : List (FuncId × (List AV → HP → OR2))) (es : List ME)
end
section
variable {P : Program} {bwT : BWT} {kT : List (FuncId × (List AV → HP → OR2))} {es : List ME}
end
end Go.Abs
namespace Go.Abs
open Go
theorem VS.trans {k : Nat} {g g1 g2 : List AV} {H H1 H2 : List AO} (h : VS k g H g1 H1) (h' : VS k g1 H1 g2 H2) : VS k g H g2 H2 := by
 intro I m w xs hr hx
 obtain ⟨I1, m1, a1, a2, a3, a4, a5, a6⟩ := h I m w xs hr hx
 obtain ⟨I2, m2, b1, b2, b3, b4, b5, b6⟩ := h' I1 m1 w xs a1 a2
 exact ⟨I2, m2, b1, b2, fun b q => b3 b (a3 b q), fun b q => (b4 b q).elim (a4 b) fun q => .inr (a5 b q), fun b q => a5 b (b5 b q), a6.trans b6⟩
def anyV : List AV → List AV → List AV
 | .any :: ps, _ :: gs => .any :: anyV ps gs
 | _ :: ps, g :: gs => g :: anyV ps gs
 | _, gs => gs
theorem VRs_any {I : Nat → Prop} {m : List Loc} {w : World} : ∀ (ps gs : List AV) {xs : List Value}, VRs I m w gs xs → VRs I m w (anyV ps gs) xs
 | [], gs, xs, h => by cases gs <;> exact h
 | p :: ps, [], xs, h => by cases p <;> exact h
 | p :: ps, g :: gs, xs, h => by
  simp only [VRs] at h
  obtain ⟨y, zs, rfl, h1, h2⟩ := h
  have ih := VRs_any ps gs h2
  cases p <;> first | exact ⟨y, zs, rfl, h1, ih⟩ | (simp only [anyV, VRs]; exact ⟨y, zs, rfl, by first | exact h1 | simp only [VR], ih⟩)
theorem VS_any (k : Nat) (ps g : List AV) (H : List AO) : VS k g H (anyV ps g) H := fun I m w xs h1 h2 =>
 ⟨I, m, h1, VRs_any ps g h2, fun _ h => h, fun _ h => .inl h, fun _ h => h, Kp.refl k m⟩
noncomputable def cutSt (k : Nat) (g2 : List AV) (h2 : HP) (g : List AV) (h : HP) : Bool := match gcL k (anyV g2 g) h with
 | (g1, h1) => sameSt g2 h2 (some (g1, h1))
theorem cutSt_ok {k : Nat} {g g2 : List AV} {h h2 : HP} (hk : h.ok) (hn : k ≤ h.n) (e : cutSt k g2 h2 g h = true) : h2.ok ∧ k ≤ h2.n ∧ VS k g h.L g2 h2.L := by
 obtain ⟨q1, q2, q3⟩ := gcTry_ok (g := anyV g2 g) hk hn (newIds k h (.tu (anyV g2 g)))
 have e : sameSt g2 h2 (some ((gcL k (anyV g2 g) h).1, (gcL k (anyV g2 g) h).2)) = true := e
 have := sameSt_spec e
 injection this with this
 have e1 : gcTry k (anyV g2 g) h (newIds k h (.tu (anyV g2 g))) = (g2, h2) := this
 rw [e1] at q1 q2 q3
 exact ⟨q1, q2, (VS_any k g2 g h.L).trans q3⟩
noncomputable def cutQ (k : Nat) (g2 : List AV) (h2 : HP) : Option GH → Bool
 | some (g, h) => cutSt k g2 h2 g h
 | none => false
inductive LpQ (P : Program) (k : Nat) (b : Code) (e : Exit) (g' : List AV) (H' : List AO) : Nat → List AV → List AO → Prop
  | fin {g : List AV} {H : List AO} : (∀ D : DSt, @BW D P k b (PostC e g' H') g H) → e ≠ .normal → LpQ P k b e g' H' 1 g H
  | step {j : Nat} {g g1 g2 : List AV} {H H1 H2 : List AO} : (∀ D : DSt, @BW D P k b (PostC .normal g1 H1) g H) → VS k g1 H1 g2 H2 → LpQ P k b e g' H' j g2 H2 → LpQ P k b e g' H' (j + 1) g H
section
variable {P : Program} {k : Nat} {b : Code} {e : Exit} {g' : List AV} {H' : List AO}
theorem LpQ.vs {j : Nat} {g g2 : List AV} {H H2 : List AO} (hv : VS k g H g2 H2) (h : LpQ P k b e g' H' j g2 H2) : LpQ P k b e g' H' j g H := by
 cases h with
 | fin h1 h2 => exact .fin (fun D => BW.vs hv (h1 D)) h2
 | step h1 h2 h3 => exact .step (fun D => BW.vs hv (h1 D)) h2 h3
theorem LpQ.bw [D : DSt] {j : Nat} {g : List AV} {H : List AO} (h : LpQ P k b e g' H' j g H) : BW P k (.loop b) (PostC e g' H') g H := by
 refine BW_loop (fun j g H => LpQ P k b e g' H' j g H) j h ?_
 intro j g H h
 cases h with
 | fin h1 h2 =>
  refine (h1 D).mono ?_
  rintro ex _ _ ⟨rfl, rfl, rfl⟩
  cases ex <;> first | exact absurd rfl h2 | exact ⟨rfl, rfl, rfl⟩
 | step h1 h2 h3 =>
  refine (h1 D).mono ?_
  rintro _ _ _ ⟨rfl, rfl, rfl⟩
  exact ⟨_, _, _, Nat.lt_succ_self _, h3, h2⟩
end
noncomputable def rndQ (k m : Nat) (f : Nat → List AV → HP → Option GH) : KR → Option GH
 | some (.normal, g, h) => match lHd k m g h (Nat.ble m h.n) with
  | (m2, g2, h2) => f m2 g2 h2
 | _ => none
where
 lHd (k m : Nat) (g : List AV) (h : HP) : Bool → Nat × List AV × HP
  | true => match gcL k g h with
   | (g, h) => (Nat.add h.n (Nat.add 32 (Nat.sub h.n k)), g, h)
  | false => (m, g, h)
noncomputable def itQ (P : Program) (call : CT) (dr : DT) (fuel k : Nat) (b : Code) (n : Nat) : Nat → List AV → HP → Option GH :=
 Nat.rec (motive := fun _ => Nat → List AV → HP → Option GH) (fun _ g h => some (g, h)) (fun _ ih m g h => rndQ k m ih (cL P call dr k fuel m b g h)) n
section
variable {P : Program} {call : CT} {dr : DT}
theorem itQ_ok (hc : CTok P call) (hd : DTok P dr) {fuel k : Nat} {b : Code} {e : Exit} {g' : List AV} {H' : List AO} : ∀ (n m : Nat) {g : List AV} {h : HP} {g2 : List AV} {h2 : HP}, h.ok → k ≤ h.n → itQ P call dr fuel k b n m g h = some (g2, h2) →
 (h2.ok ∧ k ≤ h2.n) ∧ ∀ j, LpQ P k b e g' H' j g2 h2.L → ∃ j, LpQ P k b e g' H' j g h.L
 | 0, m, g, h, g2, h2, hk, hn, q => by cases q; exact ⟨⟨hk, hn⟩, fun j t => ⟨j, t⟩⟩
 | n + 1, m, g, h, g2, h2, hk, hn, q => by
  have q : rndQ k m (itQ P call dr fuel k b n) (cL P call dr k fuel m b g h) = some (g2, h2) := q
  cases hb : cL P call dr k fuel m b g h with
  | none => rw [hb] at q; cases q
  | some r =>
   obtain ⟨e1, g1, h1⟩ := r
   rw [hb] at q
   have hx : e1 = .normal := by cases e1 <;> first | rfl | (cases q; done)
   subst hx
   obtain ⟨⟨k1, l1⟩, _⟩ := @cL_ok _ _ _ noDefers hc hd k fuel m b _ _ _ _ _ hk hn hb
   have hB : ∀ D : DSt, @BW D P k b (PostC .normal g1 h1.L) g h.L := fun D => (@cL_ok _ _ _ D hc hd k fuel m b _ _ _ _ _ hk hn hb).2
   have q : (match rndQ.lHd k m g1 h1 (Nat.ble m h1.n) with
    | (m2, g2, h2) => itQ P call dr fuel k b n m2 g2 h2) = some (g2, h2) := q
   have key : ∃ m3 g3 h3, rndQ.lHd k m g1 h1 (Nat.ble m h1.n) = (m3, g3, h3) ∧ h3.ok ∧ k ≤ h3.n ∧ VS k g1 h1.L g3 h3.L := by
    cases Nat.ble m h1.n
    ·exact ⟨_, _, _, rfl, k1, l1, VS.refl _ _ _⟩
    ·obtain ⟨t1, t2, t3⟩ := gcTry_ok (g := g1) k1 l1 (newIds k h1 (.tu g1))
     exact ⟨_, _, _, rfl, t1, t2, t3⟩
   obtain ⟨m3, g3, h3, e3, t1, t2, t3⟩ := key
   rw [e3] at q
   obtain ⟨u1, u2⟩ := itQ_ok hc hd (e := e) (g' := g') (H' := H') n m3 t1 t2 q
   refine ⟨u1, fun j t => ?_⟩
   obtain ⟨j2, t⟩ := u2 j t
   exact ⟨j2 + 1, .step hB t3 t⟩
theorem cL_LpQ (hc : CTok P call) (hd : DTok P dr) {k : Nat} {b : Code} {e : Exit} {g' : List AV} {h' : HP} : ∀ (n m : Nat) {g : List AV} {h : HP}, h.ok → k ≤ h.n → cL P call dr k n m (.loop b) g h = some (e, g', h') →
 (h'.ok ∧ k ≤ h'.n) ∧ ∃ j, LpQ P k b e g' h'.L j g h.L
 | 0, m, g, h, hk, hn, q => by cases q
 | n + 1, m, g, h, hk, hn, q => by
  have q : lThen k m (fun m g h => cL P call dr k n m (.loop b) g h) (cL P call dr k n m b g h) = some (e, g', h') := q
  cases hb : cL P call dr k n m b g h with
  | none => rw [hb] at q; cases q
  | some r =>
   obtain ⟨e1, g1, h1⟩ := r
   rw [hb] at q
   obtain ⟨⟨k1, l1⟩, _⟩ := @cL_ok _ _ _ noDefers hc hd k n m b _ _ _ _ _ hk hn hb
   have hB : ∀ D : DSt, @BW D P k b (PostC e1 g1 h1.L) g h.L := fun D => (@cL_ok _ _ _ D hc hd k n m b _ _ _ _ _ hk hn hb).2
   by_cases hx : e1 = .normal
   ·subst hx
    obtain ⟨m2, g2, h2, t1, t2, t3, t4⟩ := lHead_ok k1 l1 q
    obtain ⟨u1, j, u2⟩ := cL_LpQ hc hd n m2 t1 t2 t4
    exact ⟨u1, j + 1, .step hB t3 u2⟩
   ·have hq : (some (e1, g1, h1) : KR) = some (e, g', h') := by cases e1 <;> first | exact q | exact absurd rfl hx
    cases hq
    exact ⟨⟨k1, l1⟩, 1, .fin hB hx⟩
end
def restOf (P : Program) (k : Nat) [DSt] : Code → (Exit → List AV → List AO → Prop) → Exit → List AV → List AO → Prop
 | .seq a b, Q => match loopOf a [] with
  | some _ => restOf P k a (thenA (BW P k b Q) Q)
  | none => restOf P k b Q
 | .block i b, Q => restOf P k b (blockA i Q)
 | _, Q => Q
noncomputable def restL (P : Program) (call : CT) (dr : DT) (fuel k m : Nat) : Code → KR → KR
 | .seq a b, r => match loopOf a [] with
  | some _ => cThen (cL P call dr k fuel m b) (restL P call dr fuel k m a r)
  | none => restL P call dr fuel k m b r
 | .block i b, r => cBlk i (restL P call dr fuel k m b r)
 | _, r => r
noncomputable def toLp (P : Program) (call : CT) (dr : DT) (fuel k m : Nat) : Code → List AV → HP → Option GH
 | .seq a b, g, h => match loopOf a [] with
  | some _ => toLp P call dr fuel k m a g h
  | none => match cL P call dr k fuel m a g h with
   | some (.normal, g', h') => toLp P call dr fuel k m b g' h'
   | _ => none
 | .block i b, g, h => toLp P call dr fuel k m b g h
 | .loop b, g, h => some (g, h)
 | _, _, _ => none
section
variable {P : Program} {call : CT} {dr : DT} {fuel k m : Nat}
theorem restL_none : ∀ c, restL P call dr fuel k m c none = none := by
 intro c
 induction c with
 | seq a b iha ihb =>
  simp only [restL]
  split
  ·rw [iha]; rfl
  ·exact ihb
 | block i b ih => simp only [restL]; rw [ih]; rfl
 | _ => rfl
theorem restL_ok [D : DSt] (hc : CTok P call) (hd : DTok P dr) : ∀ (c : Code) {e : Exit} {g : List AV} {h : HP} {e' : Exit} {g' : List AV} {h' : HP}, h.ok → k ≤ h.n → restL P call dr fuel k m c (some (e, g, h)) = some (e', g', h') →
 (h'.ok ∧ k ≤ h'.n) ∧ ∀ Q : Exit → List AV → List AO → Prop, Q e' g' h'.L → restOf P k c Q e g h.L := by
 intro c
 induction c with
 | seq a b iha ihb =>
  intro e g h e' g' h' hk hn q
  simp only [restL] at q
  simp only [restOf]
  cases hl : loopOf a [] with
  | none =>
   rw [hl] at q
   exact ihb hk hn q
  | some x =>
   rw [hl] at q
   dsimp only at q ⊢
   cases ha : restL P call dr fuel k m a (some (e, g, h)) with
   | none => rw [ha] at q; cases q
   | some r1 =>
    obtain ⟨e1, g1, h1⟩ := r1
    rw [ha] at q
    obtain ⟨⟨k1, l1⟩, a1⟩ := iha hk hn ha
    by_cases hx : e1 = .normal
    ·subst hx
     obtain ⟨k2, b2⟩ := cL_ok hc hd k fuel m b k1 l1 q
     refine ⟨k2, fun Q hQ => a1 _ ?_⟩
     refine b2.mono ?_
     rintro _ _ _ ⟨rfl, rfl, rfl⟩
     exact hQ
    ·have hq : (some (e1, g1, h1) : KR) = some (e', g', h') := by cases e1 <;> first | exact q | exact absurd rfl hx
     cases hq
     refine ⟨⟨k1, l1⟩, fun Q hQ => a1 _ ?_⟩
     cases e' <;> first | exact absurd rfl hx | exact hQ
 | block i b ih =>
  intro e g h e' g' h' hk hn q
  simp only [restL] at q
  simp only [restOf]
  cases hb : restL P call dr fuel k m b (some (e, g, h)) with
  | none => rw [hb] at q; cases q
  | some r1 =>
   obtain ⟨e1, g1, h1⟩ := r1
   rw [hb] at q
   obtain ⟨k1, a1⟩ := ih hk hn hb
   have k2 : h' = h1 ∧ g' = g1 := by
    cases e1 <;> first | (cases q; exact ⟨rfl, rfl⟩) | skip
    simp only [cBlk] at q
    split at q <;> (cases q; exact ⟨rfl, rfl⟩)
   obtain ⟨rfl, rfl⟩ := k2
   refine ⟨k1, fun Q hQ => a1 _ ?_⟩
   cases e1 <;> first | (cases q; exact hQ) | skip
   rename_i j
   simp only [cBlk] at q
   simp only [blockA]
   cases hj : Nat.beq j i
   ·rw [hj] at q
    rw [if_neg (by intro t; subst t; simp at hj)]
    cases q; exact hQ
   ·rw [hj] at q
    rw [if_pos (Nat.eq_of_beq_eq_true hj)]
    cases q; exact hQ
 | _ => intro e g h e' g' h' hk hn q; cases q; exact ⟨⟨hk, hn⟩, fun Q hQ => hQ⟩
theorem toLp_ok [D : DSt] (hc : CTok P call) (hd : DTok P dr) : ∀ (c : Code) {g : List AV} {h : HP} {g1 : List AV} {h1 : HP}, h.ok → k ≤ h.n → toLp P call dr fuel k m c g h = some (g1, h1) →
 (h1.ok ∧ k ≤ h1.n) ∧ ∀ Q : Exit → List AV → List AO → Prop, BW P k (.loop (lpBody c)) (restOf P k c Q) g1 h1.L → BW P k c Q g h.L := by
 have hlp : ∀ (c : Code) (K K' : List Fr), (loopOf c K).map (·.2) = (loopOf c K').map (·.2) := by
  intro c
  induction c with
  | seq a b iha ihb =>
   intro K K'
   have h1 := iha (.sq b :: K) (.sq b :: K')
   have h2 := ihb K K'
   simp only [loopOf]
   cases ha : loopOf a (.sq b :: K) <;> cases ha' : loopOf a (.sq b :: K') <;> rw [ha, ha'] at h1 <;> first | exact h2 | exact h1 | (cases h1; done)
  | block i b ih => intro K K'; simp only [loopOf]; exact ih _ _
  | loop b ih => intro K K'; rfl
  | _ => intro K K'; rfl
 have hbd : ∀ (c : Code) (K : List Fr), lpBody c = ((loopOf c K).map (·.2)).getD .skip := fun c K => by
  rw [hlp c K []]
  unfold lpBody
  cases loopOf c [] <;> rfl
 intro c
 induction c with
 | seq a b iha ihb =>
  intro g h g1 h1 hk hn q
  simp only [toLp] at q
  cases hl : loopOf a [] with
  | some x =>
   rw [hl] at q
   obtain ⟨k1, a1⟩ := iha hk hn q
   refine ⟨k1, fun Q hQ => BW_seq (a1 _ ?_)⟩
   have e1 : lpBody (.seq a b) = lpBody a := by
    rw [hbd (.seq a b) [], hbd a [.sq b]]
    have h1 := loopOf_nil a [.sq b]
    rw [hl] at h1
    simp only [loopOf]
    cases ha : loopOf a [.sq b] with
    | none => rw [ha] at h1; cases h1
    | some y => rfl
   rw [e1] at hQ
   simp only [restOf, hl] at hQ
   exact hQ
  | none =>
   rw [hl] at q
   dsimp only at q
   split at q
   ·rename_i g2 h2 ha
    obtain ⟨⟨k2, l2⟩, b2⟩ := cL_ok hc hd k fuel m a hk hn ha
    obtain ⟨k1, a1⟩ := ihb k2 l2 q
    refine ⟨k1, fun Q hQ => BW_seq (b2.mono ?_)⟩
    rintro _ _ _ ⟨rfl, rfl, rfl⟩
    refine a1 Q ?_
    have e1 : lpBody (.seq a b) = lpBody b := by
     rw [hbd (.seq a b) [], hbd b []]
     have h1 := loopOf_nil a [.sq b]
     rw [hl] at h1
     simp only [loopOf]
     cases ha : loopOf a [.sq b] with
     | none => rfl
     | some y => rw [ha] at h1; cases h1
    rw [e1] at hQ
    simp only [restOf, hl] at hQ
    exact hQ
   ·cases q
 | block i b ih =>
  intro g h g1 h1 hk hn q
  obtain ⟨k1, a1⟩ := ih hk hn q
  refine ⟨k1, fun Q hQ => BW_block (a1 _ ?_)⟩
  have e1 : lpBody (.block i b) = lpBody b := by
   rw [hbd (.block i b) [], hbd b [.bl i]]
   rfl
  rw [e1] at hQ
  exact hQ
 | loop b ih =>
  intro g h g1 h1 hk hn q
  cases q
  exact ⟨⟨hk, hn⟩, fun Q hQ => hQ⟩
 | _ => intro g h g1 h1 hk hn q; cases q
end
section
variable (P : Program) (bwT : BWT) (kT : List (FuncId × (List AV → HP → OR2))) (es : List ME)
noncomputable def headL (e : ME) (g : List AV) (h : HP) : Bool := cutQ e.i.length g h (toLp P (cal P bwT kT es) (fRun P (cal P bwT kT es)) fu e.i.length (Nat.add e.i.length 48) (fnCode P e.f) (fnStart P e.f e.a) (hpIn e.i))
noncomputable def itsL (f k n : Nat) (g : List AV) (h : HP) (g2 : List AV) (h2 : HP) : Bool := cutQ k g2 h2 (itQ P (cal P bwT kT es) (fRun P (cal P bwT kT es)) fu k (lpBody (fnCode P f)) n (Nat.add h.n 48) g h)
noncomputable def lastL (e : ME) (g : List AV) (h : HP) : Bool :=
 meEnd e (cEnd P e.i.length (fnRes P e.f) (restL P (cal P bwT kT es) (fRun P (cal P bwT kT es)) fu e.i.length (Nat.add h.n 48) (fnCode P e.f) (cL P (cal P bwT kT es) (fRun P (cal P bwT kT es)) e.i.length fu (Nat.add h.n 48) (.loop (lpBody (fnCode P e.f))) g h)))
def ToL (f k : Nat) (g : List AV) (h : HP) (g2 : List AV) (h2 : HP) : Prop := h.ok → k ≤ h.n → (h2.ok ∧ k ≤ h2.n) ∧ ∀ (e : Exit) (g' : List AV) (H' : List AO) j, LpQ P k (lpBody (fnCode P f)) e g' H' j g2 h2.L → ∃ j, LpQ P k (lpBody (fnCode P f)) e g' H' j g h.L
end
section
variable {P : Program} {bwT : BWT} {kT : List (FuncId × (List AV → HP → OR2))} {es : List ME}
theorem lNil {f k : Nat} {g : List AV} {h : HP} : ToL P f k g h g h := fun h1 h2 => ⟨⟨h1, h2⟩, fun _ _ _ j q => ⟨j, q⟩⟩
theorem lCons (hc : CTok P (cal P bwT kT es)) (hm : P.follows .mixedOrders = true) {f k n : Nat} {g g1 g2 : List AV} {h h1 h2 : HP} (a : itsL P bwT kT es f k n g h g1 h1 = true) (b : ToL P f k g1 h1 g2 h2) : ToL P f k g h g2 h2 := fun hk hn => by
 unfold itsL at a
 cases hi : itQ P (cal P bwT kT es) (fRun P (cal P bwT kT es)) fu k (lpBody (fnCode P f)) n (Nat.add h.n 48) g h with
 | none => rw [hi] at a; cases a
 | some gh =>
  obtain ⟨g0, h0⟩ := gh
  rw [hi] at a
  obtain ⟨⟨k0, l0⟩, _⟩ := itQ_ok hc (fRun_ok hm hc) (e := .normal) (g' := []) (H' := []) n _ hk hn hi
  obtain ⟨k1, l1, v1⟩ := cutSt_ok k0 l0 a
  obtain ⟨k2, a2⟩ := b k1 l1
  refine ⟨k2, fun e g' H' j q => ?_⟩
  obtain ⟨j2, q⟩ := a2 e g' H' j q
  exact (itQ_ok hc (fRun_ok hm hc) (e := e) (g' := g') (H' := H') n _ hk hn hi).2 j2 (q.vs v1)
theorem goL (hN : namesOK P = true) (hc : CTok P (cal P bwT kT es)) (hm : P.follows .mixedOrders = true) {e : ME} (hl : hasLoop P e.f = true) {g1 g2 : List AV} {h1 h2 : HP} (h0 : headL P bwT kT es e g1 h1 = true) (hit : ToL P e.f e.i.length g1 h1 g2 h2) (hend : lastL P bwT kT es e g2 h2 = true) : MEok P e := by
 have hd := fRun_ok hm hc
 unfold hasLoop at hl
 cases hf : P.funcs[e.f]? with
 | none => rw [hf] at hl; cases hl
 | some fn =>
  rw [hf] at hl
  dsimp only at hl
  cases hb : fn.body with
  | none => rw [hb] at hl; cases hl
  | some c =>
   have hname : (fn.name == "runtime.NumGoroutine") = false := by
    unfold namesOK at hN
    have := List.all_eq_true.1 hN fn (by rw [Array.mem_toList_iff]; exact Array.mem_of_getElem? hf)
    simpa using this
   have e1 : fnCode P e.f = c := by simp only [fnCode, hf, hb]
   have e2 : fnStart P e.f e.a = e.a ++ List.replicate (fn.ntmps - e.a.length) (.v undef) := by simp only [fnStart, hf]
   have e3 : fnRes P e.f = fn.results.toList := by simp only [fnRes, hf]
   have hk0 : (hpIn e.i).ok := by simp [HP.ok, hpIn]
   have hL0 : (hpIn e.i).L = e.i := by simp [HP.L, hpIn]
   have hn0 : e.i.length ≤ (hpIn e.i).n := Nat.le_refl _
   unfold headL at h0
   rw [e1, e2] at h0
   cases ht : toLp P (cal P bwT kT es) (fRun P (cal P bwT kT es)) fu e.i.length (Nat.add e.i.length 48) c (e.a ++ List.replicate (fn.ntmps - e.a.length) (.v undef)) (hpIn e.i) with
   | none => rw [ht] at h0; cases h0
   | some gh =>
    obtain ⟨g0, hp0⟩ := gh
    rw [ht] at h0
    obtain ⟨⟨k0, l0⟩, _⟩ := @toLp_ok _ _ _ _ _ _ noDefers hc hd c _ _ _ _ hk0 hn0 ht
    obtain ⟨k1, l1, v1⟩ := cutSt_ok k0 l0 h0
    obtain ⟨⟨k2, l2⟩, a2⟩ := hit k1 l1
    unfold lastL at hend
    rw [e1, e3] at hend
    rw [e1] at a2
    cases hq : cL P (cal P bwT kT es) (fRun P (cal P bwT kT es)) e.i.length fu (Nat.add h2.n 48) (.loop (lpBody c)) g2 h2 with
    | none => rw [hq, restL_none] at hend; cases hend
    | some r =>
     obtain ⟨ex, g3, h3⟩ := r
     rw [hq] at hend
     obtain ⟨⟨k3, l3⟩, j, u⟩ := cL_LpQ hc hd fu _ k2 l2 hq
     obtain ⟨j1, u⟩ := a2 _ _ _ j u
     have u := u.vs v1
     cases hr : restL P (cal P bwT kT es) (fRun P (cal P bwT kT es)) fu e.i.length (Nat.add h2.n 48) c (some (ex, g3, h3)) with
     | none => rw [hr] at hend; cases hend
     | some r4 =>
      obtain ⟨e4, g4, h4⟩ := r4
      rw [hr] at hend
      obtain ⟨⟨k4, l4⟩, _⟩ := @restL_ok _ _ _ _ _ _ noDefers hc hd c _ _ _ _ _ _ k3 l3 hr
      have b1 : BT P e.i.length c (PostC e4 g4 h4.L) (e.a ++ List.replicate (fn.ntmps - e.a.length) (.v undef)) e.i := BT.of_BW fun D => by
       have := (@toLp_ok _ _ _ _ _ _ D hc hd c _ _ _ _ hk0 hn0 ht).2 (PostC e4 g4 h4.L) (by
        refine (@LpQ.bw _ _ _ _ _ _ D _ _ _ u).mono ?_
        rintro _ _ _ ⟨rfl, rfl, rfl⟩
        exact (@restL_ok _ _ _ _ _ _ D hc hd c _ _ _ _ _ _ k3 l3 hr).2 _ ⟨rfl, rfl, rfl⟩)
       rwa [hL0] at this
      cases hv : cEnd P e.i.length fn.results.toList (some (e4, g4, h4)) with
      | none => rw [hv] at hend; cases hend
      | some vh =>
       obtain ⟨v0, hr0⟩ := vh
       rw [hv] at hend
       have fin : cRes e.i.length h4 (resFs P g4 h4 fn.results.toList) = some (v0, hr0) → (hr0.ok ∧ e.i.length ≤ hr0.n) ∧ (match resAll P g4 h4.L fn.results.toList with
        | some vs => Fin e.i.length (result vs) h4.L (fun v1 H1 => v1 = v0 ∧ H1 = hr0.L)
        | none => False) := fun q => by
        rw [resFs_eq P g4 k4] at q
        cases hr : resAll P g4 h4.L fn.results.toList with
        | none => rw [hr] at q; cases q
        | some vs => rw [hr] at q; exact cGc_ok k4 l4 q
       have hx : e4 = .normal ∨ e4 = .ret := by cases e4 <;> first | exact .inl rfl | exact .inr rfl | (cases hv; done)
       have e5 : cRes e.i.length h4 (resFs P g4 h4 fn.results.toList) = some (v0, hr0) := by rcases hx with rfl | rfl <;> exact hv
       obtain ⟨q1, q2⟩ := fin e5
       refine meEnd_ok q1.1 (AFn_of_BT hf hb hname (b1.mono ?_)) hend
       rintro e1 _ _ ⟨rfl, rfl, rfl⟩
       rcases hx with rfl | rfl <;> exact q2
end
end Go.Abs
namespace Go.Abs
open Go
section
variable {P : Program} {H : List AO}
end
noncomputable def rowOf (e : ME) (id : Nat) : List AV := match nthO e.i id with
 | some (.cells 1 cs) => cs
 | _ => []
section
variable (P : Program) (bwT : BWT) (kT : List (FuncId × (List AV → HP → OR2))) (es : List ME)
end
end Go.Abs
