/- Part 1 of the texts that lead to repairNearestCard_holds. No condition. -/
import Derived.Orders
import Derived.Laws.AppendOwn
set_option linter.all false
namespace Go.Abs
open Go
inductive AV where
  | v (x : Value)
  | sl (id off len : Nat)
  | pt (id off : Nat)
  | im (n : Nat) (cs : List AV)
  | ip (cs : List AV)
  | ag (cs : List AV)
  | tu (vs : List AV)
  | fn (f : Fn) (first captured : List AV)
  | mp (id : Nat)
  | em
  | any
  | nb
  deriving Inhabited
structure Loc where
  b : Nat
  o : Nat
  sz : Nat
  cap : Nat
def lk (m : List Loc) (id : Nat) : Option Loc :=
 match m[id]? with
 | some L => if L.sz = 0 then none else some L
 | none => none
theorem lk_get {m : List Loc} {id : Nat} {L : Loc} (h : lk m id = some L) : m[id]? = some L ∧ L.sz ≠ 0 := by
 unfold lk at h
 split at h
 ·rename_i L' hL
  split at h
  ·cases h
  ·rename_i hs; injection h with h; subst h; exact ⟨hL, hs⟩
 ·cases h
theorem lk_of {m : List Loc} {id : Nat} {L : Loc} (h : m[id]? = some L) (hs : L.sz ≠ 0) : lk m id = some L := by
 unfold lk; rw [h]; simp [hs]
mutual
def VR (I : Nat → Prop) (m : List Loc) (w : World) : AV → Value → Prop
 | .v x, y => y = x
 | .sl id off len, y => ∃ L A c, lk m id = some L ∧ off + c * L.sz = L.cap ∧ len ≤ c ∧ (c = 0 ∨ A = some ⟨L.b, L.o + off, none⟩) ∧ y = .slice A len c
 | .pt id off, y => ∃ L, lk m id = some L ∧ y = .pointer (some ⟨L.b, L.o + off, none⟩)
 | .im n cs, y => ∃ A c, y = .slice A n c ∧ n ≤ c ∧ (cs = [] ∨ ∃ b o, A = some ⟨b, o, none⟩ ∧ I b ∧ CR I m w b cs o)
 | .ip cs, y => ∃ b o, y = .pointer (some ⟨b, o, none⟩) ∧ I b ∧ CR I m w b cs o
 | .ag cs, y => ∃ xs, y = .agg xs ∧ VRs I m w cs xs.toList
 | .tu cs, y => ∃ xs, y = .tuple xs ∧ VRs I m w cs xs.toList
 | .fn f a b, y => ∃ xs ys, y = .func f xs ys ∧ VRs I m w a xs.toList ∧ VRs I m w b ys.toList
 | .mp id, y => ∃ L, lk m id = some L ∧ y = .map (some L.b)
 | .em, y => ∃ A, y = .slice A 0 0
 | .any, _ => True
 | .nb, y => ∃ b, y = .bool b
def VRs (I : Nat → Prop) (m : List Loc) (w : World) : List AV → List Value → Prop
 | [], ys => ys = []
 | c :: cs, ys => ∃ y zs, ys = y :: zs ∧ VR I m w c y ∧ VRs I m w cs zs
def CR (I : Nat → Prop) (m : List Loc) (w : World) (b : Nat) : List AV → Nat → Prop
 | [], _ => True
 | c :: cs, o => (∃ x, w.cell? ⟨b, o, none⟩ = some x ∧ VR I m w c x) ∧ CR I m w b cs (o + 1)
end
theorem cell_of_heap {w w' : World} {b o : Nat} (h : w'.heap[b]? = w.heap[b]?) : w'.cell? ⟨b, o, none⟩ = w.cell? ⟨b, o, none⟩ := World.cell?_of_block (a := ⟨b, o, none⟩) h
section mono
variable {I I' : Nat → Prop} {m nu : List Loc} {w w' : World}
theorem loc_pre {id : Nat} {L : Loc} (h : m[id]? = some L) : (m ++ nu)[id]? = some L := by
 rw [List.getElem?_append_left]; exact h
 exact (List.getElem?_eq_some_iff.1 h).1
theorem lk_pre {id : Nat} {L : Loc} (h : lk m id = some L) : lk (m ++ nu) id = some L := lk_of (loc_pre (lk_get h).1) (lk_get h).2
mutual
theorem VR.mono (hI : ∀ b, I b → I' b) (hw : ∀ b, I b → w'.heap[b]? = w.heap[b]?) : ∀ (c : AV) (x : Value), VR I m w c x → VR I' (m ++ nu) w' c x
 | .v _, _, h => by simpa only [VR] using h
 | .sl _ _ _, _, h => by
  simp only [VR] at h ⊢
  obtain ⟨L, A, c, h1, h2⟩ := h
  exact ⟨L, A, c, lk_pre h1, h2⟩
 | .pt _ _, _, h => by
  simp only [VR] at h ⊢
  obtain ⟨L, h1, h2⟩ := h
  exact ⟨L, lk_pre h1, h2⟩
 | .im n cs, _, h => by
  simp only [VR] at h ⊢
  obtain ⟨A, c, h1, h0, h2⟩ := h
  refine ⟨A, c, h1, h0, h2.imp id fun ⟨b, o, h3, h4, h5⟩ => ⟨b, o, h3, hI b h4, CR.mono hI hw h4 cs o h5⟩⟩
 | .ip cs, _, h => by
  simp only [VR] at h ⊢
  obtain ⟨b, o, h3, h4, h5⟩ := h
  exact ⟨b, o, h3, hI b h4, CR.mono hI hw h4 cs o h5⟩
 | .ag cs, _, h => by
  simp only [VR] at h ⊢
  obtain ⟨xs, h1, h2⟩ := h
  exact ⟨xs, h1, VRs.mono hI hw cs _ h2⟩
 | .tu cs, _, h => by
  simp only [VR] at h ⊢
  obtain ⟨xs, h1, h2⟩ := h
  exact ⟨xs, h1, VRs.mono hI hw cs _ h2⟩
 | .fn f a b, _, h => by
  simp only [VR] at h ⊢
  obtain ⟨xs, ys, h1, h2, h3⟩ := h
  exact ⟨xs, ys, h1, VRs.mono hI hw a _ h2, VRs.mono hI hw b _ h3⟩
 | .mp _, _, h => by
  simp only [VR] at h ⊢
  obtain ⟨L, h1, h2⟩ := h
  exact ⟨L, lk_pre h1, h2⟩
 | .em, _, h => by simpa only [VR] using h
 | .any, _, _ => by simp only [VR]
 | .nb, _, h => by simpa only [VR] using h
theorem VRs.mono (hI : ∀ b, I b → I' b) (hw : ∀ b, I b → w'.heap[b]? = w.heap[b]?) : ∀ (cs : List AV) (xs : List Value), VRs I m w cs xs → VRs I' (m ++ nu) w' cs xs
 | [], _, h => by simpa only [VRs] using h
 | c :: cs, _, h => by
  simp only [VRs] at h ⊢
  obtain ⟨y, zs, h1, h2, h3⟩ := h
  exact ⟨y, zs, h1, VR.mono hI hw c y h2, VRs.mono hI hw cs zs h3⟩
theorem CR.mono (hI : ∀ b, I b → I' b) (hw : ∀ b, I b → w'.heap[b]? = w.heap[b]?) {b : Nat} (hb : I b) : ∀ (cs : List AV) (o : Nat), CR I m w b cs o → CR I' (m ++ nu) w' b cs o
 | [], _, _ => by simp only [CR]
 | c :: cs, o, h => by
  simp only [CR] at h ⊢
  obtain ⟨⟨x, h1, h2⟩, h3⟩ := h
  exact ⟨⟨x, by rw [cell_of_heap (hw b hb)]; exact h1, VR.mono hI hw c x h2⟩, CR.mono hI hw hb cs (o + 1) h3⟩
end
end mono
theorem VRs.get {I : Nat → Prop} {m : List Loc} {w : World} : ∀ {cs : List AV} {xs : List Value}, VRs I m w cs xs → ∀ (i : Nat) c, cs[i]? = some c → ∃ x, xs[i]? = some x ∧ VR I m w c x
 | [], _, _, i, c, hc => by simp at hc
 | c :: cs, _, h, i, d, hd => by
  simp only [VRs] at h
  obtain ⟨y, zs, rfl, h2, h3⟩ := h
  cases i with
  | zero => simp at hd; subst hd; exact ⟨y, rfl, h2⟩
  | succ i => simp at hd; simpa using h3.get i d hd
theorem VRs.len {I : Nat → Prop} {m : List Loc} {w : World} : ∀ {cs : List AV} {xs : List Value}, VRs I m w cs xs → xs.length = cs.length
 | [], _, h => by simp only [VRs] at h; subst h; rfl
 | c :: cs, _, h => by
  simp only [VRs] at h
  obtain ⟨y, zs, rfl, _, h3⟩ := h
  simp [h3.len]
theorem VRs.of_get {I : Nat → Prop} {m : List Loc} {w : World} : ∀ {cs : List AV} {xs : List Value}, xs.length = cs.length → (∀ (i : Nat) c x, cs[i]? = some c → xs[i]? = some x → VR I m w c x) → VRs I m w cs xs
 | [], xs, h, _ => by simp only [VRs]; simpa using h
 | c :: cs, xs, h, hh => by
  cases xs with
  | nil => simp at h
  | cons x xs =>
   simp only [VRs]
   exact ⟨x, xs, rfl, hh 0 c x rfl rfl, VRs.of_get (by simpa using h) fun i c x h1 h2 => hh (i + 1) c x h1 h2⟩
theorem VRs.append {I : Nat → Prop} {m : List Loc} {w : World} : ∀ {cs ds : List AV} {xs ys : List Value}, VRs I m w cs xs → VRs I m w ds ys → VRs I m w (cs ++ ds) (xs ++ ys)
 | [], _, _, _, h, k => by simp only [VRs] at h; subst h; simpa using k
 | c :: cs, _, _, _, h, k => by
  simp only [VRs] at h
  obtain ⟨y, zs, rfl, h2, h3⟩ := h
  simp only [List.cons_append, VRs]
  exact ⟨y, _, rfl, h2, h3.append k⟩
theorem CR.get {I : Nat → Prop} {m : List Loc} {w : World} {b : Nat} : ∀ {cs : List AV} {o : Nat}, CR I m w b cs o → ∀ (i : Nat) c, cs[i]? = some c → ∃ x, w.cell? ⟨b, o + i, none⟩ = some x ∧ VR I m w c x
 | [], _, _, i, c, hc => by simp at hc
 | c :: cs, o, h, i, d, hd => by
  simp only [CR] at h
  obtain ⟨⟨x, h1, h2⟩, h3⟩ := h
  cases i with
  | zero => simp at hd; subst hd; exact ⟨x, h1, h2⟩
  | succ i =>
   simp at hd
   obtain ⟨x, h4, h5⟩ := h3.get i d hd
   exact ⟨x, by rw [← h4]; congr 2; omega, h5⟩
theorem CR.of_get {I : Nat → Prop} {m : List Loc} {w : World} {b : Nat} : ∀ {cs : List AV} {o : Nat}, (∀ (i : Nat) c, cs[i]? = some c → ∃ x, w.cell? ⟨b, o + i, none⟩ = some x ∧ VR I m w c x) → CR I m w b cs o
 | [], _, _ => by simp only [CR]
 | c :: cs, o, h => by
  simp only [CR]
  refine ⟨?_, CR.of_get fun i d hd => ?_⟩
  ·simpa using h 0 c rfl
  ·obtain ⟨x, h4, h5⟩ := h (i + 1) d (by simpa using hd)
   exact ⟨x, by rw [← h4]; congr 2; omega, h5⟩
theorem CR.drop {I : Nat → Prop} {m : List Loc} {w : World} {b o : Nat} {cs : List AV} (h : CR I m w b cs o) (k : Nat) : CR I m w b (cs.drop k) (o + k) :=
 CR.of_get fun i c hc => by
  rw [List.getElem?_drop] at hc
  obtain ⟨x, h4, h5⟩ := h.get (k + i) c hc
  exact ⟨x, by rw [← h4]; congr 2; omega, h5⟩
def AV.one : AV → Bool
 | .ag _ | .tu _ | .any => false
 | .v x => x.oneCell'
 | _ => true
inductive AO where
  | cells (sz : Nat) (cs : List AV)
  | ice (sz : Nat) (cs : List AV)
  | raw (o : Obj)
  | mapv (ks : List Value) (vs : List AV)
  | tc (t : TypeId) (cs : List AV)
  | tf (t : TypeId) (cs : List AV)
  | fx (sz : Nat) (cs : List AV) (r : Option Nat)
  | mi (vs : List AV) (s : Nat) (sn : List Nat) (l : Nat)
  | dead
  deriving Inhabited
def AO.alive : AO → Bool
 | .dead | .ice _ _ => false
 | _ => true
def bty : TypeId := 331
def roomOK : Option Nat → Nat → Nat → Prop
 | none, n, cap => cap = n
 | some k, n, cap => n + k ≤ cap
def OR (I : Nat → Prop) (m : List Loc) (w : World) : AO → Loc → Prop
 | .cells sz cs, L => L.sz = sz ∧ cs.length ≤ L.cap ∧ (L.cap ≠ 0 → ∃ c E fz, w.heap[L.b]? = some (.cells c E fz) ∧ (∀ j, fz.1 ≤ j → j < fz.2 → c.size ≤ j) ∧ L.o + L.cap ≤ c.size ∧ ∀ (i : Nat) x, cs[i]? = some x → ∃ y, c[L.o + i]? = some y ∧ VR I m w x y ∧ x.one = true)
 | .ice sz cs, L => L.sz = sz ∧ cs.length ≤ L.cap ∧ (L.cap ≠ 0 → I L.b ∧ CR I m w L.b cs L.o)
 | .raw o, L => L.cap ≠ 0 ∧ w.heap[L.b]? = some o ∧ L.o = 0
 | .mapv ks vs, L => L.cap ≠ 0 ∧ ∃ (es : Array MapEntry) (cl : Nat), w.heap[L.b]? = some (.map es cl) ∧ es.toList.map (·.key) = ks ∧ VRs I m w vs (es.toList.map (·.val)) ∧ es.toList.map (·.born) = List.range ks.length ∧ cl = ks.length
 | .mi vs s sn l, L => (L.cap ≠ 0 ∧ L.o = 0) ∧ ∃ b : Nat, w.heap[L.b]? = some (.mapIter (some b) s sn.toArray l) ∧ VRs I m w vs [.map (some b)]
 | .tc t cs, L => (L.sz = 1 ∧ L.cap ≠ 0 ∧ L.o = 0 ∧ cs.length ≤ L.cap) ∧ ∃ c, (w.heap[L.b]? = some (.cells c t (0, 0)) ∧ c.size = L.cap ∧ (t = bty → c.size = 2)) ∧ ∀ (i : Nat) x, cs[i]? = some x → ∃ y, c[i]? = some y ∧ VR I m w x y ∧ x.one = true
 | .tf t cs, L => (L.sz = 1 ∧ L.cap ≠ 0 ∧ L.o = 0 ∧ cs.length ≤ L.cap) ∧ ∃ c fz, (w.heap[L.b]? = some (.cells c t fz) ∧ c.size = L.cap) ∧ ∀ (i : Nat) x, cs[i]? = some x → ∃ y, c[i]? = some y ∧ VR I m w x y ∧ x.one = true
 | .fx sz cs r, L => (L.sz = sz ∧ cs.length ≤ L.cap ∧ (L.cap ≠ 0 → ∃ c E fz, w.heap[L.b]? = some (.cells c E fz) ∧ (∀ j, fz.1 ≤ j → j < fz.2 → c.size ≤ j) ∧ L.o + L.cap ≤ c.size ∧ ∀ (i : Nat) x, cs[i]? = some x → ∃ y, c[L.o + i]? = some y ∧ VR I m w x y ∧ x.one = true)) ∧ roomOK r cs.length L.cap
 | .dead, _ => True
def Own (H : List AO) (m : List Loc) (b : Nat) : Prop := ∃ (id : Nat) (o : AO) (L : Loc), H[id]? = some o ∧ o.alive = true ∧ m[id]? = some L ∧ L.cap ≠ 0 ∧ L.b = b
def glo : List (Nat × List Value) := [(0, (List.range 20).map fun i => Value.int .u64 ((10 ^ i : Nat) : Int))]
def Gl (I : Nat → Prop) (w : World) : Prop := ∀ p ∈ glo, I p.1 ∧ ∃ t fz, w.heap[p.1]? = some (.cells p.2.toArray t fz)
theorem Gl.on {I I' : Nat → Prop} {w w' : World} (h : Gl I w) (hI : ∀ b, I b → I' b) (hw : ∀ b, I b → w'.heap[b]? = w.heap[b]?) : Gl I' w' := fun p hp => by
 obtain ⟨h1, t, fz, h2⟩ := h p hp
 exact ⟨hI _ h1, t, fz, by rw [hw _ h1]; exact h2⟩
structure HR (I : Nat → Prop) (m : List Loc) (H : List AO) (w : World) : Prop where
  len : m.length = H.length
  ob : ∀ (id : Nat) o L, H[id]? = some o → m[id]? = some L → OR I m w o L
  inj : ∀ (i j : Nat) oi oj Li Lj, i ≠ j → H[i]? = some oi → H[j]? = some oj → oi.alive = true → oj.alive = true → m[i]? = some Li → m[j]? = some Lj → Li.cap ≠ 0 → Lj.cap ≠ 0 → Li.b ≠ Lj.b
  imm : ∀ b, I b → ¬ Own H m b
  ilt : ∀ b, I b → b < w.heap.size
  gl : Gl I w
theorem lt_of_heap {w : World} {b : Nat} {o : Obj} (h : w.heap[b]? = some o) : b < w.heap.size := by
 rcases Nat.lt_or_ge b w.heap.size with h1 | h1
 ·exact h1
 ·rw [Array.getElem?_eq_none h1] at h; cases h
theorem HR.lt {I : Nat → Prop} {m : List Loc} {H : List AO} {w : World} (hr : HR I m H w) {id : Nat} {o : AO} {L : Loc} (h1 : H[id]? = some o) (h2 : o.alive = true) (h3 : m[id]? = some L) (h4 : L.cap ≠ 0) : L.b < w.heap.size := by
 have h := hr.ob id o L h1 h3
 cases o with
 | dead => cases h2
 | ice => cases h2
 | raw ob => simp only [OR] at h; exact lt_of_heap h.2.1
 | mapv ks vs => simp only [OR] at h; obtain ⟨_, es, cl, h1, _⟩ := h; exact lt_of_heap h1
 | mi vs s sn l => simp only [OR] at h; obtain ⟨_, b, h1, _⟩ := h; exact lt_of_heap h1
 | tc t cs => simp only [OR] at h; obtain ⟨_, c, h1, _⟩ := h; exact lt_of_heap h1.1
 | tf t cs => simp only [OR] at h; obtain ⟨_, c, fz, h1, _⟩ := h; exact lt_of_heap h1.1
 | cells sz cs =>
  simp only [OR] at h
  obtain ⟨_, _, h⟩ := h
  obtain ⟨c, E, fz, h5, _⟩ := h h4
  exact lt_of_heap h5
 | fx sz cs r =>
  simp only [OR] at h
  obtain ⟨⟨_, _, h⟩, _⟩ := h
  obtain ⟨c, E, fz, h5, _⟩ := h h4
  exact lt_of_heap h5
structure Ext (I : Nat → Prop) (m : List Loc) (O : Nat → Prop) (w : World) (I' : Nat → Prop) (m' : List Loc) (O' : Nat → Prop) (w' : World) : Prop where
  os : w'.os = w.os
  tape : w'.tape = w.tape
  output : w'.output = w.output
  size : w.heap.size ≤ w'.heap.size
  blk : ∀ b, b < w.heap.size → ¬ O b → w'.heap[b]? = w.heap[b]?
  imm : ∀ b, I b → I' b
  ow : ∀ b, O' b → O b ∨ w.heap.size ≤ b
  pre : ∃ nu, m' = m ++ nu
  inew : ∀ b, I' b → I b ∨ O b ∨ w.heap.size ≤ b
theorem Ext.refl (I : Nat → Prop) (m : List Loc) (O : Nat → Prop) (w : World) : Ext I m O w I m O w :=
 ⟨rfl, rfl, rfl, Nat.le_refl _, fun _ _ _ => rfl, fun _ h => h, fun _ h => .inl h, ⟨[], by simp⟩, fun _ h => .inl h⟩
theorem Ext.trans {I1 I2 I3 : Nat → Prop} {m1 m2 m3 : List Loc} {O1 O2 O3 : Nat → Prop} {w1 w2 w3 : World} (h : Ext I1 m1 O1 w1 I2 m2 O2 w2) (k : Ext I2 m2 O2 w2 I3 m3 O3 w3) : Ext I1 m1 O1 w1 I3 m3 O3 w3 where
 os := k.os.trans h.os
 tape := k.tape.trans h.tape
 output := k.output.trans h.output
 size := Nat.le_trans h.size k.size
 blk := fun b hb hn => by
  rw [k.blk b (Nat.lt_of_lt_of_le hb h.size) ?_, h.blk b hb hn]
  intro ho
  rcases h.ow b ho with h1 | h1
  ·exact hn h1
  ·omega
 imm := fun b hb => k.imm b (h.imm b hb)
 ow := fun b hb => by
  rcases k.ow b hb with h1 | h1
  ·exact h.ow b h1
  ·exact .inr (Nat.le_trans h.size h1)
 pre := by
  obtain ⟨n1, rfl⟩ := h.pre
  obtain ⟨n2, rfl⟩ := k.pre
  exact ⟨n1 ++ n2, by simp⟩
 inew := fun b hb => by
  rcases k.inew b hb with h1 | h1 | h1
  ·exact h.inew b h1
  ·exact .inr (h.ow b h1)
  ·exact .inr (.inr (Nat.le_trans h.size h1))
theorem Ext.vr {I I' : Nat → Prop} {m m' : List Loc} {H : List AO} {O' : Nat → Prop} {w w' : World} (hr : HR I m H w) (h : Ext I m (Own H m) w I' m' O' w') {c : AV} {x : Value} (k : VR I m w c x) : VR I' m' w' c x := by
 obtain ⟨nu, rfl⟩ := h.pre
 exact VR.mono h.imm (fun b hb => h.blk b (hr.ilt b hb) (hr.imm b hb)) c x k
theorem Ext.vrs {I I' : Nat → Prop} {m m' : List Loc} {H : List AO} {O' : Nat → Prop} {w w' : World} (hr : HR I m H w) (h : Ext I m (Own H m) w I' m' O' w') {c : List AV} {x : List Value} (k : VRs I m w c x) : VRs I' m' w' c x := by
 obtain ⟨nu, rfl⟩ := h.pre
 exact VRs.mono h.imm (fun b hb => h.blk b (hr.ilt b hb) (hr.imm b hb)) c x k
end Go.Abs
