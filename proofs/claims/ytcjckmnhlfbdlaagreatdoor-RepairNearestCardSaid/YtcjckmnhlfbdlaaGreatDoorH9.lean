/- Part 9 of the texts that lead to repairNearestCard_holds. No condition. -/
import Derived.Test.YtcjckmnhlfbdlaaGreatDoorH8
set_option linter.all false
namespace Go.Abs
open Go
noncomputable def nthO {α : Type} (l : List α) : Nat → Option α := List.rec (motive := fun _ => Nat → Option α) (fun _ => none) (fun a _ ih i => Nat.rec (motive := fun _ => Option α) (some a) (fun j _ => ih j) i) l
theorem nthO_eq {α : Type} : ∀ (l : List α) (i : Nat), nthO l i = l[i]?
 | [], i => by simp [nthO]
 | a :: l, 0 => rfl
 | a :: l, i + 1 => by
  have : nthO (a :: l) (i + 1) = nthO l i := rfl
  rw [this, nthO_eq l i]; simp
noncomputable def nthD {α : Type} (d : α) (l : List α) : Nat → α := List.rec (motive := fun _ => Nat → α) (fun _ => d) (fun a _ ih i => Nat.rec (motive := fun _ => α) a (fun j _ => ih j) i) l
theorem nthD_eq {α : Type} (d : α) : ∀ (l : List α) (i : Nat), nthD d l i = l.getD i d
 | [], i => by simp [nthD]
 | a :: l, 0 => rfl
 | a :: l, i + 1 => by
  have : nthD d (a :: l) (i + 1) = nthD d l i := rfl
  rw [this, nthD_eq d l i]; simp
noncomputable def setL {α : Type} (v : α) (l : List α) : Nat → List α := List.rec (motive := fun _ => Nat → List α) (fun _ => []) (fun a t ih i => Nat.rec (motive := fun _ => List α) (v :: t) (fun j _ => a :: ih j) i) l
theorem setL_eq {α : Type} (v : α) : ∀ (l : List α) (i : Nat), setL v l i = l.set i v
 | [], i => by simp [setL]
 | a :: l, 0 => rfl
 | a :: l, i + 1 => by
  have : setL v (a :: l) (i + 1) = a :: setL v l i := rfl
  rw [this, setL_eq v l i]; simp
noncomputable def putF (g : List AV) (v : AV) : Option Tmp → List AV
 | some d => setL v g d
 | none => g
theorem putF_eq (g : List AV) (v : AV) (d : Option Tmp) : putF g v d = put g d v := by
 cases d with
 | none => rfl
 | some d => simp only [putF, put, setL_eq]
noncomputable def evF (g : List AV) : Operand → AV
 | .tmp t => nthD (.v undef) g t
 | .const v => lift v
 | .global n => .v (.pointer (some ⟨n, 0, none⟩))
 | .func f => .fn (.func f) [] []
theorem evF_eq (g : List AV) (x : Operand) : evF g x = ev g x := by
 cases x <;> simp only [evF, ev, nthD_eq]
theorem evF_fun (g : List AV) : evF g = ev g := funext (evF_eq g)
structure HP where
  n : Nat
  r : List AO
def HP.L (h : HP) : List AO := h.r.reverse
def HP.ok (h : HP) : Prop := h.r.length = h.n
noncomputable def rGet (h : HP) (id : Nat) : Option AO := match Nat.blt id h.n with
 | true => nthO h.r (Nat.sub (Nat.sub h.n 1) id)
 | false => none
theorem rGet_eq {h : HP} (hk : h.ok) (id : Nat) : rGet h id = h.L[id]? := by
 unfold rGet HP.L HP.ok at *
 cases hb : Nat.blt id h.n
 ·have : ¬ id < h.n := fun hl => by rw [← Nat.blt_eq, hb] at hl; cases hl
  dsimp only
  rw [List.getElem?_eq_none (by simp; omega)]
 ·have : id < h.n := by rw [← Nat.blt_eq]; exact hb
  dsimp only
  rw [nthO_eq, List.getElem?_reverse (by omega), hk]; rfl
noncomputable def rSet (h : HP) (id : Nat) (o : AO) : HP := ⟨h.n, setL o h.r (Nat.sub (Nat.sub h.n 1) id)⟩
theorem rSet_ok {h : HP} (hk : h.ok) (id : Nat) (o : AO) : (rSet h id o).ok := by
 unfold rSet HP.ok at *; simp [setL_eq, hk]
theorem rSet_eq {h : HP} (hk : h.ok) {id : Nat} (hi : id < h.n) (o : AO) : (rSet h id o).L = h.L.set id o := by
 unfold rSet HP.L HP.ok at *
 apply List.ext_getElem?
 intro j
 simp only [setL_eq]
 by_cases hj : j < h.r.length
 ·rw [List.getElem?_reverse (by simpa using hj), List.getElem?_set, List.getElem?_set, List.getElem?_reverse hj]
  simp only [List.length_set, List.length_reverse]
  have e : (h.n.sub 1).sub id = h.r.length - 1 - id := by rw [hk]; rfl
  rw [e]
  by_cases hij : id = j
  ·subst hij
   rw [if_pos rfl, if_pos rfl, if_pos (by omega), if_pos hj]
  ·rw [if_neg (by omega), if_neg hij]
 ·rw [List.getElem?_eq_none (by simpa using hj), List.getElem?_eq_none (by simpa using hj)]
def rNew (h : HP) (o : AO) : HP := ⟨Nat.succ h.n, o :: h.r⟩
theorem rNew_ok {h : HP} (hk : h.ok) (o : AO) : (rNew h o).ok := by unfold rNew HP.ok at *; simp [hk]
theorem rNew_eq (h : HP) (o : AO) : (rNew h o).L = h.L ++ [o] := by unfold rNew HP.L; simp
theorem HP.len {h : HP} (hk : h.ok) : h.L.length = h.n := by unfold HP.L HP.ok at *; simpa using hk
theorem rGet_lt {h : HP} {id : Nat} {o : AO} (e : rGet h id = some o) : id < h.n := by
 unfold rGet at e
 cases hb : Nat.blt id h.n
 ·rw [hb] at e; cases e
 ·rw [← Nat.blt_eq]; exact hb
abbrev OR2 := Option (AV × HP)
def oPick (h : HP) (a b : AV) : AV → OR2
 | .v (.bool true) => some (a, h)
 | .v (.bool false) => some (b, h)
 | _ => none
noncomputable def oExtract (i : Nat) : AV → Option AV
 | .tu vs => nthO vs i
 | _ => none
noncomputable def fApart (P : Program) (t : TypeId) (cs : List AV) (off : Nat) : Option AV :=
 match ti P t with
 | some i => match isAggD i.desc with
  | true => if off + i.size ≤ cs.length then some (.ag ((cs.drop off).take i.size)) else none
  | false => nthO cs off
 | none => none
theorem fApart_eq (P : Program) (t : TypeId) (cs : List AV) (off : Nat) : fApart P t cs off = apart P t cs off := by
 unfold fApart apart
 cases ti P t with
 | none => rfl
 | some i =>
  dsimp only
  cases isAggD i.desc <;> simp only [nthO_eq, if_true] <;> rfl
def wrapH (h : HP) : Option AV → OR2
 | some v => some (v, h)
 | none => none
noncomputable def oField2 (P : Program) : Option Field → AV → Option AV
 | some fd, .ag cs => fApart P fd.type cs fd.offset
 | _, _ => none
noncomputable def oField (P : Program) (t : TypeId) (f : Nat) (x : AV) : Option AV := match ti P t with
 | some ⟨.struct fs, _, _, _⟩ => oField2 P (nthO fs.toList f) x
 | _ => none
def cellsO (off : Nat) : Option AO → Option (List AV × Nat)
 | some (.cells _ cs) => some (cs, off)
 | some (.ice _ cs) => some (cs, off)
 | _ => none
noncomputable def fCells (h : HP) : AV → Option (List AV × Nat)
 | .pt id off => cellsO off (rGet h id)
 | .ip cs => some (cs, 0)
 | _ => none
theorem fCells_eq {h : HP} (hk : h.ok) (x : AV) : fCells h x = acells h.L x := by
 cases x with
 | pt id off =>
  simp only [fCells, acells, rGet_eq hk]
  cases h.L[id]? with
  | none => rfl
  | some o => cases o <;> rfl
 | _ => rfl
noncomputable def oLoad2 (P : Program) (t : TypeId) : Option (List AV × Nat) → Option AV
 | some (cs, off) => fApart P t cs off
 | none => none
noncomputable def oStore2 (P : Program) (h : HP) (t : TypeId) (id off sz : Nat) (cs new : List AV) : OR2 := match ti P t with
 | some i => if new.all (·.one) = true ∧ i.size = new.length ∧ off + new.length ≤ cs.length then
  some (.v undef, rSet h id (.cells sz (setRange cs off new))) else none
 | none => none
noncomputable def oStore3 (P : Program) (h : HP) (t : TypeId) (id off : Nat) (new : List AV) : Option AO → OR2
 | some (.cells sz cs) => oStore2 P h t id off sz cs new
 | _ => none
noncomputable def oStore (P : Program) (h : HP) (t : TypeId) (x : AV) : AV → OR2
 | .pt id off => oStore3 P h t id off (flat x) (rGet h id)
 | _ => none
def oBox (h : HP) (cs : List AV) : OR2 := if cs.all (·.one) = true then some (.pt h.n 0, rNew h (.cells 1 cs)) else none
def oAlloc (P : Program) (h : HP) (t : TypeId) : OR2 := match ti P t with
 | some i => some (.pt h.n 0, rNew h (.cells 1 (i.zero.map .v)))
 | none => none
def oBuild (P : Program) (t : TypeId) (ps : List (Nat × AV)) : Option AV := match ti P t with
 | some ⟨.struct fs, _, _, z⟩ => if (fs.toList.all fun f => (ti P f.type).isSome) = true then (afill (fieldPlaces P fs) (z.map .v) ps).map AV.ag else none
 | some ⟨.array _ e, _, _, z⟩ => match ti P e with
  | some te => (afill (fun i => some (i * te.size, te.size)) (z.map .v) ps).map AV.ag
  | none => none
 | _ => none
def oBuildS3 (h : HP) (sz len : Nat) : Option (List AV) → OR2
 | some cs => if cs.all (·.one) = true then some (.sl h.n 0 len, rNew h (.cells sz cs)) else none
 | none => none
def oBuildS2 (P : Program) (h : HP) (len : Nat) (ps : List (Nat × AV)) : Option TI → OR2
 | some te => if len * te.size ≤ 16777216 ∧ te.size ≠ 0 then
  oBuildS3 h te.size len (afill (fun i => some (i * te.size, te.size)) ((List.replicate len (te.zero.map .v)).flatten) ps) else none
 | none => none
def oBuildS (P : Program) (h : HP) (t : TypeId) (len : Nat) (ps : List (Nat × AV)) : OR2 := match ti P t with
 | some ⟨.slice e, _, _, _⟩ => oBuildS2 P h len ps (ti P e)
 | _ => none
def oMakeS2 (h : HP) (l c : AV) (te : TI) : OR2 := match l, c with
 | .v (.int _ n), .v (.int _ n') => if n = n' ∧ 0 ≤ n ∧ n * te.bytes ≤ 140737488355328 ∧ n ≤ 9223372036854775807 ∧ te.size ≠ 0 then
  some (.sl h.n 0 n.toNat, rNew h (.cells te.size ((List.replicate n.toNat (te.zero.map .v)).flatten))) else none
 | _, _ => none
def oMakeS1 (P : Program) (h : HP) (l c : AV) (e : TypeId) : OR2 := match ti P e with
 | some te => oMakeS2 h l c te
 | none => none
def oMakeS (P : Program) (h : HP) (t : TypeId) (l c : AV) : OR2 := match ti P t with
 | some ⟨.slice e, _, _, _⟩ => oMakeS1 P h l c e
 | _ => none
def oFieldA2 (off : Nat) : AV → Option AV
 | .pt id o => some (.pt id (o + off))
 | .ip cs => if off < cs.length then some (.ip (cs.drop off)) else none
 | _ => none
def oFieldA3 (P : Program) (x : AV) : Option Field → Option AV
 | some fd => match ti P fd.type with
  | some tf => if tf.size = 0 then none else oFieldA2 fd.offset x
  | none => none
 | none => none
noncomputable def oFieldA (P : Program) (t : TypeId) (f : Nat) (x : AV) : Option AV := match ti P t with
 | some ⟨.struct fs, _, _, _⟩ => oFieldA3 P x (nthO fs.toList f)
 | _ => none
def blt (a b : Int) : Bool := match a, b with
 | .ofNat m, .ofNat n => Nat.blt m n
 | .negSucc _, .ofNat _ => true
 | .ofNat _, .negSucc _ => false
 | .negSucc m, .negSucc n => Nat.blt n m
theorem blt_eq (a b : Int) : blt a b = decide (a < b) := by
 cases a <;> cases b <;> simp only [blt] <;> rw [Bool.eq_iff_iff] <;> simp [Nat.blt_eq] <;> omega
def ieq (a b : Int) : Bool := match a, b with
 | .ofNat m, .ofNat n => Nat.beq m n
 | .negSucc m, .negSucc n => Nat.beq m n
 | _, _ => false
theorem ieq_eq (a b : Int) : ieq a b = (a == b) := by
 rw [Bool.eq_iff_iff, beq_iff_eq]
 cases a <;> cases b <;> simp [ieq, Nat.beq_eq] <;> omega
def in64 (a : Int) : Bool := match a with
 | .ofNat m => Nat.ble m 9223372036854775807
 | .negSucc m => Nat.ble m 9223372036854775807
def wrapF : IntKind → Bool → Int → Int
 | .i64, true, a => a
 | k, _, a => k.wrap a
theorem in64_spec {a : Int} (h : in64 a = true) : -9223372036854775808 ≤ a ∧ a ≤ 9223372036854775807 := by
 cases a <;> simp only [in64, Nat.ble_eq, Int.ofNat_eq_natCast] at h ⊢ <;> omega
theorem wrapF_eq (k : IntKind) (a : Int) : wrapF k (in64 a) a = k.wrap a := by
 cases h : in64 a
 ·cases k <;> rfl
 ·have := in64_spec h
  cases k <;> try rfl
  simp only [wrapF, IntKind.wrap, IntKind.signed, IntKind.bits]
  simp
  split <;> omega
def fInt (k : IntKind) (a b : Int) : BinOp → Option Value
 | .add => some (.int k (wrapF k (in64 (a + b)) (a + b)))
 | .sub => some (.int k (wrapF k (in64 (a - b)) (a - b)))
 | .eql => some (.bool (ieq a b))
 | .neq => some (.bool (!ieq a b))
 | .lss => some (.bool (blt a b))
 | .gtr => some (.bool (blt b a))
 | .leq => some (.bool (!blt b a))
 | .geq => some (.bool (!blt a b))
 | op => aint op k a b
theorem fInt_eq (k : IntKind) (a b : Int) (op : BinOp) : fInt k a b op = aint op k a b := by
 cases op <;> simp only [fInt, aint, wrapF_eq, ieq_eq, blt_eq, bne] <;> first | rfl | (congr 2; rw [Bool.eq_iff_iff]; simp)
def kindEq (a b : IntKind) : Bool := decide (a = b)
theorem kindEq_spec {k k' : IntKind} (h : kindEq k k' = true) : k = k' := by unfold kindEq at h; simpa using h
def fBin2 (k k' : IntKind) (a b : Int) : BinOp → Option Value
 | .shl => ashift .shl k a b
 | .shr => ashift .shr k a b
 | op => match kindEq k k' with
  | true => fInt k a b op
  | false => none
theorem fBin2_eq (k k' : IntKind) (a b : Int) (op : BinOp) : fBin2 k k' a b op = abin op (.int k a) (.int k' b) := by
 unfold fBin2 abin kindEq
 cases op <;> first | rfl | (simp only [fInt_eq]; by_cases h : k = k' <;> simp [h])
def vOpt : Option Value → Option AV
 | some v => some (.v v)
 | none => none
def oBinR (P : Program) (op : BinOp) (t : TypeId) (x y : AV) : Option AV := (aop P [x, y] [] (.binOp op t (.tmp 0) (.tmp 1) 0)).map (·.1)
def oBin (P : Program) (op : BinOp) (t : TypeId) (x y : AV) : Option AV := match x, y with
 | .v (.int k a), .v (.int k' b) => vOpt (fBin2 k k' a b op)
 | .v (.string a), .v (.string b) => vOpt (astr op a b)
 | x, y => oBinR P op t x y
def oUn (op : UnOp) : AV → Option AV
 | .v y => vOpt (aun op y)
 | .nb => match op with
  | .not => some .nb
  | _ => none
 | _ => none
noncomputable def oIndexS (s : ByteArray) (n : Int) : Option AV := if 0 ≤ n then (nthO s.data.toList n.toNat).map fun b => (AV.v (.int .u8 b.toNat)) else none
noncomputable def oIndex (P : Program) (t : TypeId) (x i : AV) : Option AV := match ti P t, x, i with
 | some ⟨.string, _, _, _⟩, .v (.string s), .v (.int _ n) => oIndexS s n
 | some ⟨.array len e, _, _, _⟩, .ag cs, .v (.int _ n) => match ti P e with
  | some te => if 0 ≤ n ∧ n < len then apart P e cs (n.toNat * te.size) else none
  | none => none
 | _, _, _ => none
def oNil : AV → Option AV
 | .pt id off => some (.pt id off)
 | .ip cs => some (.ip cs)
 | .fn (.func f) a b => some (.fn (.func f) a b)
 | _ => none
def oIndexA (P : Program) (t : TypeId) (x : AV) : AV → Option AV
 | .v (.int _ n) => aindexAddr P t x n
 | _ => none
def cutO (sz id off l hh : Nat) : Option AO → Option AV
 | some (.cells sz' _) => if sz' = sz then some (.sl id (off + l * sz) (hh - l)) else none
 | some (.ice sz' _) => if sz' = sz then some (.sl id (off + l * sz) (hh - l)) else none
 | _ => none
noncomputable def oCut (h : HP) (sz : Nat) (x : AV) (l hh : Nat) : Option AV := match x with
 | .im _ cs => if l = hh then some (.im 0 []) else some (.im (hh - l) (cs.drop (l * sz)))
 | .sl id off _ => cutO sz id off l hh (rGet h id)
 | x => acut [] sz x l hh
theorem oCut_eq {h : HP} (hk : h.ok) : oCut h = acut h.L := by
 funext sz x l hh
 cases x with
 | sl id off n =>
  simp only [oCut, acut, rGet_eq hk]
  cases h.L[id]? with
  | none => rfl
  | some o => cases o <;> rfl
 | im n cs => rfl
 | v y => cases y <;> first | rfl | (rename_i a b c; cases a <;> first | rfl | (cases b <;> first | rfl | (cases c <;> rfl)))
 | _ => rfl
noncomputable def oSliceS (x : AV) (lo hi : Option AV) : Option AV := match x with
 | .v (.string s) => match boundOf lo 0, boundOf hi s.size with
  | some l, some h => if 0 ≤ l ∧ l ≤ h ∧ h ≤ s.size then some (.v (.string (s.extract l.toNat h.toNat))) else none
  | _, _ => none
 | _ => none
noncomputable def oSliceL (P : Program) (h : HP) (e : TypeId) (x : AV) (lo hi : Option AV) : Option AV := match ti P e, lenS x with
 | some te, some n => match boundOf lo 0, boundOf hi n with
  | some l, some hh => if 0 ≤ l ∧ l ≤ hh ∧ hh ≤ n then oCut h te.size x l.toNat hh.toNat else none
  | _, _ => none
 | _, _ => none
noncomputable def oSlice (P : Program) (h : HP) (t : TypeId) (x : AV) (lo hi mx : Option AV) : Option AV := match ti P t with
 | none => none
 | some d => match d.desc, mx with
  | .string, none => oSliceS x lo hi
  | .slice e, none => oSliceL P h e x lo hi
  | _, _ => aslice P [] t x lo hi mx
theorem oSlice_eq {P : Program} {h : HP} (hk : h.ok) (t : TypeId) (x : AV) (lo hi mx : Option AV) : oSlice P h t x lo hi mx = aslice P h.L t x lo hi mx := by
 unfold oSlice aslice
 cases ti P t with
 | none => rfl
 | some d =>
  obtain ⟨d, a, b, c⟩ := d
  dsimp only
  cases d <;> cases mx <;> first | rfl | skip
  rename_i e
  simp only [oSliceL, oCut_eq hk]
  cases ti P e <;> cases lenS x <;> first | rfl | skip
def firstO (size n off k : Nat) : Option AO → Option (List AV)
 | some (.cells sz cs) => if sz = size ∧ n ≤ k ∧ off + n * size ≤ cs.length then some ((cs.drop off).take (n * size)) else none
 | some (.ice sz cs) => if sz = size ∧ n ≤ k ∧ off + n * size ≤ cs.length then some ((cs.drop off).take (n * size)) else none
 | _ => none
noncomputable def oFirst (h : HP) (size n : Nat) : AV → Option (List AV)
 | .sl id off k => firstO size n off k (rGet h id)
 | x => firstA [] size n x
theorem oFirst_eq {h : HP} (hk : h.ok) (size n : Nat) (x : AV) : oFirst h size n x = firstA h.L size n x := by
 cases x with
 | sl id off k =>
  simp only [oFirst, firstA, rGet_eq hk]
  cases h.L[id]? with
  | none => rfl
  | some o => cases o <;> rfl
 | v y => cases y <;> first | rfl | (rename_i a b c; cases a <;> rfl)
 | _ => rfl
noncomputable def rApp3 (h : HP) (te : TI) (n len id off : Nat) (new : List AV) : Option AO → OR2
 | some (.cells sz cs) => if sz = te.size ∧ off + len * sz = cs.length ∧ (len + n) * te.bytes ≤ 140737488355328 ∧ len + n ≤ 9223372036854775807 then
  some (.sl h.n 0 (len + n), rNew (rSet h id .dead) (.cells sz (cs.drop off ++ new))) else none
 | _ => none
noncomputable def rApp2 (h : HP) (te : TI) (n : Nat) (s : AV) (new : List AV) : OR2 :=
 if new.all (·.one) = true ∧ te.size ≠ 0 ∧ new.length = n * te.size then
  match s with
  | .v (.slice none 0 0) | .em => if n * te.bytes ≤ 140737488355328 ∧ n ≤ 9223372036854775807 then some (.sl h.n 0 n, rNew h (.cells te.size new)) else none
  | .sl id off len => rApp3 h te n len id off new (rGet h id)
  | _ => none
 else none
noncomputable def rApp1 (h : HP) (te : TI) (n : Nat) (s : AV) : Option (List AV) → OR2
 | some new => rApp2 h te n s new
 | none => none
noncomputable def rAppN (h : HP) (te : TI) (s x : AV) : Option Nat → OR2
 | some n => rApp1 h te n s (oFirst h te.size n x)
 | none => none
noncomputable def rApp0 (h : HP) (s x : AV) (d : TypeDesc) : Option TI → OR2
 | some te => match isIntD d with
  | true => none
  | false => rAppN h te s x (lenA x)
 | none => none
noncomputable def rAppend (P : Program) (h : HP) (t u : TypeId) (s x : AV) : OR2 := match ti P t, ti P u with
 | some ⟨.slice e, _, _, _⟩, some ⟨d, _, _, _⟩ => rApp0 h s x d (ti P e)
 | _, _ => none
def toH (r : OR2) : Option (AV × List AO) := r.map fun p => (p.1, p.2.L)
def okR (h0 : HP) (r : OR2) : Prop := ∀ v h, r = some (v, h) → h.ok ∧ h0.n ≤ h.n
theorem okR_none {h0 : HP} : okR h0 none := fun _ _ e => by cases e
theorem okR_id {v : AV} {h : HP} (hk : h.ok) : okR h (some (v, h)) := fun _ _ e => by cases e; exact ⟨hk, Nat.le_refl _⟩
theorem okR_new {v : AV} {h : HP} (hk : h.ok) (o : AO) : okR h (some (v, rNew h o)) := fun _ _ e => by cases e; exact ⟨rNew_ok hk _, Nat.le_succ _⟩
theorem okR_set {v : AV} {h : HP} (hk : h.ok) (i : Nat) (o : AO) : okR h (some (v, rSet h i o)) := fun _ _ e => by cases e; exact ⟨rSet_ok hk _ _, Nat.le_refl _⟩
theorem okR_sn {v : AV} {h : HP} (hk : h.ok) (i : Nat) (o o2 : AO) : okR h (some (v, rNew (rSet h i o) o2)) := fun _ _ e => by cases e; exact ⟨rNew_ok (rSet_ok hk _ _) _, Nat.le_succ _⟩
theorem okR_if {h0 : HP} {p : Prop} [Decidable p] {r : OR2} (hr : okR h0 r) : okR h0 (if p then r else none) := by split; exact hr; exact okR_none
theorem rAppend_eq {P : Program} {h : HP} (hk : h.ok) (t u : TypeId) (s x : AV) : toH (rAppend P h t u s x) = aappend P h.L t u s x ∧ okR h (rAppend P h t u s x) := by
 unfold rAppend aappend
 cases ti P t with
 | none => exact ⟨rfl, okR_none⟩
 | some i =>
  obtain ⟨d, a, b, c⟩ := i
  cases ti P u with
  | none => cases d <;> exact ⟨rfl, okR_none⟩
  | some j =>
   obtain ⟨d2, a2, b2, c2⟩ := j
   cases d <;> first | exact ⟨rfl, okR_none⟩ | skip
   rename_i e
   dsimp only
   cases ti P e with
   | none => exact ⟨rfl, okR_none⟩
   | some te =>
    simp only [rApp0]
    cases isIntD d2
    ·dsimp only
     rw [if_neg (by simp)]
     cases lenA x with
     | none => exact ⟨rfl, okR_none⟩
     | some n =>
      simp only [rAppN, oFirst_eq hk]
      cases firstA h.L te.size n x with
      | none => exact ⟨rfl, okR_none⟩
      | some new =>
       simp only [rApp1, rApp2]
       by_cases hc : new.all (·.one) = true ∧ te.size ≠ 0 ∧ new.length = n * te.size
       ·rw [if_pos hc, if_pos hc]
        have h0 : toH (if n * te.bytes ≤ 140737488355328 ∧ n ≤ 9223372036854775807 then some (.sl h.n 0 n, rNew h (.cells te.size new)) else none) =
         (if n * te.bytes ≤ 140737488355328 ∧ n ≤ 9223372036854775807 then some (.sl h.L.length 0 n, h.L ++ [.cells te.size new]) else none) := by
         split
         ·simp only [toH, Option.map_some, rNew_eq, HP.len hk]
         ·rfl
        have h0' : okR h (if n * te.bytes ≤ 140737488355328 ∧ n ≤ 9223372036854775807 then some (.sl h.n 0 n, rNew h (.cells te.size new)) else none) := okR_if (okR_new hk _)
        cases s with
        | em => exact ⟨h0, h0'⟩
        | v y =>
         cases y <;> first | exact ⟨rfl, okR_none⟩ | skip
         rename_i a b c
         cases a <;> first | exact ⟨rfl, okR_none⟩ | skip
         cases b <;> first | exact ⟨rfl, okR_none⟩ | skip
         cases c <;> first | exact ⟨rfl, okR_none⟩ | exact ⟨h0, h0'⟩
        | sl id off len =>
         simp only
         cases hg : rGet h id with
         | none => rw [rGet_eq hk] at hg; rw [hg]; exact ⟨rfl, okR_none⟩
         | some o =>
          have hlt := rGet_lt hg
          rw [rGet_eq hk] at hg
          rw [hg]
          cases o <;> first | exact ⟨rfl, okR_none⟩ | skip
          simp only [rApp3]
          split
          ·refine ⟨?_, okR_sn hk _ _ _⟩
           simp only [toH, Option.map_some, rNew_eq, rSet_eq hk hlt, HP.len hk]
          ·exact ⟨rfl, okR_none⟩
        | _ => exact ⟨rfl, okR_none⟩
       ·rw [if_neg hc, if_neg hc]; exact ⟨rfl, okR_none⟩
    ·exact ⟨rfl, okR_none⟩
noncomputable def oBytes : Option (List AV) → Option AV
 | some cs => (toBytes cs).map fun l => AV.v (.string ⟨l.toArray⟩)
 | none => none
noncomputable def rConvB (P : Program) (h : HP) (e : TypeId) (x : AV) : OR2 := match ti P e, lenA x with
 | some ⟨.int .u8, 1, _, _⟩, some n => wrapH h (oBytes (oFirst h 1 n x))
 | _, _ => none
def rConvS (P : Program) (h : HP) (e : TypeId) (s : ByteArray) : OR2 := match ti P e with
 | some ⟨.int .u8, 1, _, _⟩ => some (.sl h.n 0 s.size, rNew h (.cells 1 (s.data.toList.map fun b => .v (.int .u8 b.toNat))))
 | _ => none
noncomputable def rConv (P : Program) (h : HP) (s d : TypeId) (x : AV) : OR2 := match ti P s, ti P d, x with
 | some _, some ⟨.int k, _, _, _⟩, .v (.int _ n) => some (.v (.int k (wrapF k (in64 n) n)), h)
 | some _, some ⟨.string, _, _, _⟩, .v (.string s) => some (.v (.string s), h)
 | some ⟨.string, _, _, _⟩, some ⟨.slice e, _, _, _⟩, .v (.string s) => rConvS P h e s
 | some ⟨.slice e, _, _, _⟩, some ⟨.string, _, _, _⟩, x => rConvB P h e x
 | _, _, _ => none
theorem rConv_eq {P : Program} {h : HP} (hk : h.ok) (s d : TypeId) (g : List AV) (y : Operand) (x : AV) (hx : x = ev g y) : toH (rConv P h s d x) = aop P g h.L (.convert s d y) ∧ okR h (rConv P h s d x) := by
 unfold rConv
 rw [aop, ← hx]
 cases ti P s with
 | none => exact ⟨rfl, okR_none⟩
 | some i =>
  obtain ⟨ds, a, b, c⟩ := i
  cases ti P d with
  | none => cases ds <;> exact ⟨rfl, okR_none⟩
  | some j =>
   obtain ⟨dd, a2, b2, c2⟩ := j
   have hB : ∀ e, toH (rConvB P h e x) = (match ti P e, lenA x with
    | some ⟨.int .u8, 1, _, _⟩, some n => match firstA h.L 1 n x with
     | some cs => (toBytes cs).map fun l => (AV.v (.string ⟨l.toArray⟩), h.L)
     | none => none
    | _, _ => none) ∧ okR h (rConvB P h e x) := by
    intro e
    unfold rConvB
    split
    ·rename_i n _ _
     rw [oFirst_eq hk]
     cases firstA h.L 1 n x with
     | none => exact ⟨rfl, okR_none⟩
     | some cs =>
      simp only [oBytes]
      cases toBytes cs with
      | none => exact ⟨rfl, okR_none⟩
      | some l => exact ⟨rfl, okR_id hk⟩
    ·exact ⟨rfl, okR_none⟩
   have hS : ∀ e str, toH (rConvS P h e str) = (match ti P e with
    | some ⟨.int .u8, 1, _, _⟩ => some (.sl h.L.length 0 str.size, h.L ++ [.cells 1 (str.data.toList.map fun b => .v (.int .u8 b.toNat))])
    | _ => none) ∧ okR h (rConvS P h e str) := by
    intro e str
    unfold rConvS
    split
    ·exact ⟨by simp only [toH, Option.map_some, rNew_eq, HP.len hk], okR_new hk _⟩
    ·exact ⟨rfl, okR_none⟩
   have hI : ∀ (k : IntKind) (n : Int), toH (some (.v (.int k (wrapF k (in64 n) n)), h)) = some (.v (.int k (k.wrap n)), h.L) ∧ okR h (some (AV.v (.int k (wrapF k (in64 n) n)), h)) := fun k n => ⟨by rw [wrapF_eq]; rfl, okR_id hk⟩
   cases dd <;> cases ds <;> first | exact ⟨rfl, okR_none⟩ | exact hB _ | skip
   all_goals (clear hx; cases x <;> first | exact ⟨rfl, okR_none⟩ | exact hB _ | skip)
   all_goals (rename_i y2; cases y2 <;> first | exact ⟨rfl, okR_none⟩ | exact hB _ | exact hS _ _ | exact ⟨rfl, okR_id hk⟩ | exact hI _ _)
theorem oBinR_eq (P : Program) (g : List AV) (H : List AO) (op : BinOp) (t : TypeId) (x y : Operand) (u : TypeId) : aop P g H (.binOp op t x y u) = (oBinR P op t (ev g x) (ev g y)).map (·, H) := by
 unfold oBinR
 rw [aop, aop]
 have e0 : ∀ a b, ev [a, b] (.tmp 0) = a := fun _ _ => rfl
 have e1 : ∀ a b, ev [a, b] (.tmp 1) = b := fun _ _ => rfl
 rw [e0, e1]
 generalize ev g x = a
 generalize ev g y = b
 generalize ti P t = o
 rw [Option.map_map]
 split
 ·split <;> rfl
 ·rw [Option.map_map]; rfl
 ·split <;> rfl
 ·rfl
theorem oBinR_int (P : Program) (op : BinOp) (t : TypeId) (k k' : IntKind) (a b : Int) : oBinR P op t (.v (.int k a)) (.v (.int k' b)) = vOpt (abin op (.int k a) (.int k' b)) := by
 unfold oBinR
 rw [aop]
 show Option.map _ (Option.map _ (abin op (.int k a) (.int k' b))) = _
 cases abin op (.int k a) (.int k' b) <;> rfl
theorem oBinR_str (P : Program) (op : BinOp) (t : TypeId) (a b : ByteArray) : oBinR P op t (.v (.string a)) (.v (.string b)) = vOpt (astr op a b) := by
 unfold oBinR
 rw [aop]
 show Option.map _ (Option.map _ (abin op (.string a) (.string b))) = _
 show Option.map _ (Option.map _ (astr op a b)) = _
 cases astr op a b <;> rfl
theorem abuiltin_pure (P : Program) (H : List AO) (b : Builtin) (ats : Array TypeId) (args : List AV) (h1 : b ≠ .append) (h2 : b ≠ .clear) : abuiltin P H b ats args = ((abuiltin P [] b ats args).map (·.1)).map (·, H) := by
 unfold abuiltin
 rw [Option.map_map]
 split
 case h_4 => exact absurd rfl h1
 case h_5 => exact absurd rfl h2
 all_goals first | rfl | (split <;> first | rfl | (split <;> first | rfl | (split <;> rfl)))
noncomputable def oBuiltin (P : Program) (h : HP) (b : Builtin) (ats : Array TypeId) (args : List AV) : OR2 := match b, args with
 | .append, [s, x] => match nthO ats.toList 0, nthO ats.toList 1 with
  | some t, some u => rAppend P h t u s x
  | _, _ => none
 | .append, _ => none
 | .clear, _ => none
 | b, args => wrapH h ((abuiltin P [] b ats args).map (·.1))
noncomputable def fop (P : Program) (g : List AV) (h : HP) : Op → OR2
 | .move x => some (evF g x, h)
 | .assign x => some (evF g x, h)
 | .pick c a b => oPick h (evF g a) (evF g b) (evF g c)
 | .extract t i => wrapH h (oExtract i (evF g t))
 | .field t x f => wrapH h (oField P t f (evF g x))
 | .load t a => wrapH h (oLoad2 P t (fCells h (evF g a)))
 | .store t a x => oStore P h t (evF g x) (evF g a)
 | .box _ x => oBox h (flat (evF g x))
 | .alloc t => oAlloc P h t
 | .build t ps => wrapH h (oBuild P t (ps.toList.map fun p => (p.1, evF g p.2)))
 | .buildSlice t len ps => oBuildS P h t len (ps.toList.map fun p => (p.1, evF g p.2))
 | .makeSlice t l c => oMakeS P h t (evF g l) (evF g c)
 | .slice t x lo hi mx => wrapH h (oSlice P h t (evF g x) (lo.map (evF g)) (hi.map (evF g)) (mx.map (evF g)))
 | .fieldAddr t x f => wrapH h (oFieldA P t f (evF g x))
 | .indexAddr t x i => wrapH h (oIndexA P t (evF g x) (evF g i))
 | .index t x i => wrapH h (oIndex P t (evF g x) (evF g i))
 | .nilCheck x => wrapH h (oNil (evF g x))
 | .unOp op _ x => wrapH h (oUn op (evF g x))
 | .binOp op t x y _ => wrapH h (oBin P op t (evF g x) (evF g y))
 | .convert s d x => rConv P h s d (evF g x)
 | .makeFunc f a b => some (.fn f (a.toList.map (evF g)) (b.toList.map (evF g)), h)
 | .call c => match c.callee with
  | .builtin b => oBuiltin P h b c.argTypes (c.args.toList.map (evF g))
  | _ => none
 | _ => none
theorem fop_ok {P : Program} {g : List AV} {h : HP} (hk : h.ok) (op : Op) {v : AV} {h' : HP} (e : fop P g h op = some (v, h')) : aop P g h.L op = some (v, h'.L) ∧ h'.ok ∧ h.n ≤ h'.n := by
 have finW : ∀ o : Option AV, wrapH h o = some (v, h') → aop P g h.L op = o.map (·, h.L) → aop P g h.L op = some (v, h'.L) ∧ h'.ok ∧ h.n ≤ h'.n := fun o e1 e2 => by
  cases o with
  | none => cases e1
  | some x => cases e1; exact ⟨e2, hk, Nat.le_refl _⟩
 have finR : ∀ r : OR2, r = some (v, h') → (toH r = aop P g h.L op ∧ okR h r) → aop P g h.L op = some (v, h'.L) ∧ h'.ok ∧ h.n ≤ h'.n := fun r e1 e2 => by
  subst e1; exact ⟨e2.1.symm, e2.2 _ _ rfl⟩
 cases op with
 | move x => simp only [fop, evF_eq] at e; cases e; exact ⟨rfl, hk, Nat.le_refl _⟩
 | assign x => simp only [fop, evF_eq] at e; cases e; exact ⟨rfl, hk, Nat.le_refl _⟩
 | pick c a b =>
  simp only [fop, evF_eq] at e
  rw [aop]
  generalize ev g c = x at *
  cases x <;> first | (cases e; done) | skip
  rename_i y
  cases y <;> first | (cases e; done) | skip
  rename_i b2
  cases b2 <;> (cases e; exact ⟨rfl, hk, Nat.le_refl _⟩)
 | extract t i =>
  simp only [fop, evF_eq] at e
  refine finW _ e ?_
  rw [aop]
  cases ev g t <;> simp only [oExtract, nthO_eq] <;> rfl
 | field t x f =>
  simp only [fop, evF_eq] at e
  refine finW _ e ?_
  rw [aop]
  unfold oField
  cases ti P t with
  | none => rfl
  | some i =>
   obtain ⟨d, s, b, z⟩ := i
   cases d <;> first | rfl | skip
   rename_i fs
   simp only [nthO_eq, Array.getElem?_toList]
   cases fs[f]? with
   | none => rfl
   | some fd => cases ev g x <;> simp only [oField2, fApart_eq] <;> rfl
 | load t a =>
  simp only [fop, evF_eq, fCells_eq hk] at e
  refine finW _ e ?_
  rw [aop]
  cases acells h.L (ev g a) with
  | none => rfl
  | some x => simp only [oLoad2, fApart_eq]
 | store t a x =>
  simp only [fop, evF_eq] at e
  refine finR _ e ?_
  rw [aop]
  cases ev g a <;> first | exact ⟨rfl, okR_none⟩ | skip
  rename_i id off
  simp only [oStore]
  cases hg : rGet h id with
  | none => rw [rGet_eq hk] at hg; rw [hg]; exact ⟨rfl, okR_none⟩
  | some o =>
   have hlt := rGet_lt hg
   rw [rGet_eq hk] at hg
   rw [hg]
   cases o <;> first | exact ⟨rfl, okR_none⟩ | skip
   simp only [oStore3, oStore2]
   cases ti P t with
   | none => exact ⟨rfl, okR_none⟩
   | some i =>
    dsimp only
    split
    ·exact ⟨by simp only [toH, Option.map_some, rSet_eq hk hlt], okR_set hk _ _⟩
    ·exact ⟨rfl, okR_none⟩
 | box t x =>
  simp only [fop, evF_eq] at e
  refine finR _ e ?_
  rw [aop]
  unfold oBox
  split
  ·exact ⟨by simp only [toH, Option.map_some, rNew_eq, HP.len hk], okR_new hk _⟩
  ·exact ⟨rfl, okR_none⟩
 | alloc t =>
  simp only [fop] at e
  refine finR _ e ?_
  rw [aop]
  unfold oAlloc
  cases ti P t with
  | none => exact ⟨rfl, okR_none⟩
  | some i => exact ⟨by simp only [toH, Option.map_some, rNew_eq, HP.len hk], okR_new hk _⟩
 | build t ps =>
  simp only [fop, evF_eq] at e
  refine finW _ e ?_
  rw [aop]
  unfold oBuild
  cases ti P t with
  | none => rfl
  | some i =>
   obtain ⟨d, s, b, z⟩ := i
   cases d <;> first | rfl | skip
   ·rename_i n e2
    dsimp only
    cases ti P e2 with
    | none => rfl
    | some te => rw [Option.map_map]; rfl
   ·dsimp only
    split
    ·rw [Option.map_map]; rfl
    ·rfl
 | buildSlice t len ps =>
  simp only [fop, evF_eq] at e
  refine finR _ e ?_
  rw [aop]
  unfold oBuildS
  cases ti P t with
  | none => exact ⟨rfl, okR_none⟩
  | some i =>
   obtain ⟨d, s, b, z⟩ := i
   cases d <;> first | exact ⟨rfl, okR_none⟩ | skip
   rename_i e2
   dsimp only
   cases ti P e2 with
   | none => exact ⟨rfl, okR_none⟩
   | some te =>
    simp only [oBuildS2]
    split
    ·split
     ·rename_i cs hcs
      simp only [hcs, oBuildS3]
      split
      ·exact ⟨by simp only [toH, Option.map_some, rNew_eq, HP.len hk], okR_new hk _⟩
      ·exact ⟨rfl, okR_none⟩
     ·rename_i hcs
      simp only [hcs, oBuildS3]
      exact ⟨rfl, okR_none⟩
    ·exact ⟨rfl, okR_none⟩
 | makeSlice t l c =>
  simp only [fop, evF_eq] at e
  refine finR _ e ?_
  rw [aop]
  unfold oMakeS
  cases ti P t with
  | none => exact ⟨rfl, okR_none⟩
  | some i =>
   obtain ⟨d, s, b, z⟩ := i
   cases d <;> first | exact ⟨rfl, okR_none⟩ | skip
   rename_i e2
   simp only [oMakeS1]
   cases ti P e2 with
   | none => exact ⟨rfl, okR_none⟩
   | some te =>
    dsimp only
    generalize ev g l = x
    generalize ev g c = y
    cases x <;> first | exact ⟨rfl, okR_none⟩ | skip
    rename_i x
    cases x <;> first | exact ⟨rfl, okR_none⟩ | skip
    cases y <;> first | exact ⟨rfl, okR_none⟩ | skip
    rename_i y
    cases y <;> first | exact ⟨rfl, okR_none⟩ | skip
    simp only [oMakeS2]
    split
    ·exact ⟨by simp only [toH, Option.map_some, rNew_eq, HP.len hk], okR_new hk _⟩
    ·exact ⟨rfl, okR_none⟩
 | slice t x lo hi mx =>
  simp only [fop, evF_fun, oSlice_eq hk] at e
  refine finW _ e ?_
  rw [aop]
 | fieldAddr t x f =>
  simp only [fop, evF_eq] at e
  refine finW _ e ?_
  rw [aop]
  unfold oFieldA
  cases ti P t with
  | none => rfl
  | some i =>
   obtain ⟨d, s, b, z⟩ := i
   cases d <;> first | rfl | skip
   rename_i fs
   simp only [nthO_eq, Array.getElem?_toList]
   cases fs[f]? with
   | none => rfl
   | some fd =>
    simp only [oFieldA3]
    cases ti P fd.type with
    | none => rfl
    | some tf =>
     dsimp only
     split
     ·rfl
     ·cases ev g x <;> first | rfl | skip
      simp only [oFieldA2]
      split <;> rfl
 | indexAddr t x i =>
  simp only [fop, evF_eq] at e
  refine finW _ e ?_
  rw [aop]
  cases ev g i with
  | v y => cases y <;> rfl
  | _ => rfl
 | index t x i =>
  simp only [fop, evF_eq] at e
  refine finW _ e ?_
  rw [aop]
  unfold oIndex
  cases ti P t with
  | none => rfl
  | some d =>
   obtain ⟨d, s, b, z⟩ := d
   generalize ev g x = a
   generalize ev g i = c
   cases d <;> first | rfl | skip
   ·cases a <;> first | rfl | skip
    rename_i y
    cases y <;> first | rfl | skip
    cases c <;> first | rfl | skip
    rename_i y
    cases y <;> first | rfl | skip
    rename_i str k n
    simp only [oIndexS, nthO_eq, Array.getElem?_toList]
    split
    ·rw [Option.map_map]; rfl
    ·rfl
   ·cases a <;> first | rfl | skip
    cases c <;> first | rfl | skip
    rename_i y
    cases y <;> first | rfl | skip
    rename_i n e2 cs k i2
    dsimp only
    cases ti P e2 with
    | none => rfl
    | some te =>
     dsimp only
     split <;> rfl
 | nilCheck x =>
  simp only [fop, evF_eq] at e
  refine finW _ e ?_
  rw [aop]
  generalize ev g x = c
  cases c <;> first | rfl | (rename_i f a b; cases f <;> rfl)
 | unOp op t x =>
  simp only [fop, evF_eq] at e
  refine finW _ e ?_
  generalize hx : ev g x = c
  cases c <;> first | (simp only [aop, hx, oUn]; rfl) | skip
  ·rename_i y
   simp only [aop, hx, oUn]
   cases aun op y <;> rfl
  ·cases op <;> simp only [aop, hx, oUn] <;> rfl
 | binOp op t x y u =>
  simp only [fop, evF_eq] at e
  refine finW _ e ?_
  have hR : aop P g h.L (.binOp op t x y u) = (oBinR P op t (ev g x) (ev g y)).map (·, h.L) := oBinR_eq P g h.L op t x y u
  rw [hR]
  generalize ev g x = a
  generalize ev g y = b
  unfold oBin
  split
  ·rw [fBin2_eq, oBinR_int]
  ·rw [oBinR_str]
  ·rfl
 | convert s d x =>
  simp only [fop, evF_eq] at e
  exact finR _ e (rConv_eq hk s d g x _ rfl)
 | makeFunc f a b => simp only [fop, evF_fun] at e; cases e; exact ⟨rfl, hk, Nat.le_refl _⟩
 | call c =>
  obtain ⟨f, args, ats⟩ := c
  cases f with
  | value f => cases e
  | invoke a b => cases e
  | builtin b =>
   simp only [fop, evF_fun] at e
   have ha : aop P g h.L (.call ⟨.builtin b, args, ats⟩) = abuiltin P h.L b ats (args.toList.map (ev g)) := by rw [aop]
   rw [ha] at finW finR ⊢
   generalize args.toList.map (ev g) = as at *
   unfold oBuiltin at e
   split at e
   ·split at e
    ·rename_i t u h1 h2
     rw [nthO_eq, Array.getElem?_toList] at h1 h2
     have hA := rAppend_eq (P := P) hk t u
     refine finR _ e ⟨?_, (hA _ _).2⟩
     rw [(hA _ _).1]
     unfold abuiltin
     rw [h1, h2]
    ·cases e
   ·cases e
   ·cases e
   ·rename_i h1 h2 _
    exact finW _ e (abuiltin_pure P h.L _ ats as (fun hb => h1 hb) (fun hb => h2 hb))
 | _ => cases e
end Go.Abs
