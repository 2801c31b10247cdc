/- Part 2 of the texts that lead to repairNearestCard_holds. No condition. -/
import Derived.Laws.Sem
import Derived.Test.YtcjckmnhlfbdlaaGreatDoorH1
set_option linter.all false
namespace Go.Abs
open Go
structure TI where
  desc : TypeDesc
  size : Nat
  bytes : Nat
  zero : List Value
def ti (P : Program) (t : TypeId) : Option TI :=
 match P.info? t, P.underlying t with
 | some i, some d => match i.zero with
  | some z => if z.cells.size = i.size ∧ z.cells.toList.all (·.oneCell') = true then some ⟨d, i.size, i.bytes, z.cells.toList⟩ else none
  | none => none
 | _, _ => none
def lift : Value → AV
 | .agg cs => .ag (cs.toList.map .v)
 | x => .v x
def ev (g : List AV) : Operand → AV
 | .tmp t => g.getD t (.v undef)
 | .const v => lift v
 | .global n => .v (.pointer (some ⟨n, 0, none⟩))
 | .func f => .fn (.func f) [] []
def flat : AV → List AV
 | .ag cs => cs
 | .v (.agg xs) => xs.toList.map .v
 | x => [x]
def isAggD : TypeDesc → Bool
 | .struct _ | .array _ _ => true
 | _ => false
def apart (P : Program) (t : TypeId) (cs : List AV) (off : Nat) : Option AV :=
 match ti P t with
 | some i => if isAggD i.desc then (if off + i.size ≤ cs.length then some (.ag ((cs.drop off).take i.size)) else none) else cs[off]?
 | none => none
def acells (H : List AO) : AV → Option (List AV × Nat)
 | .pt id off => match H[id]? with
  | some (.cells _ cs) => some (cs, off)
  | some (.ice _ cs) => some (cs, off)
  | _ => none
 | .ip cs => some (cs, 0)
 | _ => none
def setRange (cs : List AV) (off : Nat) (new : List AV) : List AV := cs.take off ++ new ++ cs.drop (off + new.length)
def afill (place : Nat → Option (Nat × Nat)) (cells : List AV) : List (Nat × AV) → Option (List AV)
 | [] => some cells
 | (i, v) :: rest =>
  match place i with
  | none => none
  | some (off, size) => if (flat v).length = size ∧ (flat v).all (·.one) = true ∧ off + size ≤ cells.length then afill place (setRange cells off (flat v)) rest else none
def fieldPlaces (P : Program) (fs : Array Field) (i : Nat) : Option (Nat × Nat) :=
 match fs[i]? with
 | some f => (ti P f.type).map fun t => (f.offset, t.size)
 | none => none
def firstA (H : List AO) (size n : Nat) : AV → Option (List AV)
 | .v (.slice none _ _) => if n = 0 then some [] else none
 | .em => if n = 0 then some [] else none
 | .im k cs => if n ≤ k ∧ n * size ≤ cs.length then some (cs.take (n * size)) else none
 | .sl id off k => match H[id]? with
  | some (.cells sz cs) => if sz = size ∧ n ≤ k ∧ off + n * size ≤ cs.length then some ((cs.drop off).take (n * size)) else none
  | some (.ice sz cs) => if sz = size ∧ n ≤ k ∧ off + n * size ≤ cs.length then some ((cs.drop off).take (n * size)) else none
  | _ => none
 | .v (.string s) => if n ≤ s.size then some ((s.data.toList.take n).map fun b => .v (.int .u8 b.toNat)) else none
 | _ => none
def lenA : AV → Option Nat
 | .v (.slice none n _) => some n
 | .em => some 0
 | .im n _ => some n
 | .sl _ _ n => some n
 | .v (.string s) => some s.size
 | _ => none
def aint : BinOp → IntKind → Int → Int → Option Value
 | .add, k, a, b => some (.int k (k.wrap (a + b)))
 | .sub, k, a, b => some (.int k (k.wrap (a - b)))
 | .mul, k, a, b => some (.int k (k.wrap (a * b)))
 | .quo, k, a, b => if b = 0 then none else some (.int k (k.wrap (a.tdiv b)))
 | .rem, k, a, b => if b = 0 then none else some (.int k (a.tmod b))
 | .and, k, a, b => some (.int k (k.wrap (BitVec.ofInt k.bits a &&& BitVec.ofInt k.bits b).toNat))
 | .or, k, a, b => some (.int k (k.wrap (BitVec.ofInt k.bits a ||| BitVec.ofInt k.bits b).toNat))
 | .xor, k, a, b => some (.int k (k.wrap (BitVec.ofInt k.bits a ^^^ BitVec.ofInt k.bits b).toNat))
 | .andNot, k, a, b => some (.int k (k.wrap (BitVec.ofInt k.bits a &&& ~~~BitVec.ofInt k.bits b).toNat))
 | .eql, _, a, b => some (.bool (a == b))
 | .neq, _, a, b => some (.bool (a != b))
 | .lss, _, a, b => some (.bool (decide (a < b)))
 | .leq, _, a, b => some (.bool (decide (a ≤ b)))
 | .gtr, _, a, b => some (.bool (decide (a > b)))
 | .geq, _, a, b => some (.bool (decide (a ≥ b)))
 | _, _, _, _ => none
def ashift : BinOp → IntKind → Int → Int → Option Value
 | .shl, k, a, b => if b < 0 then none else some (.int k (k.wrap (a * 2 ^ (min b.toNat k.bits))))
 | .shr, k, a, b => if b < 0 then none else some (.int k (a.fdiv (2 ^ (min b.toNat k.bits))))
 | _, _, _, _ => none
def astr : BinOp → ByteArray → ByteArray → Option Value
 | .add, x, y => if x.size + y.size ≤ 9223372036854775807 then some (.string (x ++ y)) else none
 | .eql, x, y => some (.bool (x.toList == y.toList))
 | .neq, x, y => some (.bool !(x.toList == y.toList))
 | .lss, x, y => some (.bool (Op.bytesLess x.toList y.toList))
 | .leq, x, y => some (.bool (Op.bytesLess x.toList y.toList || x.toList == y.toList))
 | .gtr, x, y => some (.bool !(Op.bytesLess x.toList y.toList || x.toList == y.toList))
 | .geq, x, y => some (.bool !(Op.bytesLess x.toList y.toList))
 | _, _, _ => none
def eqCell : AV → AV → Option Bool
 | .v (.int k a), .v (.int k' b) => if k = k' then some (a == b) else none
 | .v (.string a), .v (.string b) => some (a == b)
 | .v (.bool a), .v (.bool b) => some (a == b)
 | _, _ => none
def eqCells : List AV → List AV → Option Bool
 | [], [] => some true
 | a :: as, b :: bs => match eqCell a b with
  | some true => eqCells as bs
  | some false => some false
  | none => none
 | _, _ => none
def abin (op : BinOp) (x y : Value) : Option Value :=
 match x, y with
 | .int k a, .int k' b =>
  match op with
  | .shl => ashift .shl k a b
  | .shr => ashift .shr k a b
  | op => if k = k' then aint op k a b else none
 | .string a, .string b => astr op a b
 | _, _ => none
def aun (op : UnOp) (x : Value) : Option Value :=
 match op, x with
 | .neg, .int k n => aint .sub k 0 n
 | .xor, .int k n => aint .xor k (if k.signed then -1 else k.max) n
 | .not, .bool b => some (.bool !b)
 | _, _ => none
def aindexAddr (P : Program) (t : TypeId) (x : AV) (i : Int) : Option AV :=
 match ti P t with
 | some ⟨.slice e, _, _, _⟩ => match ti P e with
  | some te => match x with
   | .sl id off len => if 0 ≤ i ∧ i < len then some (.pt id (off + i.toNat * te.size)) else none
   | .im n cs => if 0 ≤ i ∧ i < n ∧ i.toNat * te.size < cs.length then some (.ip (cs.drop (i.toNat * te.size))) else none
   | _ => none
  | none => none
 | some ⟨.array n e, _, _, _⟩ => match ti P e with
  | some te => match x with
   | .pt id off => if 0 ≤ i ∧ i < n then some (.pt id (off + i.toNat * te.size)) else none
   | _ => none
  | none => none
 | _ => none
def boundOf : Option AV → Int → Option Int
 | none, d => some d
 | some (.v (.int _ i)), _ => some i
 | _, _ => none
def lenS : AV → Option Nat
 | .v (.slice none 0 0) => some 0
 | .em => some 0
 | .im n _ => some n
 | .sl _ _ n => some n
 | _ => none
def acut (H : List AO) (sz : Nat) (x : AV) (l h : Nat) : Option AV :=
 match x with
 | .im _ cs => if l = h then some (.im 0 []) else some (.im (h - l) (cs.drop (l * sz)))
 | .sl id off _ => match H[id]? with
  | some (.cells sz' _) => if sz' = sz then some (.sl id (off + l * sz) (h - l)) else none
  | some (.ice sz' _) => if sz' = sz then some (.sl id (off + l * sz) (h - l)) else none
  | _ => none
 | .v (.slice none 0 0) => some (.v (.slice none 0 0))
 | .em => some .em
 | _ => none
def aslice (P : Program) (H : List AO) (t : TypeId) (x : AV) (lo hi mx : Option AV) : Option AV :=
 match ti P t with
 | none => none
 | some d => match d.desc, mx with
  | .string, none => match x with
   | .v (.string s) => match boundOf lo 0, boundOf hi s.size with
    | some l, some h => if 0 ≤ l ∧ l ≤ h ∧ h ≤ s.size then some (.v (.string (s.extract l.toNat h.toNat))) else none
    | _, _ => none
   | _ => none
  | .slice e, none => match ti P e, lenS x with
   | some te, some n => match boundOf lo 0, boundOf hi n with
    | some l, some h => if 0 ≤ l ∧ l ≤ h ∧ h ≤ n then acut H te.size x l.toNat h.toNat else none
    | _, _ => none
   | _, _ => none
  | .slice e, some m => match ti P e, lenS x with
   | some _, some _ => if boundOf lo 0 = some 0 ∧ boundOf hi (-1) = some 0 ∧ boundOf (some m) (-1) = some 0 then some .em else none
   | _, _ => none
  | _, _ => none
def isIntD : TypeDesc → Bool
 | .int _ => true
 | _ => false
def aappend (P : Program) (H : List AO) (t u : TypeId) (s x : AV) : Option (AV × List AO) :=
 match ti P t, ti P u with
 | some ⟨.slice e, _, _, _⟩, some ⟨d, _, _, _⟩ => match ti P e with
  | some te =>
   if isIntD d = true then none else
   match lenA x with
   | some n => match firstA H te.size n x with
    | some new =>
     if new.all (·.one) = true ∧ te.size ≠ 0 ∧ new.length = n * te.size then
     match s with
     | .v (.slice none 0 0) | .em => if n * te.bytes ≤ 140737488355328 ∧ n ≤ 9223372036854775807 then some (.sl H.length 0 n, H ++ [.cells te.size new]) else none
     | .sl id off len => match H[id]? with
      | some (.cells sz cs) => if sz = te.size ∧ off + len * sz = cs.length ∧ (len + n) * te.bytes ≤ 140737488355328 ∧ len + n ≤ 9223372036854775807 then
       some (.sl H.length 0 (len + n), H.set id .dead ++ [.cells sz (cs.drop off ++ new)]) else none
      | _ => none
     | _ => none
     else none
    | none => none
   | none => none
  | none => none
 | _, _ => none
def abuiltin (P : Program) (H : List AO) (b : Builtin) (argTypes : Array TypeId) (args : List AV) : Option (AV × List AO) :=
 match b, args with
 | .len, [x] => match argTypes[0]? with
  | some t => match ti P t with
   | some ⟨.slice _, _, _, _⟩ => match x with
    | .im n _ => some (.v (.int .i64 n), H)
    | .sl _ _ n => some (.v (.int .i64 n), H)
    | .em => some (.v (.int .i64 0), H)
    | .v (.slice none n _) => some (.v (.int .i64 n), H)
    | _ => none
   | some ⟨.string, _, _, _⟩ => match x with
    | .v (.string s) => some (.v (.int .i64 s.size), H)
    | _ => none
   | _ => none
  | none => none
 | .min, [.v (.int k x), .v (.int _ y)] => some (.v (.int k (if y < x then y else x)), H)
 | .max, [.v (.int k x), .v (.int _ y)] => some (.v (.int k (if x < y then y else x)), H)
 | .append, [s, x] => match argTypes[0]?, argTypes[1]? with
  | some t, some u => aappend P H t u s x
  | _, _ => none
 | .clear, [x] => match argTypes[0]? with
  | some t => match ti P t with
   | some ⟨.slice e, _, _, _⟩ => match ti P e, x with
    | some te, .sl id off n => match H[id]? with
     | some (.cells sz cs) => if te.size ≠ 0 ∧ off + n * te.size ≤ cs.length then some (.tu [], H.set id (.cells sz (setRange cs off ((List.replicate n (te.zero.map .v)).flatten)))) else none
     | _ => none
    | _, _ => none
   | _ => none
  | none => none
 | _, _ => none
def toBytes : List AV → Option (List UInt8)
 | [] => some []
 | .v (.int .u8 b) :: cs => (toBytes cs).map (UInt8.ofNat b.toNat :: ·)
 | _ => none
def nilV (b : Bool) (n : Nat) : AV := if n = 0 then .nb else .v (.bool b)
theorem nilV_zero {b : Bool} : nilV b 0 = .nb := _root_.id rfl
theorem nilV_succ {b : Bool} {n : Nat} : nilV b (n + 1) = .v (.bool b) := _root_.id rfl
def aop (P : Program) (g : List AV) (H : List AO) : Op → Option (AV × List AO)
 | .move x | .assign x => some (ev g x, H)
 | .pick c a b => match ev g c with
  | .v (.bool t) => some (if t then ev g a else ev g b, H)
  | _ => none
 | .extract t i => match ev g t with
  | .tu vs => (vs[i]?).map (·, H)
  | _ => none
 | .field t x f => match ti P t with
  | some ⟨.struct fs, _, _, _⟩ => match fs[f]?, ev g x with
   | some fd, .ag cs => (apart P fd.type cs fd.offset).map (·, H)
   | _, _ => none
  | _ => none
 | .load t a => match acells H (ev g a) with
  | some (cs, off) => (apart P t cs off).map (·, H)
  | none => none
 | .store t a x => match ev g a with
  | .pt id off => match H[id]? with
   | some (.cells sz cs) => match ti P t with
    | some i => if (flat (ev g x)).all (·.one) = true ∧ i.size = (flat (ev g x)).length ∧ off + (flat (ev g x)).length ≤ cs.length then
     some (.v undef, H.set id (.cells sz (setRange cs off (flat (ev g x))))) else none
    | none => none
   | _ => none
  | _ => none
 | .box _ x => if (flat (ev g x)).all (·.one) = true then some (.pt H.length 0, H ++ [.cells 1 (flat (ev g x))]) else none
 | .alloc t => match ti P t with
  | some i => some (.pt H.length 0, H ++ [.cells 1 (i.zero.map .v)])
  | none => none
 | .build t parts => match ti P t with
  | some ⟨.struct fs, _, _, z⟩ => if (fs.toList.all fun f => (ti P f.type).isSome) = true then
   (afill (fieldPlaces P fs) (z.map .v) (parts.toList.map fun p => (p.1, ev g p.2))).map fun r => (AV.ag r, H) else none
  | some ⟨.array _ e, _, _, z⟩ => match ti P e with
   | some te => (afill (fun i => some (i * te.size, te.size)) (z.map .v) (parts.toList.map fun p => (p.1, ev g p.2))).map fun r => (AV.ag r, H)
   | none => none
  | _ => none
 | .buildSlice t len parts => match ti P t with
  | some ⟨.slice e, _, _, _⟩ => match ti P e with
   | some te => if len * te.size ≤ 16777216 ∧ te.size ≠ 0 then
    match afill (fun i => some (i * te.size, te.size)) ((List.replicate len (te.zero.map .v)).flatten) (parts.toList.map fun p => (p.1, ev g p.2)) with
    | some cs => if cs.all (·.one) = true then some (.sl H.length 0 len, H ++ [.cells te.size cs]) else none
    | none => none
    else none
   | none => none
  | _ => none
 | .makeSlice t l c => match ti P t with
  | some ⟨.slice e, _, _, _⟩ => match ti P e with
   | some te => match ev g l, ev g c with
    | .v (.int _ n), .v (.int _ n') => if n = n' ∧ 0 ≤ n ∧ n * te.bytes ≤ 140737488355328 ∧ n ≤ 9223372036854775807 ∧ te.size ≠ 0 then
     some (.sl H.length 0 n.toNat, H ++ [.cells te.size ((List.replicate n.toNat (te.zero.map .v)).flatten)]) else none
    | _, _ => none
   | none => none
  | _ => none
 | .slice t x lo hi mx => (aslice P H t (ev g x) (lo.map (ev g)) (hi.map (ev g)) (mx.map (ev g))).map (·, H)
 | .fieldAddr t x f => match ti P t with
  | some ⟨.struct fs, _, _, _⟩ => match fs[f]? with
   | some fd => match ti P fd.type with
    | some tf => if tf.size = 0 then none else match ev g x with
     | .pt id off => some (.pt id (off + fd.offset), H)
     | .ip cs => if fd.offset < cs.length then some (.ip (cs.drop fd.offset), H) else none
     | _ => none
    | none => none
   | none => none
  | _ => none
 | .indexAddr t x i => match ev g i with
  | .v (.int _ n) => (aindexAddr P t (ev g x) n).map (·, H)
  | _ => none
 | .index t x i => match ti P t, ev g x, ev g i with
  | some ⟨.string, _, _, _⟩, .v (.string s), .v (.int _ n) => if 0 ≤ n then (s[n.toNat]?).map fun b => (AV.v (.int .u8 b.toNat), H) else none
  | some ⟨.array len e, _, _, _⟩, .ag cs, .v (.int _ n) => match ti P e with
   | some te => if 0 ≤ n ∧ n < len then (apart P e cs (n.toNat * te.size)).map (·, H) else none
   | none => none
  | _, _, _ => none
 | .nilCheck x => match ev g x with
  | .pt id off => some (.pt id off, H)
  | .ip cs => some (.ip cs, H)
  | .fn (.func f) a b => some (.fn (.func f) a b, H)
  | _ => none
 | .unOp op _ x => match ev g x with
  | .v y => (aun op y).map fun r => (AV.v r, H)
  | .nb => match op with
   | .not => some (.nb, H)
   | _ => none
  | _ => none
 | .binOp op t x y _ => match ev g x, ev g y with
  | .v (.bool a), .v (.bool b) => match ti P t, op with
   | some ⟨.bool, _, _, _⟩, .eql => some (.v (.bool (a == b)), H)
   | some ⟨.bool, _, _, _⟩, .neq => some (.v (.bool !(a == b)), H)
   | _, _ => none
  | .v a, .v b => (abin op a b).map fun r => (AV.v r, H)
  | a, .v (.slice none 0 0) => match ti P t, op, a with
   | some ⟨.slice _, _, _, _⟩, .eql, .im _ cs => some (nilV false cs.length, H)
   | some ⟨.slice _, _, _, _⟩, .neq, .im _ cs => some (nilV true cs.length, H)
   | some ⟨.slice _, _, _, _⟩, .eql, .sl _ _ n => some (nilV false n, H)
   | some ⟨.slice _, _, _, _⟩, .neq, .sl _ _ n => some (nilV true n, H)
   | _, _, _ => none
  | _, _ => none
 | .convert s d x => match ti P s, ti P d, ev g x with
  | some _, some ⟨.int k, _, _, _⟩, .v (.int _ n) => some (.v (.int k (k.wrap n)), H)
  | some _, some ⟨.string, _, _, _⟩, .v (.string s) => some (.v (.string s), H)
  | some ⟨.string, _, _, _⟩, some ⟨.slice e, _, _, _⟩, .v (.string s) => match ti P e with
   | some ⟨.int .u8, 1, _, _⟩ => some (.sl H.length 0 s.size, H ++ [.cells 1 (s.data.toList.map fun b => .v (.int .u8 b.toNat))])
   | _ => none
  | some ⟨.slice e, _, _, _⟩, some ⟨.string, _, _, _⟩, x => match ti P e, lenA x with
   | some ⟨.int .u8, 1, _, _⟩, some n => match firstA H 1 n x with
    | some cs => (toBytes cs).map fun l => (AV.v (.string ⟨l.toArray⟩), H)
    | none => none
   | _, _ => none
  | _, _, _ => none
 | .makeFunc f a b => some (.fn f (a.toList.map (ev g)) (b.toList.map (ev g)), H)
 | .call { callee := .builtin b, args, argTypes } => abuiltin P H b argTypes (args.toList.map (ev g))
 | _ => none
end Go.Abs
namespace Go.Abs
open Go
theorem ti_spec {P : Program} {t : TypeId} {i : TI} (h : ti P t = some i) : ∃ j z, P.info? t = some j ∧ P.underlying t = some i.desc ∧ j.size = i.size ∧ j.bytes = i.bytes ∧ j.zero = some z ∧ z.cells.toList = i.zero ∧ z.cells.size = i.size ∧ (∀ x ∈ i.zero, x.oneCell' = true) := by
 unfold ti at h
 split at h
 ·rename_i j d hj hd
  split at h
  ·rename_i z hz
   split at h
   ·rename_i hc
    injection h with h
    subst h
    refine ⟨j, z, hj, hd, rfl, rfl, hz, rfl, hc.1, fun x hx => ?_⟩
    exact List.all_eq_true.1 hc.2 x hx
   ·cases h
  ·cases h
 ·cases h
section
variable {P : Program} {t : TypeId} {i : TI} {w : World}
theorem run_underlying' (h : ti P t = some i) : (underlying t).run P w = .ok i.desc w := by
 obtain ⟨j, z, h1, h2, _⟩ := ti_spec h
 simp [underlying, h2]
theorem run_sizeOf' (h : ti P t = some i) : (sizeOf t).run P w = .ok i.size w := by
 obtain ⟨j, z, h1, h2, h3, _⟩ := ti_spec h
 simp [sizeOf, typeInfo, h1, h3]
theorem run_typeInfo' (h : ti P t = some i) : ∃ j, (typeInfo t).run P w = .ok j w ∧ j.size = i.size ∧ j.bytes = i.bytes := by
 obtain ⟨j, z, h1, h2, h3, h4, _⟩ := ti_spec h
 exact ⟨j, by simp [typeInfo, h1], h3, h4⟩
theorem run_zeroValue' (h : ti P t = some i) : ∃ z, (zeroValue t).run P w = .ok z w ∧ z.cells.toList = i.zero ∧ z.cells.size = i.size := by
 obtain ⟨j, z, h1, h2, h3, h4, h5, h6, h7, _⟩ := ti_spec h
 exact ⟨z, by simp [zeroValue, typeInfo, h1, h5], h6, h7⟩
theorem run_isAgg' (h : ti P t = some i) : (isAgg t).run P w = .ok (isAggD i.desc) w := by
 simp only [isAgg, Sem.run_bind, run_underlying' h, Result.andThen_ok]
 cases i.desc <;> rfl
theorem ti_zero_one (h : ti P t = some i) : ∀ x ∈ i.zero, x.oneCell' = true := by
 obtain ⟨j, z, h1, h2, h3, h4, h5, h6, h7, h8⟩ := ti_spec h
 exact h8
theorem ti_zero_len (h : ti P t = some i) : i.zero.length = i.size := by
 obtain ⟨j, z, h1, h2, h3, h4, h5, h6, h7, h8⟩ := ti_spec h
 rw [← h6, Array.length_toList, h7]
end
section
variable {I : Nat → Prop} {m : List Loc} {w : World}
theorem VRs.map_v (xs : List Value) : VRs I m w (xs.map .v) xs := by
 induction xs with
 | nil => simp [VRs]
 | cons x xs ih => simp only [List.map_cons, VRs]; exact ⟨x, xs, rfl, by simp only [VR], ih⟩
theorem VR.lift (x : Value) : VR I m w (lift x) x := by
 unfold Abs.lift
 split
 ·simp only [VR]; exact ⟨_, rfl, VRs.map_v _⟩
 ·simp only [VR]
theorem VR.ev {g : List AV} {a : Act} (h : VRs I m w g a.tmps.toList) (x : Operand) : VR I m w (ev g x) (a.eval x) := by
 cases x with
 | tmp t =>
  simp only [Abs.ev, Act.eval]
  rcases Nat.lt_or_ge t g.length with ht | ht
  ·obtain ⟨x, h1, h2⟩ := h.get t g[t] (by simp [ht])
   have h3 : a.tmps[t]? = some x := by simpa using h1
   rw [Array.getD_eq_getD_getElem?, h3, List.getD_eq_getElem?_getD, List.getElem?_eq_getElem ht]
   exact h2
  ·have hl := h.len
   rw [Array.getD_eq_getD_getElem?, List.getD_eq_getElem?_getD, List.getElem?_eq_none ht]
   rw [Array.getElem?_eq_none (by rw [← Array.length_toList, hl]; exact ht)]
   simp only [Option.getD_none, VR]
 | const v => exact VR.lift v
 | global n => simp only [Abs.ev, Act.eval, VR]
 | func f => simp only [Abs.ev, Act.eval, VR]; exact ⟨#[], #[], rfl, by simp [VRs], by simp [VRs]⟩
theorem VRs.flat {c : AV} {x : Value} (h : VR I m w c x) (h1 : (Abs.flat c).all (·.one) = true) : VRs I m w (Abs.flat c) x.cells.toList := by
 cases c with
 | any => simp [Abs.flat, AV.one] at h1
 | nb =>
  have h' := h
  simp only [VR] at h
  obtain ⟨b, rfl⟩ := h
  simp only [Abs.flat, Value.cells, VRs]; exact ⟨_, _, rfl, h', by simp⟩
 | ag cs => simp only [VR] at h; obtain ⟨xs, rfl, h2⟩ := h; simpa [Abs.flat, Value.cells] using h2
 | v y =>
  simp only [VR] at h
  subst h
  cases x <;> simp only [Abs.flat, Value.cells, VRs] <;> first | exact VRs.map_v _ | exact ⟨_, _, rfl, by simp only [VR], by simp only [VRs]⟩
 | sl id off len =>
  have h' := h
  simp only [VR] at h
  obtain ⟨L, a, c, h1, h2, h3, h4, rfl⟩ := h
  simp only [Abs.flat, Value.cells, VRs]; exact ⟨_, _, rfl, h', by simp⟩
 | pt id off =>
  have h' := h
  simp only [VR] at h
  obtain ⟨L, h1, rfl⟩ := h
  simp only [Abs.flat, Value.cells, VRs]; exact ⟨_, _, rfl, h', by simp⟩
 | im n cs =>
  have h' := h
  simp only [VR] at h
  obtain ⟨A, c, rfl, _⟩ := h
  simp only [Abs.flat, Value.cells, VRs]; exact ⟨_, _, rfl, h', by simp⟩
 | ip cs =>
  have h' := h
  simp only [VR] at h
  obtain ⟨b, o, rfl, _⟩ := h
  simp only [Abs.flat, Value.cells, VRs]; exact ⟨_, _, rfl, h', by simp⟩
 | tu vs =>
  have h' := h
  simp only [VR] at h
  obtain ⟨xs, rfl, _⟩ := h
  simp only [Abs.flat, Value.cells, VRs]; exact ⟨_, _, rfl, h', by simp⟩
 | fn f a b =>
  have h' := h
  simp only [VR] at h
  obtain ⟨xs, ys, rfl, _⟩ := h
  simp only [Abs.flat, Value.cells, VRs]; exact ⟨_, _, rfl, h', by simp⟩
 | mp id =>
  have h' := h
  simp only [VR] at h
  obtain ⟨L, h1, rfl⟩ := h
  simp only [Abs.flat, Value.cells, VRs]; exact ⟨_, _, rfl, h', by simp⟩
 | em =>
  have h' := h
  simp only [VR] at h
  obtain ⟨A, rfl⟩ := h
  simp only [Abs.flat, Value.cells, VRs]; exact ⟨_, _, rfl, h', by simp⟩
theorem VR.one {c : AV} {x : Value} (h : VR I m w c x) (hc : c.one = true) : x.oneCell' = true := by
 cases c <;> simp only [VR] at h <;> simp only [AV.one] at hc <;> try contradiction
 case v y => subst h; exact hc
 case sl => obtain ⟨L, a, c, h1, h2, h3, h4, rfl⟩ := h; rfl
 case pt => obtain ⟨L, h1, rfl⟩ := h; rfl
 case im => obtain ⟨A, c, rfl, _⟩ := h; rfl
 case ip => obtain ⟨b, o, rfl, _⟩ := h; rfl
 case fn => obtain ⟨xs, ys, rfl, _⟩ := h; rfl
 case mp => obtain ⟨L, h1, rfl⟩ := h; rfl
 case em => obtain ⟨A, rfl⟩ := h; rfl
 case nb => obtain ⟨b, rfl⟩ := h; rfl
theorem VRs.one : ∀ {cs : List AV} {xs : List Value}, VRs I m w cs xs → cs.all (·.one) = true → ∀ x ∈ xs, x.oneCell' = true
 | [], _, h, _, x, hx => by simp only [VRs] at h; subst h; cases hx
 | c :: cs, _, h, ha, x, hx => by
  simp only [VRs] at h
  obtain ⟨y, zs, rfl, h2, h3⟩ := h
  simp only [List.all_cons, Bool.and_eq_true] at ha
  rcases List.mem_cons.1 hx with rfl | hx
  ·exact h2.one ha.1
  ·exact h3.one ha.2 x hx
theorem VRs.take {cs : List AV} {xs : List Value} (h : VRs I m w cs xs) (n : Nat) : VRs I m w (cs.take n) (xs.take n) :=
 VRs.of_get (by simp [h.len]) fun i c x h1 h2 => by
  rw [List.getElem?_take] at h1 h2
  split at h1
  ·rename_i hi; rw [if_pos hi] at h2
   obtain ⟨y, h3, h4⟩ := h.get i c h1
   rw [h2] at h3; injection h3 with h3; subst h3; exact h4
  ·cases h1
theorem VRs.drop {cs : List AV} {xs : List Value} (h : VRs I m w cs xs) (n : Nat) : VRs I m w (cs.drop n) (xs.drop n) :=
 VRs.of_get (by simp [h.len]) fun i c x h1 h2 => by
  rw [List.getElem?_drop] at h1 h2
  obtain ⟨y, h3, h4⟩ := h.get _ c h1
  rw [h2] at h3; injection h3 with h3; subst h3; exact h4
theorem VRs.setRange {cs : List AV} {xs : List Value} (h : VRs I m w cs xs) {ns : List AV} {ys : List Value} (k : VRs I m w ns ys) (off : Nat) :
 VRs I m w (setRange cs off ns) (xs.take off ++ ys ++ xs.drop (off + ys.length)) := by
 unfold Abs.setRange
 rw [k.len]
 exact ((h.take off).append k).append (h.drop _)
theorem acells_spec {H : List AO} (hr : HR I m H w) {p : AV} {cs : List AV} {off : Nat} (h : acells H p = some (cs, off)) {x : Value} (hx : VR I m w p x) :
 ∃ b o, x = .pointer (some ⟨b, o, none⟩) ∧ ∀ (i : Nat) c, cs[off + i]? = some c → ∃ y, w.cell? ⟨b, o + i, none⟩ = some y ∧ VR I m w c y := by
 unfold acells at h
 split at h
 ·rename_i id off'
  split at h
  ·rename_i sz cs' ho
   injection h with h
   obtain ⟨rfl, rfl⟩ := Prod.mk.inj h
   simp only [VR] at hx
   obtain ⟨L, h1, rfl⟩ := hx
   replace h1 := (lk_get h1).1
   refine ⟨L.b, L.o + off', rfl, fun i c hc => ?_⟩
   obtain ⟨_, hle, hob⟩ := hr.ob id _ L ho h1
   have hlt : off' + i < cs'.length := (List.getElem?_eq_some_iff.1 hc).1
   obtain ⟨ce, E, fz, h2, h3, h4, h6⟩ := hob (by omega)
   obtain ⟨y, h7, h8, _⟩ := h6 _ c hc
   refine ⟨y, ?_, h8⟩
   simp only [World.cell?, h2]
   rw [show L.o + off' + i = L.o + (off' + i) by omega]
   simpa using h7
  ·rename_i sz cs' ho
   injection h with h
   obtain ⟨rfl, rfl⟩ := Prod.mk.inj h
   simp only [VR] at hx
   obtain ⟨L, h1, rfl⟩ := hx
   replace h1 := (lk_get h1).1
   refine ⟨L.b, L.o + off', rfl, fun i c hc => ?_⟩
   obtain ⟨_, hle, hob⟩ := hr.ob id _ L ho h1
   have hlt : off' + i < cs'.length := (List.getElem?_eq_some_iff.1 hc).1
   obtain ⟨h2, h3⟩ := hob (by omega)
   obtain ⟨y, h7, h8⟩ := h3.get _ c hc
   exact ⟨y, by rw [← h7]; congr 2; omega, h8⟩
  ·cases h
 ·injection h with h
  obtain ⟨rfl, rfl⟩ := Prod.mk.inj h
  simp only [VR] at hx
  obtain ⟨b, o, rfl, h1, h2⟩ := hx
  refine ⟨b, o, rfl, fun i c hc => ?_⟩
  exact h2.get i c (by simpa using hc)
 ·cases h
theorem add_none (b o n : Nat) : (⟨b, o, none⟩ : Addr).add n = ⟨b, o + n, none⟩ := by
 unfold Addr.add
 split
 ·rename_i h; subst h; rfl
 ·rfl
theorem run_loadCellsFrom' {P : Program} (b o : Nat) : ∀ (n i : Nat) (cs : List AV) (acc : Array Value), (∀ (j : Nat) c, cs[j]? = some c → ∃ y, w.cell? ⟨b, o + (i + j), none⟩ = some y ∧ VR I m w c y) → cs.length = n →
 ∃ ys, (loadCellsFrom ⟨b, o, none⟩ i n acc).run P w = .ok (acc ++ ys) w ∧ VRs I m w cs ys.toList
 | 0, i, cs, acc, _, hl => by
  have : cs = [] := List.eq_nil_of_length_eq_zero hl
  subst this
  exact ⟨#[], by simp [loadCellsFrom], by simp [VRs]⟩
 | n + 1, i, cs, acc, h, hl => by
  cases cs with
  | nil => simp at hl
  | cons c cs =>
   obtain ⟨y, h1, h2⟩ := h 0 c rfl
   obtain ⟨ys, h3, h4⟩ := run_loadCellsFrom' (P := P) b o n (i + 1) cs (acc.push y) (fun j d hd => by
    obtain ⟨z, h5, h6⟩ := h (j + 1) d (by simpa using hd)
    exact ⟨z, by rw [← h5]; congr 2; omega, h6⟩) (by simpa using hl)
   refine ⟨#[y] ++ ys, ?_, ?_⟩
   ·simp only [loadCellsFrom, Sem.run_bind, add_none, run_load]
    simp only [Nat.add_zero] at h1
    simp only [h1, Result.andThen_ok, h3]
    simp
   ·simp only [Array.toList_append, List.cons_append, List.nil_append, VRs]
    exact ⟨y, _, rfl, h2, h4⟩
theorem run_loadVar' {P : Program} {t : TypeId} {cs : List AV} {off : Nat} {v : AV} (h : apart P t cs off = some v) (b o : Nat)
 (hc : ∀ (i : Nat) c, cs[off + i]? = some c → ∃ y, w.cell? ⟨b, o + i, none⟩ = some y ∧ VR I m w c y) :
 ∃ y, (loadVar t ⟨b, o, none⟩).run P w = .ok y w ∧ VR I m w v y := by
 unfold apart at h
 split at h
 ·rename_i i hi
  split at h
  ·rename_i ha
   split at h
   ·rename_i hl
    injection h with h
    subst h
    obtain ⟨ys, h1, h2⟩ := run_loadCellsFrom' (P := P) (I := I) (m := m) (w := w) b o i.size 0 ((cs.drop off).take i.size) #[] (fun j c hj => by
     rw [List.getElem?_take] at hj
     split at hj
     ·rw [List.getElem?_drop] at hj; simpa using hc j c hj
     ·cases hj) (by simp; omega)
    refine ⟨.agg ys, ?_, ?_⟩
    ·simp only [loadVar, Sem.run_bind, run_isAgg' hi, ha, Result.andThen_ok, if_true, run_sizeOf' hi, loadCells, h1, Sem.run_pure]
     simp
    ·simp only [VR]; exact ⟨ys, rfl, h2⟩
   ·cases h
  ·rename_i ha
   obtain ⟨y, h1, h2⟩ := hc 0 v (by simpa using h)
   refine ⟨y, ?_, h2⟩
   simp only [Nat.add_zero] at h1
   simp only [loadVar, Sem.run_bind, run_isAgg' hi, Result.andThen_ok, ha]
   simp [h1]
 ·cases h
theorem run_part' {P : Program} {t : TypeId} {cs : List AV} {off : Nat} {v : AV} (h : apart P t cs off = some v) {xs : Array Value} (hc : VRs I m w cs xs.toList) :
 ∃ y, (part t xs off).run P w = .ok y w ∧ VR I m w v y := by
 unfold apart at h
 split at h
 ·rename_i i hi
  split at h
  ·rename_i ha
   split at h
   ·rename_i hl
    injection h with h
    subst h
    refine ⟨.agg (xs.extract off (off + i.size)), ?_, ?_⟩
    ·simp only [part, Sem.run_bind, run_isAgg' hi, ha, Result.andThen_ok, if_true, run_sizeOf' hi, Sem.run_pure]
    ·simp only [VR]
     refine ⟨_, rfl, ?_⟩
     have := (hc.drop off).take i.size
     rw [Array.toList_extract]
     simpa using this
   ·cases h
  ·rename_i ha
   obtain ⟨y, h1, h2⟩ := hc.get off v h
   have h3 : xs[off]? = some y := by simpa using h1
   refine ⟨y, ?_, h2⟩
   simp only [part, Sem.run_bind, run_isAgg' hi, Result.andThen_ok, ha]
   simp [h3]
 ·cases h
end
end Go.Abs
namespace Go.Abs
open Go
theorem Own.lt {I : Nat → Prop} {m : List Loc} {H : List AO} {w : World} (hr : HR I m H w) {b : Nat} (h : Own H m b) : b < w.heap.size := by
 obtain ⟨id, o, L, h1, h2, h3, h4, rfl⟩ := h
 exact hr.lt h1 h2 h3 h4
theorem OR.mono {I I' : Nat → Prop} {m nu : List Loc} {w w' : World} {o : AO} {L : Loc} (hI : ∀ b, I b → I' b) (hw : ∀ b, I b → w'.heap[b]? = w.heap[b]?) (hL : o.alive = true → L.cap ≠ 0 → w'.heap[L.b]? = w.heap[L.b]?) (h : OR I m w o L) : OR I' (m ++ nu) w' o L := by
 cases o with
 | dead => simp only [OR]
 | raw ob => simp only [OR] at h ⊢; rw [hL rfl h.1]; exact h
 | mapv ks vs =>
  simp only [OR] at h ⊢
  obtain ⟨hc, es, cl, h1, h2, h3⟩ := h
  exact ⟨hc, es, cl, by rw [hL rfl hc]; exact h1, h2, VRs.mono hI hw vs _ h3.1, h3.2⟩
 | mi vs s sn l =>
  simp only [OR] at h ⊢
  obtain ⟨hc, b, h1, h2⟩ := h
  exact ⟨hc, b, by rw [hL rfl hc.1]; exact h1, VRs.mono hI hw vs _ h2⟩
 | tf t cs =>
  simp only [OR] at h ⊢
  obtain ⟨h1, c, fz, h2, h3⟩ := h
  refine ⟨h1, c, fz, ⟨by rw [hL rfl h1.2.1]; exact h2.1, h2.2⟩, fun i x hx => ?_⟩
  obtain ⟨y, h7, h8, h9⟩ := h3 i x hx
  exact ⟨y, h7, VR.mono hI hw x y h8, h9⟩
 | tc t cs =>
  simp only [OR] at h ⊢
  obtain ⟨h1, c, h2, h3⟩ := h
  refine ⟨h1, c, ⟨by rw [hL rfl h1.2.1]; exact h2.1, h2.2⟩, fun i x hx => ?_⟩
  obtain ⟨y, h7, h8, h9⟩ := h3 i x hx
  exact ⟨y, h7, VR.mono hI hw x y h8, h9⟩
 | ice sz cs =>
  simp only [OR] at h ⊢
  obtain ⟨h1, h2, h3⟩ := h
  exact ⟨h1, h2, fun hc => ⟨hI _ (h3 hc).1, CR.mono hI hw (h3 hc).1 cs L.o (h3 hc).2⟩⟩
 | fx sz cs r =>
  simp only [OR] at h ⊢
  obtain ⟨⟨h1, h5, h⟩, hroom⟩ := h
  refine ⟨⟨h1, h5, fun hc => ?_⟩, hroom⟩
  obtain ⟨c, E, fz, h2, h3, h4, h6⟩ := h hc
  refine ⟨c, E, fz, by rw [hL rfl hc]; exact h2, h3, h4, fun i x hx => ?_⟩
  obtain ⟨y, h7, h8, h9⟩ := h6 i x hx
  exact ⟨y, h7, VR.mono hI hw x y h8, h9⟩
 | cells sz cs =>
  simp only [OR] at h ⊢
  obtain ⟨h1, h5, h⟩ := h
  refine ⟨h1, h5, fun hc => ?_⟩
  obtain ⟨c, E, fz, h2, h3, h4, h6⟩ := h hc
  refine ⟨c, E, fz, by rw [hL rfl hc]; exact h2, h3, h4, fun i x hx => ?_⟩
  obtain ⟨y, h7, h8, h9⟩ := h6 i x hx
  exact ⟨y, h7, VR.mono hI hw x y h8, h9⟩
theorem getElem?_push_old {α : Type} (l : List α) (x : α) {i : Nat} {y : α} (h : (l ++ [x])[i]? = some y) (hi : i ≠ l.length) : l[i]? = some y := by
 rcases Nat.lt_or_ge i l.length with h1 | h1
 ·rwa [List.getElem?_append_left h1] at h
 ·rw [List.getElem?_append_right h1] at h
  have : i - l.length ≠ 0 := by omega
  rw [List.getElem?_eq_none (by simp; omega)] at h
  cases h
theorem HR.push {I : Nat → Prop} {m : List Loc} {H : List AO} {w w' : World} (hr : HR I m H w) {o : AO} {L : Loc} (hI : ¬ I L.b) (hO : ¬ Own H m L.b) (hsz : w.heap.size ≤ w'.heap.size)
 (hw : ∀ b, b < w.heap.size → b ≠ L.b → w'.heap[b]? = w.heap[b]?) (ho : OR I (m ++ [L]) w' o L) : HR I (m ++ [L]) (H ++ [o]) w' where
 len := by simp [hr.len]
 ob := fun id o' L' h1 h2 => by
  by_cases hid : id = H.length
  ·subst hid
   rw [List.getElem?_append_right (Nat.le_refl _)] at h1
   rw [List.getElem?_append_right (by rw [hr.len]; exact Nat.le_refl _), hr.len] at h2
   simp at h1 h2
   subst h1; subst h2; exact ho
  ·have h1' := getElem?_push_old H o h1 hid
   have h2' := getElem?_push_old m L h2 (by rw [hr.len]; exact hid)
   refine OR.mono (fun _ h => h) (fun b hb => hw b (hr.ilt b hb) (fun e => hI (e ▸ hb))) (fun hal hc => hw _ (hr.lt h1' hal h2' hc) fun e => hO ⟨id, o', L', h1', hal, h2', hc, e⟩) (hr.ob id o' L' h1' h2')
 inj := fun i j oi oj Li Lj hne hi hj ai aj mi mj ci cj => by
  have lm := hr.len
  by_cases hi' : i = H.length
  ·by_cases hj' : j = H.length
   ·omega
   ·subst hi'
    rw [List.getElem?_append_right (by rw [lm]; exact Nat.le_refl _), lm] at mi
    simp at mi; subst mi
    exact fun e => hO ⟨j, oj, Lj, getElem?_push_old H o hj hj', aj, getElem?_push_old m L mj (by rw [lm]; exact hj'), cj, e.symm⟩
  ·by_cases hj' : j = H.length
   ·subst hj'
    rw [List.getElem?_append_right (by rw [lm]; exact Nat.le_refl _), lm] at mj
    simp at mj; subst mj
    exact fun e => hO ⟨i, oi, Li, getElem?_push_old H o hi hi', ai, getElem?_push_old m L mi (by rw [lm]; exact hi'), ci, e⟩
   ·exact hr.inj i j oi oj Li Lj hne (getElem?_push_old H o hi hi') (getElem?_push_old H o hj hj') ai aj (getElem?_push_old m L mi (by rw [lm]; exact hi')) (getElem?_push_old m L mj (by rw [lm]; exact hj')) ci cj
 imm := fun b hb ⟨id, o', L', h1, hal, h2, hc, e⟩ => by
  by_cases hid : id = H.length
  ·subst hid
   rw [List.getElem?_append_right (by rw [hr.len]; exact Nat.le_refl _), hr.len] at h2
   simp at h2; subst h2; exact hI (e ▸ hb)
  ·exact hr.imm b hb ⟨id, o', L', getElem?_push_old H o h1 hid, hal, getElem?_push_old m L h2 (by rw [hr.len]; exact hid), hc, e⟩
 ilt := fun b hb => Nat.lt_of_lt_of_le (hr.ilt b hb) hsz
 gl := hr.gl.on (fun _ h => h) fun b hb => hw b (hr.ilt b hb) fun e => hI (e ▸ hb)
theorem Own.push {m : List Loc} {H : List AO} (hl : m.length = H.length) {o : AO} {L : Loc} {b : Nat} (h : Own (H ++ [o]) (m ++ [L]) b) : Own H m b ∨ b = L.b := by
 obtain ⟨id, o', L', h1, hal, h2, hc, e⟩ := h
 by_cases hid : id = H.length
 ·subst hid
  rw [List.getElem?_append_right (by rw [hl]; exact Nat.le_refl _), hl] at h2
  simp at h2; subst h2; exact .inr e.symm
 ·exact .inl ⟨id, o', L', getElem?_push_old H o h1 hid, hal, getElem?_push_old m L h2 (by rw [hl]; exact hid), hc, e⟩
theorem HR.alloc {I : Nat → Prop} {m : List Loc} {H : List AO} {w w' : World} (hr : HR I m H w) {o : AO} {L : Loc} (hL : L.b = w.heap.size) {ob : Obj} (hh : w'.heap = w.heap.push ob) (hos : w'.os = w.os) (htp : w'.tape = w.tape) (hout : w'.output = w.output)
 (ho : OR I (m ++ [L]) w' o L) : HR I (m ++ [L]) (H ++ [o]) w' ∧ Ext I m (Own H m) w I (m ++ [L]) (Own (H ++ [o]) (m ++ [L])) w' := by
 have hs : w'.heap.size = w.heap.size + 1 := by rw [hh]; simp
 have hk : ∀ b, b < w.heap.size → w'.heap[b]? = w.heap[b]? := fun b hb => by rw [hh, Array.getElem?_push, if_neg (by omega)]
 refine ⟨hr.push (fun h => ?_) (fun h => ?_) (by omega) (fun b hb _ => hk b hb) ho, ⟨hos, htp, hout, by omega, fun b hb _ => hk b hb, fun _ h => h, fun b hb => ?_, ⟨[L], rfl⟩, fun _ h => .inl h⟩⟩
 ·have := hr.ilt _ h; omega
 ·have := h.lt hr; omega
 ·rcases Own.push hr.len hb with h | h
  ·exact .inl h
  ·exact .inr (by omega)
theorem HR.pushVoid {I : Nat → Prop} {m : List Loc} {H : List AO} {w : World} (hr : HR I m H w) (b : Nat) (sz : Nat) : HR I (m ++ [⟨b, 0, sz, 0⟩]) (H ++ [.cells sz []]) w ∧ Ext I m (Own H m) w I (m ++ [⟨b, 0, sz, 0⟩]) (Own (H ++ [.cells sz []]) (m ++ [⟨b, 0, sz, 0⟩])) w := by
 have old : ∀ (j : Nat) oj Lj, (H ++ [AO.cells sz []])[j]? = some oj → (m ++ [(⟨b, 0, sz, 0⟩ : Loc)])[j]? = some Lj → Lj.cap ≠ 0 → H[j]? = some oj ∧ m[j]? = some Lj := fun j oj Lj h1 h2 hc => by
  have hj : j ≠ H.length := fun e => by
   subst e
   rw [List.getElem?_append_right (by rw [hr.len]; exact Nat.le_refl _), hr.len] at h2
   simp at h2; subst h2; exact hc rfl
  exact ⟨getElem?_push_old H _ h1 hj, getElem?_push_old m _ h2 (by rw [hr.len]; exact hj)⟩
 have own : ∀ c, Own (H ++ [.cells sz []]) (m ++ [⟨b, 0, sz, 0⟩]) c → Own H m c := fun c ⟨j, oj, Lj, h1, h2, h3, h4, h5⟩ => by
  obtain ⟨q1, q2⟩ := old j oj Lj h1 h3 h4
  exact ⟨j, oj, Lj, q1, h2, q2, h4, h5⟩
 refine ⟨⟨by simp [hr.len], fun j oj Lj h1 h2 => ?_, fun i j oi oj Li Lj hij hi hj ai aj mi mj ci cj => ?_, fun c hc hO => hr.imm c hc (own c hO), hr.ilt, hr.gl⟩, ⟨rfl, rfl, rfl, Nat.le_refl _, fun _ _ _ => rfl, fun _ h => h, fun c hc => .inl (own c hc), ⟨_, rfl⟩, fun _ h => .inl h⟩⟩
 ·by_cases hj : j = H.length
  ·subst hj
   rw [List.getElem?_append_right (Nat.le_refl _)] at h1
   rw [List.getElem?_append_right (by rw [hr.len]; exact Nat.le_refl _), hr.len] at h2
   simp at h1 h2
   subst h1; subst h2
   simp [OR]
  ·exact OR.mono (fun _ h => h) (fun _ _ => rfl) (fun _ _ => rfl) (hr.ob j oj Lj (getElem?_push_old H _ h1 hj) (getElem?_push_old m _ h2 (by rw [hr.len]; exact hj)))
 ·obtain ⟨q1, q2⟩ := old i oi Li hi mi ci
  obtain ⟨q3, q4⟩ := old j oj Lj hj mj cj
  exact hr.inj i j oi oj Li Lj hij q1 q3 ai aj q2 q4 ci cj
theorem HR.set {I : Nat → Prop} {m : List Loc} {H : List AO} {w w' : World} (hr : HR I m H w) {id : Nat} {o o' : AO} {L : Loc} (hid : H[id]? = some o) (hal : o.alive = true) (hm : m[id]? = some L) (hs : w'.heap.size = w.heap.size)
 (hw : ∀ b, (L.cap ≠ 0 → b ≠ L.b) → w'.heap[b]? = w.heap[b]?) (hos : w'.os = w.os) (htp : w'.tape = w.tape) (hout : w'.output = w.output) (ho : OR I m w' o' L) :
 HR I m (H.set id o') w' ∧ Ext I m (Own H m) w I m (Own (H.set id o') m) w' := by
 have hlt : id < H.length := (List.getElem?_eq_some_iff.1 hid).1
 have hne : ∀ b, I b → L.cap ≠ 0 → b ≠ L.b := fun b hb hc e => hr.imm b hb ⟨id, o, L, hid, hal, hm, hc, e.symm⟩
 have old : ∀ (j : Nat) oj, (H.set id o')[j]? = some oj → j ≠ id → H[j]? = some oj := fun j oj h hj => by
  rwa [List.getElem?_set_ne (Ne.symm hj)] at h
 have ownb : ∀ b, Own (H.set id o') m b → Own H m b := fun b ⟨j, oj, Lj, h1, h2, h3, h5, h4⟩ => by
  by_cases hj : j = id
  ·subst hj
   rw [hm] at h3; injection h3 with h3; subst h3
   exact ⟨j, o, L, hid, hal, hm, h5, h4⟩
  ·exact ⟨j, oj, Lj, old j oj h1 hj, h2, h3, h5, h4⟩
 refine ⟨⟨by simp [hr.len], fun j oj Lj h1 h2 => ?_, fun i j oi oj Li Lj hij hi hj ai aj mi mj ci cj => ?_, fun b hb h => hr.imm b hb (ownb b h), fun b hb => by rw [hs]; exact hr.ilt b hb, hr.gl.on (fun _ h => h) fun b hb => hw b (hne b hb)⟩, ⟨hos, htp, hout, by omega, fun b hb hn => hw b fun hc e => hn ⟨id, o, L, hid, hal, hm, hc, e.symm⟩, fun _ h => h, fun b hb => .inl (ownb b hb), ⟨[], by simp⟩, fun _ h => .inl h⟩⟩
 ·by_cases hj : j = id
  ·subst hj
   rw [List.getElem?_set_self hlt] at h1
   injection h1 with h1; subst h1
   rw [hm] at h2; injection h2 with h2; subst h2
   exact ho
  ·have h1' := old j oj h1 hj
   have := OR.mono (nu := []) (fun _ h => h) (fun b hb => hw b (hne b hb)) (fun aj cj => hw _ fun c e => hr.inj j id oj o Lj L hj h1' hid aj hal h2 hm cj c e) (hr.ob j oj Lj h1' h2)
   simpa using this
 ·by_cases hi' : i = id
  ·subst hi'
   have h1 := old j oj hj (Ne.symm hij)
   exact hr.inj i j o oj Li Lj hij hid h1 hal aj mi mj ci cj
  ·have h1 := old i oi hi hi'
   by_cases hj' : j = id
   ·subst hj'
    exact hr.inj i j oi o Li Lj hij h1 hid ai hal mi mj ci cj
   ·exact hr.inj i j oi oj Li Lj hij h1 (old j oj hj hj') ai aj mi mj ci cj
theorem HR.kill {I : Nat → Prop} {m : List Loc} {H : List AO} {w : World} (hr : HR I m H w) {id : Nat} {o : AO} {L : Loc} (hid : H[id]? = some o) (hal : o.alive = true) (hm : m[id]? = some L) :
 HR I m (H.set id .dead) w ∧ (L.cap ≠ 0 → ¬ Own (H.set id .dead) m L.b) ∧ (∀ b, Own (H.set id .dead) m b → Own H m b) := by
 have h := hr.set (o' := .dead) hid hal hm rfl (fun _ _ => rfl) rfl rfl rfl (by simp only [OR])
 have hlt : id < H.length := (List.getElem?_eq_some_iff.1 hid).1
 have old : ∀ (j : Nat) oj, (H.set id .dead)[j]? = some oj → oj.alive = true → j ≠ id ∧ H[j]? = some oj := fun j oj h ha => by
  by_cases hj : j = id
  ·subst hj
   rw [List.getElem?_set_self hlt] at h
   injection h with h; subst h; cases ha
  ·exact ⟨hj, by rwa [List.getElem?_set_ne (Ne.symm hj)] at h⟩
 refine ⟨h.1, fun hc ⟨j, oj, Lj, h1, h2, h3, h5, h4⟩ => ?_, fun b ⟨j, oj, Lj, h1, h2, h3, h5, h4⟩ => ?_⟩
 ·obtain ⟨hj, h1'⟩ := old j oj h1 h2
  exact hr.inj j id oj o Lj L hj h1' hid h2 hal h3 hm h5 hc h4
 ·obtain ⟨hj, h1'⟩ := old j oj h1 h2
  exact ⟨j, oj, Lj, h1', h2, h3, h5, h4⟩
theorem HR.goOn {I : Nat → Prop} {m : List Loc} {H : List AO} {w w' : World} (hr : HR I m H w) {id : Nat} {o o' : AO} {L L' : Loc} (hid : H[id]? = some o) (hal : o.alive = true) (hm : m[id]? = some L)
 (hsz : w.heap.size ≤ w'.heap.size) (hL : L'.b = L.b ∧ L.cap ≠ 0 ∨ (w.heap.size ≤ L'.b ∧ L'.b < w'.heap.size)) (hw : ∀ b, b < w.heap.size → b ≠ L'.b → w'.heap[b]? = w.heap[b]?) (hos : w'.os = w.os) (htp : w'.tape = w.tape) (hout : w'.output = w.output)
 (ho : OR I (m ++ [L']) w' o' L') : HR I (m ++ [L']) (H.set id .dead ++ [o']) w' ∧ Ext I m (Own H m) w I (m ++ [L']) (Own (H.set id .dead ++ [o']) (m ++ [L'])) w' := by
 obtain ⟨h1, h2, h3⟩ := hr.kill hid hal hm
 refine ⟨h1.push (fun h => ?_) (fun h => ?_) hsz hw ho, ⟨hos, htp, hout, hsz, fun b hb hn => hw b hb fun e => ?_, fun _ h => h, fun b hb => ?_, ⟨[L'], rfl⟩, fun _ h => .inl h⟩⟩
 ·rcases hL with ⟨e, hc⟩ | ⟨e, _⟩
  ·exact hr.imm _ h ⟨id, o, L, hid, hal, hm, hc, e.symm⟩
  ·have := hr.ilt _ h; omega
 ·rcases hL with ⟨e, hc⟩ | ⟨e, _⟩
  ·rw [e] at h; exact h2 hc h
  ·have := h.lt h1; omega
 ·rcases hL with ⟨e', hc⟩ | ⟨e', _⟩
  ·exact hn ⟨id, o, L, hid, hal, hm, hc, by omega⟩
  ·omega
 ·rcases Own.push (by simp [hr.len]) hb with h | h
  ·exact .inl (h3 b h)
  ·rcases hL with ⟨e, hc⟩ | ⟨e, _⟩
   ·exact .inl ⟨id, o, L, hid, hal, hm, hc, by omega⟩
   ·exact .inr (by omega)
end Go.Abs
namespace Go.Abs
open Go
def SOK (P : Program) (I : Nat → Prop) (m : List Loc) (H : List AO) (w : World) (s : Sem Value) (v : AV) (H' : List AO) : Prop :=
 ∃ y w' m', s.run P w = .ok y w' ∧ VR I m' w' v y ∧ HR I m' H' w' ∧ Ext I m (Own H m) w I m' (Own H' m') w'
section
variable {P : Program} {I : Nat → Prop} {m : List Loc} {H : List AO} {w : World}
theorem SOK.same {s : Sem Value} {v : AV} {y : Value} (hr : HR I m H w) (h : s.run P w = .ok y w) (hv : VR I m w v y) : SOK P I m H w s v H :=
 ⟨y, w, m, h, hv, hr, Ext.refl _ _ _ _⟩
theorem map_v_one {xs : List Value} (h : ∀ x ∈ xs, x.oneCell' = true) : (xs.map AV.v).all (·.one) = true := List.all_eq_true.2 fun c hc => by
 obtain ⟨x, hx, rfl⟩ := List.mem_map.1 hc
 exact h x hx
theorem HR.newCells (hr : HR I m H w) (sz : Nat) {cs : List AV} {xs : List Value} (hv : VRs I m w cs xs) (h1 : cs.all (·.one) = true) {arr : Array Value} {rest : List Value} (harr : arr.toList = xs ++ rest)
 {E : TypeId} {fz : Nat × Nat} (hfz : ∀ j, fz.1 ≤ j → j < fz.2 → arr.size ≤ j) {w' : World} (hw : w'.heap = w.heap.push (.cells arr E fz)) (hos : w'.os = w.os) (htp : w'.tape = w.tape) (hout : w'.output = w.output) :
 HR I (m ++ [⟨w.heap.size, 0, sz, arr.size⟩]) (H ++ [.cells sz cs]) w' ∧ Ext I m (Own H m) w I (m ++ [⟨w.heap.size, 0, sz, arr.size⟩]) (Own (H ++ [.cells sz cs]) (m ++ [⟨w.heap.size, 0, sz, arr.size⟩])) w' := by
 have hl : arr.size = xs.length + rest.length := by rw [← Array.length_toList, harr, List.length_append]
 refine hr.alloc rfl hw hos htp hout ?_
 simp only [OR]
 refine ⟨trivial, by rw [← hv.len]; omega, fun _ => ⟨arr, E, fz, by rw [hw]; simp, hfz, by omega, fun i x hx => ?_⟩⟩
 obtain ⟨y, h2, h3⟩ := hv.get i x hx
 have hlt : i < xs.length := (List.getElem?_eq_some_iff.1 h2).1
 refine ⟨y, ?_, VR.mono (fun _ h => h) (fun b hb => by rw [hw, Array.getElem?_push, if_neg (by have := hr.ilt b hb; omega)]) x y h3, List.all_eq_true.1 h1 x (List.mem_of_getElem? hx)⟩
 rw [Nat.zero_add, ← Array.getElem?_toList, harr, List.getElem?_append_left hlt]
 exact h2
theorem last_loc (L : Loc) : (m ++ [L])[m.length]? = some L := by rw [List.getElem?_append_right (Nat.le_refl _)]; simp
theorem last_lk (L : Loc) (h : L.sz ≠ 0) : lk (m ++ [L]) m.length = some L := lk_of (last_loc L) h
theorem SOK.box (hr : HR I m H w) {c : AV} {x : Value} (t : TypeId) (h : VR I m w c x) (h1 : (flat c).all (·.one) = true) : SOK P I m H w (Instr.box t x) (.pt H.length 0) (H ++ [.cells 1 (flat c)]) := by
 have hf := VRs.flat h h1
 obtain ⟨h2, h3⟩ := hr.newCells (w' := { w with heap := w.heap.push (.cells x.cells t) }) 1 hf h1 (rest := []) (arr := x.cells) (by simp) (E := t) (fz := (0, 0)) (by intro j _ h; simp at h) rfl rfl rfl rfl
 refine ⟨.pointer (some ⟨w.heap.size, 0, none⟩), _, _, ?_, ?_, h2, h3⟩
 ·simp [Instr.box, newVar, newRow]
 ·simp only [VR]; exact ⟨_, by rw [← hr.len]; exact last_lk _ (by simp), rfl⟩
theorem SOK.alloc (hr : HR I m H w) {t : TypeId} {i : TI} (hi : ti P t = some i) : SOK P I m H w (Instr.alloc t true (.tuple #[])) (.pt H.length 0) (H ++ [.cells 1 (i.zero.map .v)]) := by
 obtain ⟨z, hz, hz1, hz2⟩ := run_zeroValue' (w := w) hi
 obtain ⟨h2, h3⟩ := hr.newCells (w' := { w with heap := w.heap.push (.cells z.cells t) }) 1 (VRs.map_v i.zero) (map_v_one (ti_zero_one hi)) (rest := []) (arr := z.cells) (by simp [hz1]) (E := t) (fz := (0, 0)) (by intro j _ h; simp at h) rfl rfl rfl rfl
 refine ⟨.pointer (some ⟨w.heap.size, 0, none⟩), _, _, ?_, ?_, h2, h3⟩
 ·simp [Instr.alloc, hz, newVar, newRow]
 ·simp only [VR]; exact ⟨_, by rw [← hr.len]; exact last_lk _ (by simp), rfl⟩
theorem run_storeCells' (P : Program) (b o : Nat) {E : TypeId} {fz : Nat × Nat} : ∀ (vs : List Value) (i : Nat) (cur : Array Value) (w : World), w.heap[b]? = some (.cells cur E fz) → (∀ j, fz.1 ≤ j → j < fz.2 → cur.size ≤ j) →
 o + i + vs.length ≤ cur.size → (∀ v ∈ vs, v.oneCell' = true) →
 ∃ cur' w', (storeCells ⟨b, o, none⟩ vs i).run P w = .ok () w' ∧ w'.heap.size = w.heap.size ∧ w'.heap[b]? = some (.cells cur' E fz) ∧ cur'.size = cur.size ∧ (∀ b', b' ≠ b → w'.heap[b']? = w.heap[b']?) ∧ w'.os = w.os ∧ w'.tape = w.tape ∧ w'.output = w.output ∧
  cur'.toList = cur.toList.take (o + i) ++ vs ++ cur.toList.drop (o + i + vs.length)
 | [], i, cur, w, hb, _, hl, _ => ⟨cur, w, by simp [storeCells], rfl, hb, rfl, fun _ _ => rfl, rfl, rfl, rfl, by simp⟩
 | v :: vs, i, cur, w, hb, hf, hl, h1 => by
  have hlt : o + i < cur.size := by simp at hl; omega
  have hc : w.cell? ⟨b, o + i, none⟩ = some cur[o + i] := by simp [World.cell?, hb, hlt]
  have hfr : w.frozen? ⟨b, o + i, none⟩ = false := by
   simp only [World.frozen?, hb]
   by_cases h2 : fz.1 ≤ o + i
   ·by_cases h3 : o + i < fz.2
    ·have := hf _ h2 h3; omega
    ·simp [h3]
   ·simp [h2]
  have hb' : (w.setCell ⟨b, o + i, none⟩ v).heap[b]? = some (.cells (cur.setIfInBounds (o + i) v) E fz) := by
   simp [World.setCell, Array.getElem?_modify, hb]
  obtain ⟨cur', w', h2, h3, h4, h5, h6, h7, h8, h9, h10⟩ := run_storeCells' P b o vs (i + 1) (cur.setIfInBounds (o + i) v) (w.setCell ⟨b, o + i, none⟩ v) hb' (by simpa using hf) (by simp at hl ⊢; omega) (fun u hu => h1 u (List.mem_cons_of_mem _ hu))
  refine ⟨cur', w', ?_, by rw [h3]; simp [World.setCell], h4, by rw [h5]; simp, fun b' hb'' => ?_, h7, h8, h9, ?_⟩
  ·simp only [storeCells, Sem.run_bind, add_none, run_store P w _ v _ (h1 v (List.mem_cons_self ..)), hc, hfr]
   simp [h2]
  ·rw [h6 b' hb'']
   simp only [World.setCell, Array.getElem?_modify]
   rw [if_neg (by simpa using Ne.symm hb'')]
  ·rw [h10]
   simp only [Array.toList_setIfInBounds, List.length_cons]
   apply List.ext_getElem?
   intro k
   have hcl : cur.toList.length = cur.size := Array.length_toList
   simp only [List.append_assoc, List.getElem?_append, List.length_take, List.length_set, hcl, List.length_append, List.length_cons, List.getElem?_take, List.getElem?_drop, List.getElem?_set, List.cons_append]
   rcases Nat.lt_trichotomy k (o + i) with hk | hk | hk
   ·simp only [show k < min (o + (i + 1)) cur.size by omega, show k < min (o + i) cur.size by omega, if_true, show k < o + (i + 1) by omega, show k < o + i by omega, show ¬ (o + i = k) by omega, if_false]
   ·subst hk
    simp only [show o + i < min (o + (i + 1)) cur.size by omega, show ¬ (o + i < min (o + i) cur.size) by omega, if_true, if_false, show o + i < o + (i + 1) by omega, hlt]
    rw [show o + i - min (o + i) cur.size = 0 by omega]
    simp
   ·simp only [show ¬ (k < min (o + (i + 1)) cur.size) by omega, show ¬ (k < min (o + i) cur.size) by omega, if_false]
    rw [show k - min (o + i) cur.size = (k - min (o + (i + 1)) cur.size) + 1 by omega]
    simp only [List.getElem?_cons_succ]
    by_cases hk2 : k - min (o + (i + 1)) cur.size < vs.length
    ·rw [List.getElem?_append_left hk2]
     simp [hk2]
    ·rw [List.getElem?_append_right (by omega)]
     simp only [hk2, if_false, List.getElem?_drop]
     have e1 : o + (i + 1) + vs.length + (k - min (o + (i + 1)) cur.size - vs.length) = o + i + (vs.length + 1) + (k - min (o + (i + 1)) cur.size - vs.length) := by omega
     rw [e1, if_neg (by omega)]
theorem set_self {α : Type} {l : List α} {i : Nat} {a : α} (h : l[i]? = some a) : l.set i a = l := by
 apply List.ext_getElem?
 intro j
 rw [List.getElem?_set]
 by_cases e : i = j
 ·subst e; rw [if_pos rfl, if_pos (List.getElem?_eq_some_iff.1 h).1, h]
 ·rw [if_neg e]
theorem rowSet_ok (hr : HR I m H w) {id off sz : Nat} {cs : List AV} (hid : H[id]? = some (.cells sz cs)) {L : Loc} (hm : m[id]? = some L) (hL0 : L.cap ≠ 0) {xs : List Value} {new : List AV} (hf : VRs I m w new xs)
 (h1 : new.all (·.one) = true) (h3 : off + new.length ≤ cs.length) :
 ∃ w', (storeCells ⟨L.b, L.o + off, none⟩ xs).run P w = .ok () w' ∧ HR I m (H.set id (.cells sz (setRange cs off new))) w' ∧ Ext I m (Own H m) w I m (Own (H.set id (.cells sz (setRange cs off new))) m) w' := by
 obtain ⟨hsz, hlen, hob⟩ := hr.ob id _ L hid hm
 have hfl := hf.len
 obtain ⟨ce, E, fz, hb, hfz, hcap, hcs⟩ := hob hL0
 obtain ⟨cur', w', h4, h5, h6, h7, h8, h9, h10, h11, h12⟩ := run_storeCells' P L.b (L.o + off) xs 0 ce w hb hfz (by rw [hfl]; omega) (hf.one h1)
 have hst := hr.set (w' := w') (o' := .cells sz (setRange cs off new)) hid rfl hm h5 (fun b hb => h8 b (hb hL0)) h9 h10 h11 (by
  simp only [OR]
  refine ⟨hsz, by simp only [setRange, List.length_append, List.length_take, List.length_drop]; omega, fun _ => ⟨cur', E, fz, h6, by rw [h7]; exact hfz, by omega, fun k v hv => ?_⟩⟩
  have mono : ∀ v y, VR I m w v y → VR I m w' v y := fun v y h => by
   have := VR.mono (nu := []) (fun _ h => h) (fun b hb => h8 b fun e => hr.imm b hb ⟨id, _, L, hid, rfl, hm, hL0, e.symm⟩) v y h
   simpa using this
  have hget : cur'[L.o + k]? = cur'.toList[L.o + k]? := by simp
  rw [hget, h12, hfl]
  simp only [setRange, List.append_assoc, List.getElem?_append, List.length_take, List.getElem?_take, List.getElem?_drop, Nat.add_zero] at hv ⊢
  have hcl : ce.toList.length = ce.size := Array.length_toList
  rw [hcl]
  by_cases hk : k < off
  ·rw [if_pos (by omega), if_pos (by omega)] at hv
   rw [if_pos (by omega), if_pos (by omega)]
   obtain ⟨y, hy, hy2, hy3⟩ := hcs k v hv
   exact ⟨y, by simpa using hy, mono v y hy2, hy3⟩
  ·rw [if_neg (by omega)] at hv
   rw [if_neg (by omega)]
   rw [show min off cs.length = off by omega] at hv
   rw [show L.o + k - min (L.o + off) ce.size = k - off by omega]
   by_cases hk2 : k - off < new.length
   ·rw [if_pos hk2] at hv
    rw [if_pos (by rw [hfl]; exact hk2)]
    obtain ⟨y, hy, hy2⟩ := hf.get _ v hv
    exact ⟨y, hy, mono v y hy2, List.all_eq_true.1 h1 v (List.mem_of_getElem? hv)⟩
   ·rw [if_neg hk2] at hv
    rw [if_neg (by rw [hfl]; exact hk2), hfl]
    obtain ⟨y, hy, hy2, hy3⟩ := hcs _ v hv
    refine ⟨y, ?_, mono v y hy2, hy3⟩
    rw [show L.o + off + new.length + (k - off - new.length) = L.o + (off + new.length + (k - off - new.length)) by omega]
    simpa using hy)
 exact ⟨w', h4, hst.1, hst.2⟩
theorem store_ok (hr : HR I m H w) {t : TypeId} {i : TI} (hi : ti P t = some i) {id off sz : Nat} {cs : List AV} (hid : H[id]? = some (.cells sz cs)) {p x : Value} (hp : VR I m w (.pt id off) p) {c : AV} (hx : VR I m w c x)
 (h1 : (flat c).all (·.one) = true) (h2 : i.size = (flat c).length) (h3 : off + (flat c).length ≤ cs.length) :
 ∃ w', (Instr.storeAt t p x).run P w = .ok () w' ∧ HR I m (H.set id (.cells sz (setRange cs off (flat c)))) w' ∧ Ext I m (Own H m) w I m (Own (H.set id (.cells sz (setRange cs off (flat c)))) m) w' := by
 simp only [VR] at hp
 obtain ⟨L, hm, rfl⟩ := hp
 replace hm := (lk_get hm).1
 obtain ⟨hsz, hlen, hob⟩ := hr.ob id _ L hid hm
 have hf := VRs.flat hx h1
 have hfl := hf.len
 have hcell : x.cells.size = (flat c).length := by rw [← hfl, Array.length_toList]
 by_cases hL0 : L.cap = 0
 ·have hnil : flat c = [] := List.eq_nil_of_length_eq_zero (by omega)
  have hxn : x.cells.toList = [] := List.eq_nil_of_length_eq_zero (by rw [hfl, hnil]; rfl)
  have hcs : setRange cs off (flat c) = cs := by simp [hnil, setRange]
  rw [hcs, set_self hid]
  refine ⟨w, ?_, hr, Ext.refl _ _ _ _⟩
  simp only [Instr.storeAt, Instr.sureAddr, Sem.run_bind, Sem.run_pure, Result.andThen_ok, storeVar, run_sizeOf' hi, Sem.run_ite]
  rw [if_neg (by rw [hcell, h2]; simp), hxn]
  simp [storeCells]
 obtain ⟨w', h4, h5, h6⟩ := rowSet_ok (P := P) hr hid hm hL0 hf h1 h3
 refine ⟨w', ?_, h5, h6⟩
 simp only [Instr.storeAt, Instr.sureAddr, Sem.run_bind, Sem.run_pure, Result.andThen_ok, storeVar, run_sizeOf' hi, Sem.run_ite]
 rw [if_neg (by rw [hcell, h2]; simp)]
 exact h4
end
end Go.Abs
namespace Go.Abs
open Go
theorem set_then {α : Type} (l : List α) (n : Nat) (v : α) (vs : List α) (h : n < l.length) : (l.set n v).take (n + 1) ++ vs ++ (l.set n v).drop (n + 1 + vs.length) = l.take n ++ (v :: vs) ++ l.drop (n + (vs.length + 1)) := by
 have e1 : (l.set n v).take (n + 1) = l.take n ++ [v] := by
  apply List.ext_getElem?
  intro k
  simp only [List.getElem?_take, List.getElem?_set, List.getElem?_append, List.length_take]
  rcases Nat.lt_trichotomy k n with hk | hk | hk
  ·rw [if_pos (by omega), if_neg (by omega), if_pos (by omega), if_pos hk]
  ·subst hk
   rw [if_pos (by omega), if_pos rfl, if_pos h, if_neg (by omega)]
   rw [show k - min k l.length = 0 by omega]
   rfl
  ·rw [if_neg (by omega), if_neg (by omega)]
   rw [List.getElem?_eq_none (by simp; omega)]
 have e2 : (l.set n v).drop (n + 1 + vs.length) = l.drop (n + 1 + vs.length) := by
  apply List.ext_getElem?
  intro k
  simp only [List.getElem?_drop, List.getElem?_set]
  rw [if_neg (by omega)]
 rw [e1, e2]
 simp only [List.append_assoc, List.cons_append, List.nil_append]
 rw [show n + 1 + vs.length = n + (vs.length + 1) by omega]
theorem foldl_set (off : Nat) : ∀ (vs : List Value) (k : Nat) (cells : Array Value), off + k + vs.length ≤ cells.size →
 ((vs.zipIdx k).foldl (fun (cs : Array Value) (x : Value × Nat) => cs.setIfInBounds (off + x.2) x.1) cells).toList = cells.toList.take (off + k) ++ vs ++ cells.toList.drop (off + k + vs.length)
 | [], k, cells, _ => by simp
 | v :: vs, k, cells, h => by
  simp only [List.zipIdx_cons, List.foldl_cons]
  rw [foldl_set off vs (k + 1) _ (by simp at h ⊢; omega)]
  rw [Array.toList_setIfInBounds]
  rw [show off + (k + 1) = off + k + 1 by omega]
  rw [set_then _ _ _ _ (by rw [Array.length_toList]; simp at h; omega)]
  rfl
section
variable {P : Program} {I : Nat → Prop} {m : List Loc} {H : List AO} {w : World}
theorem fill_ok {place : Nat → Option (Nat × Nat)} : ∀ (ps : List (Nat × AV)) (qs : List (Nat × Value)) {cs cs' : List AV} {xs : Array Value}, afill place cs ps = some cs' → VRs I m w cs xs.toList →
 ps.map (·.1) = qs.map (·.1) → VRs I m w (ps.map (·.2)) (qs.map (·.2)) → ∃ xs', Instr.fill place xs qs = some xs' ∧ VRs I m w cs' xs'.toList
 | [], qs, cs, cs', xs, h, hv, h1, h2 => by
  simp only [afill] at h
  injection h with h; subst h
  have : qs = [] := by simpa using h1.symm
  subst this
  exact ⟨xs, rfl, hv⟩
 | (i, v) :: ps, qs, cs, cs', xs, h, hv, h1, h2 => by
  cases qs with
  | nil => simp at h1
  | cons q qs =>
   obtain ⟨j, x⟩ := q
   simp only [List.map_cons, List.cons.injEq] at h1
   obtain ⟨rfl, h1⟩ := h1
   simp only [List.map_cons, VRs] at h2
   obtain ⟨x', zs, e, hx, h2⟩ := h2
   obtain ⟨rfl, rfl⟩ := List.cons.inj e
   simp only [afill] at h
   split at h
   ·cases h
   ·rename_i off size hpl
    split at h
    ·rename_i hc
     have hf := VRs.flat hx hc.2.1
     have hl := hf.len
     have hl2 : x.cells.size = (flat v).length := by rw [← hl, Array.length_toList]
     have hxs : xs.size = cs.length := by rw [← hv.len, Array.length_toList]
     have hset := hv.setRange hf off
     have e1 : (x.cells.zipIdx.foldl (fun (cs : Array Value) (x : Value × Nat) => cs.setIfInBounds (off + x.2) x.1) xs).toList = xs.toList.take off ++ x.cells.toList ++ xs.toList.drop (off + x.cells.toList.length) := by
      rw [← Array.foldl_toList, Array.toList_zipIdx]
      have := foldl_set off x.cells.toList 0 xs (by rw [Array.length_toList]; omega)
      simpa using this
     obtain ⟨xs', h3, h4⟩ := fill_ok (xs := x.cells.zipIdx.foldl (fun (cs : Array Value) (x : Value × Nat) => cs.setIfInBounds (off + x.2) x.1) xs) ps qs h (by rw [e1]; exact hset) h1 h2
     refine ⟨xs', ?_, h4⟩
     simp only [Instr.fill, hpl]
     rw [if_neg (by rw [hl2]; simp; omega)]
     exact h3
    ·cases h
theorem parts_ok {g : List AV} {a : Act} (h : VRs I m w g a.tmps.toList) (parts : Array (Nat × Operand)) :
 (parts.toList.map fun p => (p.1, ev g p.2)).map (·.1) = (parts.map fun (i, x) => (i, a.eval x)).toList.map (·.1) ∧
 VRs I m w ((parts.toList.map fun p => (p.1, ev g p.2)).map (·.2)) ((parts.map fun (i, x) => (i, a.eval x)).toList.map (·.2)) := by
 rw [Array.toList_map]
 generalize parts.toList = l
 induction l with
 | nil => simp [VRs]
 | cons p l ih =>
  obtain ⟨i, x⟩ := p
  simp only [List.map_cons, VRs]
  exact ⟨by rw [ih.1], _, _, rfl, VR.ev h x, ih.2⟩
theorem evs_ok {g : List AV} {a : Act} (h : VRs I m w g a.tmps.toList) : ∀ (xs : List Operand), VRs I m w (xs.map (ev g)) (xs.map a.eval)
 | [] => by simp [VRs]
 | x :: xs => by simp only [List.map_cons, VRs]; exact ⟨_, _, rfl, VR.ev h x, evs_ok h xs⟩
theorem run_mapM_fields : ∀ (fs : List Field), (∀ f ∈ fs, (ti P f.type).isSome = true) → (fs.mapM fun f => do let s ← sizeOf f.type; pure (f.offset, s) : Sem (List (Nat × Nat))).run P w = .ok (fs.map fun f => (f.offset, ((ti P f.type).map (·.size)).getD 0)) w
 | [], _ => by simp
 | f :: fs, h => by
  have h1 := h f (List.mem_cons_self ..)
  obtain ⟨i, hi⟩ := Option.isSome_iff_exists.1 h1
  have ih := run_mapM_fields fs fun f hf => h f (List.mem_cons_of_mem _ hf)
  simp only [List.mapM_cons, Sem.run_bind, run_sizeOf' hi, Result.andThen_ok, Sem.run_pure, ih, hi, List.map_cons]
  rfl
theorem SOK.build_struct (hr : HR I m H w) {t : TypeId} {fs : Array Field} {sz bt : Nat} {z : List Value} (hi : ti P t = some ⟨.struct fs, sz, bt, z⟩) (hf : (fs.toList.all fun f => (ti P f.type).isSome) = true) {ps : List (Nat × AV)} {qs : Array (Nat × Value)}
 {cs : List AV} (h : afill (fieldPlaces P fs) (z.map .v) ps = some cs) (h1 : ps.map (·.1) = qs.toList.map (·.1)) (h2 : VRs I m w (ps.map (·.2)) (qs.toList.map (·.2))) :
 SOK P I m H w (Instr.build t qs) (.ag cs) H := by
 obtain ⟨zv, hz, hz1, hz2⟩ := run_zeroValue' (w := w) hi
 have hall : ∀ f ∈ fs.toList, (ti P f.type).isSome = true := fun f hff => List.all_eq_true.1 hf f hff
 have hpl : (fun i => (fs.map fun f => (f.offset, ((ti P f.type).map (·.size)).getD 0))[i]?) = fieldPlaces P fs := by
  funext i
  simp only [fieldPlaces, Array.getElem?_map]
  cases hfi : fs[i]? with
  | none => simp
  | some f =>
   obtain ⟨j, hj⟩ := Option.isSome_iff_exists.1 (hall f (by have := Array.mem_of_getElem? hfi; simpa using this))
   simp [hj]
 obtain ⟨xs', h3, h4⟩ := fill_ok ps qs.toList (xs := zv.cells) h (by rw [hz1]; exact VRs.map_v z) h1 h2
 refine SOK.same hr (y := .agg xs') ?_ (by simp only [VR]; exact ⟨xs', rfl, h4⟩)
 rw [← hpl] at h3
 have hm := run_mapM_fields (P := P) (w := w) fs.toList hall
 simp only [Instr.build, Sem.run_bind, hz, Result.andThen_ok, run_underlying' hi, Array.mapM_eq_mapM_toList, Sem.run_map, hm]
 have e2 : (List.map (fun f : Field => (f.offset, ((ti P f.type).map (·.size)).getD 0)) fs.toList).toArray = fs.map fun f => (f.offset, ((ti P f.type).map (·.size)).getD 0) := by
  rw [← Array.toList_map]
 rw [e2, h3]
 rfl
theorem SOK.build_array (hr : HR I m H w) {t e : TypeId} {n sz bt : Nat} {z : List Value} (hi : ti P t = some ⟨.array n e, sz, bt, z⟩) {te : TI} (he : ti P e = some te) {ps : List (Nat × AV)} {qs : Array (Nat × Value)}
 {cs : List AV} (h : afill (fun i => some (i * te.size, te.size)) (z.map .v) ps = some cs) (h1 : ps.map (·.1) = qs.toList.map (·.1)) (h2 : VRs I m w (ps.map (·.2)) (qs.toList.map (·.2))) :
 SOK P I m H w (Instr.build t qs) (.ag cs) H := by
 obtain ⟨zv, hz, hz1, hz2⟩ := run_zeroValue' (w := w) hi
 obtain ⟨xs', h3, h4⟩ := fill_ok ps qs.toList (xs := zv.cells) h (by rw [hz1]; exact VRs.map_v z) h1 h2
 refine SOK.same hr (y := .agg xs') ?_ (by simp only [VR]; exact ⟨xs', rfl, h4⟩)
 simp only [Instr.build, Sem.run_bind, hz, Result.andThen_ok, run_underlying' hi, run_sizeOf' he, h3, Sem.run_pure]
theorem zeros_ok (z : Array Value) (hz : z.size ≠ 0) : ∀ n : Nat, ((Array.range (n * z.size)).map fun i => z[i % z.size]!).toList = (List.replicate n z.toList).flatten := by
 intro n
 induction n with
 | zero => simp
 | succ n ih =>
  rw [List.replicate_succ', List.flatten_append, ← ih]
  simp only [Array.toList_map, Array.toList_range, List.flatten_cons, List.flatten_nil, List.append_nil]
  rw [Nat.succ_mul, List.range_add, List.map_append, List.map_map]
  congr 1
  apply List.ext_getElem?
  intro k
  simp only [List.getElem?_map, List.getElem?_range, Function.comp]
  by_cases hk : k < z.size
  ·rw [List.getElem?_range hk]
   simp only [Option.map_some]
   show some (z[(n * z.size + k) % z.size]!) = _
   rw [Nat.mul_comm n z.size, Nat.mul_add_mod, Nat.mod_eq_of_lt hk]
   simp [hk]
  ·rw [List.getElem?_eq_none (by simp; omega)]
   simp
   omega
theorem VRs.flatten_v (n : Nat) (z : List Value) : VRs I m w ((List.replicate n (z.map AV.v)).flatten) ((List.replicate n z).flatten) := by
 induction n with
 | zero => simp [VRs]
 | succ n ih => simp only [List.replicate_succ, List.flatten_cons]; exact (VRs.map_v z).append ih
theorem SOK.buildSlice (hr : HR I m H w) {t e : TypeId} {d : TI} (hi : ti P t = some d) (hd : d.desc = .slice e) {te : TI} (he : ti P e = some te) {len : Nat} (hl : len * te.size ≤ 16777216) (hs : te.size ≠ 0) {ps : List (Nat × AV)} {qs : Array (Nat × Value)}
 {cs : List AV} (h : afill (fun i => some (i * te.size, te.size)) ((List.replicate len (te.zero.map AV.v)).flatten) ps = some cs) (h1 : ps.map (·.1) = qs.toList.map (·.1)) (h2 : VRs I m w (ps.map (·.2)) (qs.toList.map (·.2))) (hone : cs.all (·.one) = true) :
 SOK P I m H w (Instr.buildSlice t len qs) (.sl H.length 0 len) (H ++ [.cells te.size cs]) := by
 obtain ⟨zv, hz, hz1, hz2⟩ := run_zeroValue' (w := w) he
 have hnz : zv.cells.size ≠ 0 := by omega
 have hz' := zeros_ok zv.cells hnz len
 rw [hz2, hz1] at hz'
 by_cases h0 : len * te.size = 0
 ·have hlen : len = 0 := (Nat.mul_eq_zero.1 h0).resolve_right hs
  subst hlen
  obtain ⟨xs', h3, h4⟩ := fill_ok ps qs.toList (xs := #[]) h (by simp [VRs]) h1 h2
  obtain ⟨h5, h6⟩ := hr.newCells (w' := { w with heap := w.heap.push (.cells xs' e) }) te.size h4 hone (rest := []) (arr := xs') (by simp) (E := e) (fz := (0, 0)) (by intro j _ h; simp at h) rfl rfl rfl rfl
  have hxs : xs'.size = 0 := by
   have := (fill_size ps qs.toList h3)
   simpa using this
  refine ⟨.slice (some ⟨w.heap.size, 0, none⟩) 0 0, _, _, ?_, ?_, h5, h6⟩
  ·simp only [Instr.buildSlice, Sem.run_bind, run_underlying' hi, hd, Result.andThen_ok, run_sizeOf' he, Nat.zero_mul, Sem.run_ite]
   simp [newRow]
   rw [show Array.map (fun _ : Nat => (default : Value)) (Array.range 0) = #[] by simp [Array.range], h3]
   simp
  ·simp only [VR]
   exact ⟨_, _, 0, by rw [← hr.len]; exact last_lk _ hs, by simp [hxs], by omega, .inl rfl, rfl⟩
 ·obtain ⟨xs', h3, h4⟩ := fill_ok ps qs.toList (xs := (Array.range (len * te.size)).map fun i => zv.cells[i % zv.cells.size]!) h (by rw [hz2, hz']; exact VRs.flatten_v len te.zero) h1 h2
  obtain ⟨h5, h6⟩ := hr.newCells (w' := { w with heap := w.heap.push (.cells xs' e) }) te.size h4 hone (rest := []) (arr := xs') (by simp) (E := e) (fz := (0, 0)) (by intro j _ h; simp at h) rfl rfl rfl rfl
  have hxs : xs'.size = len * te.size := by
   have := (fill_size ps qs.toList h3)
   simpa using this
  refine ⟨.slice (some ⟨w.heap.size, 0, none⟩) len len, _, _, ?_, ?_, h5, h6⟩
  ·simp only [Instr.buildSlice, Sem.run_bind, run_underlying' hi, hd, Result.andThen_ok, run_sizeOf' he, Sem.run_ite]
   rw [if_neg (by omega), if_neg h0]
   simp [hz, h3, newRow]
  ·simp only [VR]
   exact ⟨_, _, len, by rw [← hr.len]; exact last_lk _ hs, by simp [hxs], by omega, .inr rfl, rfl⟩
where
 fill_size {place : Nat → Option (Nat × Nat)} : ∀ (ps : List (Nat × AV)) (qs : List (Nat × Value)) {xs xs' : Array Value}, Instr.fill place xs qs = some xs' → xs'.size = xs.size
 | ps, [], xs, xs', h => by simp only [Instr.fill] at h; injection h with h; rw [h]
 | ps, (i, v) :: qs, xs, xs', h => by
  simp only [Instr.fill] at h
  split at h
  ·cases h
  ·split at h
   ·cases h
   ·rw [fill_size ps qs h]
    have : ∀ (l : List (Value × Nat)) (f : Nat → Nat) (a : Array Value), (l.foldl (fun (cs : Array Value) (x : Value × Nat) => cs.setIfInBounds (f x.2) x.1) a).size = a.size := by
     intro l f
     induction l with
     | nil => intro a; rfl
     | cons x l ih => intro a; rw [List.foldl_cons, ih]; simp
    rw [← Array.foldl_toList]
    exact this _ _ _
end
end Go.Abs
