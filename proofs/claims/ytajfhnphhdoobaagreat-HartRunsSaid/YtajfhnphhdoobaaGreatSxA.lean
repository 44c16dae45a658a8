/- The core of a small verified symbolic executor: a heap-only contract of calls ('Fn'), an intermediate code ('SC') that Go code is compiled to by a checked function, its meaning ('iS') as a predicate transformer, and the proof that the meaning holds of the code. The evaluator of the operations that only read, and the proof that the model does as it says. What the evaluator says of an operation that only reads is what the model does. The same, of loads, addresses, slices, maps, conversions, aggregates. The same, of aggregates; then of every operation that only reads. -/
import Derived.Orders
import Derived.Scope
import Derived.KernelRfl
import Derived.Deep.LoopGhost
import Derived.WalkKit
import Derived.WideLaws
set_option linter.unusedVariables false
set_option linter.unusedSimpArgs false
namespace Go.SX
abbrev Heap := Array Obj
def Rest (w w' : World) : Prop := w'.os = w.os ∧ w'.tape = w.tape ∧ w'.output = w.output
theorem Rest.refl (w : World) : Rest w w := ⟨rfl, rfl, rfl⟩
theorem Rest.trans {a b c : World} (h : Rest a b) (k : Rest b c) : Rest a c := ⟨k.1.trans h.1, k.2.1.trans h.2.1, k.2.2.trans h.2.2⟩
def Upn (P : Program) (w : World) (R : Value → Heap → Prop) : Result Next → Prop
  | .ok (.value v) w' => R v w'.heap ∧ Rest w w'
  | .ok .skip w' => R undef w'.heap ∧ Rest w w'
  | .ok (.enter f args) w' => Rest w w' ∧ Calls P f args w' fun e w'' => ∃ v, e = .returned v ∧ R v w''.heap ∧ Rest w' w''
  | _ => False
theorem Upn.mono {P : Program} {w : World} {R R' : Value → Heap → Prop} {r : Result Next} (h : Upn P w R r) (hr : ∀ v h, R v h → R' v h) : Upn P w R' r := by
  unfold Upn at *
  split at h
  · exact ⟨hr _ _ h.1, h.2⟩
  · exact ⟨hr _ _ h.1, h.2⟩
  · exact ⟨h.1, h.2.mono fun e w' ⟨v, a, b, c⟩ => ⟨v, a, hr _ _ b, c⟩⟩
  · exact h.elim
/-- The contract of a call: from every world with this heap. -/
def Fn (P : Program) (f : FuncId) (args : List Value) (h : Heap) (R : Value → Heap → Prop) : Prop :=
  ∀ w, w.heap = h → Upn P w R ((callFunc f args.toArray).run P w)
theorem Fn.mono {P : Program} {f : FuncId} {args : List Value} {h : Heap} {R R' : Value → Heap → Prop} (k : Fn P f args h R) (hr : ∀ v h', R v h' → R' v h') : Fn P f args h R' :=
  fun w hw => (k w hw).mono hr
abbrev Fr := Nat → Option Value
def fr0 : Fr := fun _ => none
def Fr.up (fr : Fr) (i : Nat) (v : Value) : Fr := fun j => bif j == i then some v else fr j
def Fr.put (fr : Fr) (d : Option Tmp) (v : Value) : Fr := match d with | some d => fr.up d v | none => fr
def Fr.upo (fr : Fr) (i : Nat) (v : Option Value) : Fr := match v with | some v => fr.up i v | none => fr
def Fr.keep (fr : Fr) : List Nat → Fr
  | [] => fr0
  | i :: l => (fr.keep l).upo i (fr i)
def ev (fr : Fr) : Operand → Option Value
  | .tmp t => fr t
  | .const v => some v
  | .global g => some (.pointer (some ⟨g, 0, none⟩))
  | .func f => some (.func (.func f) #[] #[])
/-- The frame 'fr' tells the truth of the slots of 'a'. -/
def Agree (n : Nat) (fr : Fr) (a : Act) : Prop := a.tmps.size = n ∧ a.defers = [] ∧ ∀ i v, fr i = some v → a.tmps.getD i undef = v
def Fr.le (fr fr' : Fr) : Prop := ∀ i v, fr i = some v → fr' i = some v
theorem Agree.le {n : Nat} {fr fr' : Fr} {a : Act} (h : Agree n fr' a) (k : fr.le fr') : Agree n fr a := ⟨h.1, h.2.1, fun i v e => h.2.2 i v (k i v e)⟩
theorem Fr.keep_le (fr : Fr) : ∀ l : List Nat, (fr.keep l).le fr
  | [], i, v, e => by simp [Fr.keep, fr0] at e
  | j :: l, i, v, e => by
    simp only [Fr.keep] at e
    cases hu : fr j with
    | none => rw [hu] at e; exact Fr.keep_le fr l i v e
    | some u =>
      rw [hu] at e
      simp only [Fr.upo, Fr.up] at e
      cases hb : (i == j) with
      | true => rw [hb] at e; have := eq_of_beq hb; subst this; simp at e; rw [hu, e]
      | false => rw [hb] at e; exact Fr.keep_le fr l i v (by simpa using e)
theorem Agree.ev {n : Nat} {fr : Fr} {a : Act} (h : Agree n fr a) {x : Operand} {v : Value} (e : ev fr x = some v) : a.eval x = v := by
  cases x with
  | tmp t => exact h.2.2 t v e
  | const c => simp only [SX.ev, Option.some.injEq] at e; exact e
  | global g => simp only [SX.ev, Option.some.injEq] at e; exact e
  | func f => simp only [SX.ev, Option.some.injEq] at e; exact e
theorem Agree.up {n : Nat} {fr : Fr} {a : Act} (h : Agree n fr a) {d : Nat} (hd : d < n) (v : Value) : Agree n (fr.up d v) (a.put (some d) v) := by
  obtain ⟨h1, h2, h3⟩ := h
  refine ⟨by simp [Act.put, h1], by simp [Act.put, h2], fun i u e => ?_⟩
  unfold Fr.up at e
  cases hb : (i == d) with
  | true =>
    rw [hb] at e
    have := eq_of_beq hb
    subst this
    simp at e
    subst e
    simp [Act.put, Array.getD_eq_getD_getElem?, h1, hd]
  | false =>
    rw [hb] at e
    have hne : d ≠ i := fun e' => by subst e'; simp at hb
    have := h3 i u (by simpa using e)
    simpa [Act.put, Array.getD_eq_getD_getElem?, Array.getElem?_setIfInBounds, hne] using this
theorem Agree.put {n : Nat} {fr : Fr} {a : Act} (h : Agree n fr a) {d : Option Tmp} (hd : ∀ i, d = some i → i < n) (v : Value) : Agree n (fr.put d v) (a.put d v) := by
  cases d with
  | none => exact h
  | some d => exact h.up (hd d rfl) v
def cell? (h : Heap) (b o : Nat) : Option Value := match h[b]? with | some (.cells c _ _) => c[o]? | _ => none
def cells? (h : Heap) (b o n : Nat) : Option (List Value) :=
  match h[b]? with | some (.cells c _ _) => if o + n ≤ c.size then some ((c.toList.drop o).take n) else none | _ => none
/-- 'vs' written from 'o' on. -/
def setL : List Value → Nat → List Value → List Value
  | [], _, _ => []
  | c :: cs, 0, v :: vs => v :: setL cs 0 vs
  | c :: cs, 0, [] => c :: cs
  | c :: cs, o + 1, vs => c :: setL cs o vs
def one : Value → Bool
  | .agg _ => false
  | .tuple _ => false
  | _ => true
def wr (h : Heap) (b o : Nat) (vs : List Value) : Option Heap :=
  match h[b]? with
  | some (.cells c e (lo, hi)) => if o + vs.length ≤ c.size ∧ (hi ≤ lo ∨ hi ≤ o ∨ o + vs.length ≤ lo) ∧ vs.all one = true then some (h.setIfInBounds b (.cells (setL c.toList o vs).toArray e (lo, hi))) else none
  | _ => none
end Go.SX
namespace Go.SX
abbrev ptr (b o : Nat) : Value := .pointer (some ⟨b, o, none⟩)
def obind {α : Type} (o : Option α) (K : α → Prop) : Prop := match o with | some a => K a | none => False
theorem obind_elim {α : Type} {o : Option α} {K : α → Prop} (h : obind o K) : ∃ a, o = some a ∧ K a := by
  cases o with
  | none => exact h.elim
  | some a => exact ⟨a, rfl, h⟩
def szP (P : Program) (t : TypeId) : Option Nat := (P.info? t).map (·.size)
def zeroP (P : Program) (t : TypeId) : Option Value := (P.info? t).bind (·.zero)
def byP (P : Program) (t : TypeId) : Option Nat := (P.info? t).map (·.bytes)
/-- 0: one cell; else: how many cells are read as one aggregate. -/
inductive Sh | one | agg (n : Nat)
def shP (P : Program) (t : TypeId) : Option Sh :=
  match P.underlying t with
  | some (.struct _) | some (.array _ _) => (szP P t).map .agg
  | some _ => some .one
  | none => none
/-- where a field lies. -/
def foff (P : Program) (s : TypeId) (i : Nat) : Option Nat :=
  match P.underlying s with
  | some (.struct fs) => match fs[i]? with
    | some f => match szP P f.type with
      | some 0 => none
      | some _ => some f.offset
      | none => none
    | none => none
  | _ => none
/-- a slice type's elements: type and cells. -/
def slE (P : Program) (t : TypeId) : Option (TypeId × Nat) :=
  match P.underlying t with
  | some (.slice e) => (szP P e).map fun n => (e, n)
  | _ => none
def arE (P : Program) (t : TypeId) : Option (Nat × TypeId × Nat) :=
  match P.underlying t with
  | some (.array n e) => (szP P e).map fun k => (n, e, k)
  | _ => none
def bitI (op : BinOp) (k : IntKind) (a b : Int) : Int :=
  let x := BitVec.ofInt k.bits a
  let y := BitVec.ofInt k.bits b
  match op with
  | .and => k.wrap (x &&& y).toNat
  | .or => k.wrap (x ||| y).toNat
  | .xor => k.wrap (x ^^^ y).toNat
  | _ => k.wrap (x &&& ~~~y).toNat
def shlI (k : IntKind) (a b : Int) : Int := k.wrap (a * 2 ^ (min b.toNat k.bits))
def shrI (k : IntKind) (a b : Int) : Int := a.fdiv (2 ^ (min b.toNat k.bits))
def intV (op : BinOp) (k : IntKind) (a : Int) (k' : IntKind) (b : Int) : Option Value :=
  match op with
  | .shl => if b < 0 then none else some (.int k (shlI k a b))
  | .shr => if b < 0 then none else some (.int k (shrI k a b))
  | .add => if k = k' then some (.int k (k.wrap (a + b))) else none
  | .sub => if k = k' then some (.int k (k.wrap (a - b))) else none
  | .mul => if k = k' then some (.int k (k.wrap (a * b))) else none
  | .quo => if k = k' then if b = 0 then none else some (.int k (k.wrap (a.tdiv b))) else none
  | .rem => if k = k' then if b = 0 then none else some (.int k (a.tmod b)) else none
  | .and => if k = k' then some (.int k (bitI .and k a b)) else none
  | .or => if k = k' then some (.int k (bitI .or k a b)) else none
  | .xor => if k = k' then some (.int k (bitI .xor k a b)) else none
  | .andNot => if k = k' then some (.int k (bitI .andNot k a b)) else none
  | .eql => if k = k' then some (.bool (decide (a = b))) else none
  | .neq => if k = k' then some (.bool (!decide (a = b))) else none
  | .lss => if k = k' then some (.bool (decide (a < b))) else none
  | .leq => if k = k' then some (.bool (decide (a ≤ b))) else none
  | .gtr => if k = k' then some (.bool (decide (b < a))) else none
  | .geq => if k = k' then some (.bool (decide (b ≤ a))) else none
def strV (op : BinOp) (x y : ByteArray) : Option Value :=
  match op with
  | .add => if x.size + y.size ≤ 9223372036854775807 then some (.string (x ++ y)) else none
  | .eql => some (.bool (x == y))
  | .neq => some (.bool (!(x == y)))
  | .lss => some (.bool (Op.bytesLess x.toList y.toList))
  | _ => none
def partV (P : Program) (t : TypeId) (cs : Array Value) (off : Nat) : Option Value :=
  match shP P t with
  | some .one => cs[off]?
  | some (.agg n) => some (.agg (cs.extract off (off + n)))
  | none => none
def eqFs (P : Program) (E : TypeId → Value → Value → Option Bool) (xs ys : Array Value) : List Field → Option Bool
  | [] => some true
  | f :: fs => if f.name = "_" then none else (partV P f.type xs f.offset).bind fun a => (partV P f.type ys f.offset).bind fun b => (E f.type a b).bind fun r => (eqFs P E xs ys fs).bind fun s => some (r && s)
def eqEl (P : Program) (E : Value → Value → Option Bool) (e : TypeId) (n : Nat) (xs ys : Array Value) : Nat → Nat → Option Bool
  | 0, _ => some true
  | k + 1, i => (partV P e xs (i * n)).bind fun a => (partV P e ys (i * n)).bind fun b => (E a b).bind fun r => (eqEl P E e n xs ys k (i + 1)).bind fun s => some (r && s)
def eqIn (P : Program) : Nat → TypeId → Value → Value → Option Bool
  | 0, _, _, _ => none
  | d + 1, t, x, y =>
    match P.underlying t, x, y with
    | some (.int _), .int k a, .int k' b => if k = k' then some (decide (a = b)) else none
    | some .bool, .bool a, .bool b => some (a == b)
    | some .string, .string a, .string b => some (a == b)
    | some (.struct fs), .agg xs, .agg ys => if P.stoodInHeld t then none else eqFs P (eqIn P d) xs ys fs.toList
    | some (.array len e), .agg xs, .agg ys => (szP P e).bind fun n => eqEl P (eqIn P d e) e n xs ys len 0
    | some (.pointer _), .pointer none, .pointer b => some b.isNone
    | some (.pointer _), .pointer (some _), .pointer none => some false
    | some (.slice _), .slice none _ _, .slice b _ _ => some b.isNone
    | some (.slice _), .slice (some _) _ _, .slice none _ _ => some false
    | some (.map _ _), .map none, .map b => some b.isNone
    | some (.map _ _), .map (some _), .map none => some false
    | some (.func ..), .nilFunc, .nilFunc => some true
    | some (.func ..), .func .., .nilFunc => some false
    | some (.func ..), .nilFunc, .func .. => some false
    | some (.interface _), .nilIface, .nilIface => some true
    | some (.interface _), .nilIface, .iface _ _ => some false
    | some (.interface _), .iface _ _, .nilIface => some false
    | _, _, _ => none
/-- is the guard of '==' silent? -/
def quietEq (P : Program) (t : TypeId) (x y : Operand) : Value → Value → Bool
  | .nilIface, .nilIface => (match x with | .const _ => true | _ => false) || (match y with | .const _ => true | _ => false)
  | .agg _, .agg _ => !P.eqGuardType P.depth t
  | _, _ => true
def binV (P : Program) (op : BinOp) (t : TypeId) (x y : Operand) (a b : Value) : Option Value :=
  match a, b with
  | .int k a, .int k' b => intV op k a k' b
  | .string a, .string b => strV op a b
  | a, b => if quietEq P t x y a b then
      match op with
      | .eql => (eqIn P 8 t a b).map .bool
      | .neq => (eqIn P 8 t a b).map fun r => .bool (!r)
      | _ => none
    else none
/-- cells that no string shares. -/
def plainO : Option Obj → Bool
  | some (.cells _ _ (0, 0)) => true
  | _ => false
/-- are two pointers, both to something, alike? -/
def ptrE (P : Program) (h : Heap) (t : TypeId) : Value → Value → Option Bool
  | .pointer (some ⟨r, i, none⟩), .pointer (some ⟨s, j, none⟩) =>
    match P.underlying t with
    | some (.pointer e) => (szP P e).bind fun n => if n = 0 then none else if r = s then some (decide (i = j)) else if plainO h[r]? && plainO h[s]? then some false else none
    | _ => none
  | _, _ => none
def ptrC (P : Program) (h : Heap) (op : BinOp) (t : TypeId) (a b : Value) : Option Value :=
  match op with
  | .eql => (ptrE P h t a b).map .bool
  | .neq => (ptrE P h t a b).map fun r => .bool (!r)
  | _ => none
def orE (a b : Option Value) : Option Value := match a with | some v => some v | none => b
def unV (op : UnOp) : Value → Option Value
  | .int k n => match op with | .neg => some (.int k (k.wrap (0 - n))) | .xor => some (.int k (bitI .xor k (if k.signed then -1 else k.max) n)) | _ => none
  | .bool b => match op with | .not => some (.bool !b) | _ => none
  | _ => none
def loadV (P : Program) (h : Heap) (t : TypeId) : Value → Option Value
  | .pointer (some ⟨b, o, none⟩) => match shP P t with
    | some .one => cell? h b o
    | some (.agg n) => (cells? h b o n).map fun l => .agg l.toArray
    | none => none
  | _ => none
def nilV : Value → Option Value
  | .pointer (some a) => some (.pointer (some a))
  | .func (.func f) a b => some (.func (.func f) a b)
  | _ => none
def fieldAV (P : Program) (s i : Nat) : Value → Option Value
  | .pointer (some ⟨b, o, none⟩) => (foff P s i).map fun n => ptr b (o + n)
  | _ => none
def fieldV (P : Program) (t i : Nat) : Value → Option Value
  | .agg cs => match P.underlying t with
    | some (.struct fs) => match fs[i]? with
      | some f => partV P f.type cs f.offset
      | none => none
    | _ => none
  | _ => none
def idxAV (P : Program) (t : TypeId) (x : Value) : Value → Option Value
  | .int _ i => match x with
    | .slice (some ⟨b, o, none⟩) len _ => (slE P t).bind fun (_, n) => if 0 ≤ i ∧ i < (len : Int) then some (ptr b (o + i.toNat * n)) else none
    | .pointer (some ⟨b, o, none⟩) => (arE P t).bind fun (len, _, n) => if 0 ≤ i ∧ i < (len : Int) then some (ptr b (o + i.toNat * n)) else none
    | _ => none
  | _ => none
def idxV (P : Program) (t : TypeId) (x : Value) : Value → Option Value
  | .int _ i => match x with
    | .string s => match P.underlying t with
      | some .string => if 0 ≤ i then (s.data.toList[i.toNat]?).map fun b => .int .u8 b.toNat else none
      | _ => none
    | .agg cs => (arE P t).bind fun (len, e, n) => if 0 ≤ i ∧ i < (len : Int) then partV P e cs (i.toNat * n) else none
    | _ => none
  | _ => none
def bnd (v : Option Value) (d : Nat) (top : Nat) : Option Nat :=
  match v with
  | none => some d
  | some (.int _ i) => if 0 ≤ i ∧ i ≤ (top : Int) then some i.toNat else none
  | some _ => none
/-- the three bounds: low, high, max. -/
def bnds (len cap : Nat) (lo hi mx : Option Value) : Option (Nat × Nat × Nat) :=
  (bnd mx cap cap).bind fun m => (match hi, mx with | none, some _ => none | _, _ => bnd hi len m).bind fun h => (bnd lo 0 h).bind fun l => some (l, h, m)
def addA (a : Addr) (n : Nat) : Addr := a.add n
def sliceV (P : Program) (t : TypeId) (x : Value) (lo hi mx : Option Value) : Option Value :=
  match x with
  | .slice a len cap => (slE P t).bind fun (_, n) => (bnds len cap lo hi mx).bind fun (l, h, m) => some (.slice (if m = l then a else a.map fun a => addA a (l * n)) (h - l) (m - l))
  | .pointer (some a) => (arE P t).bind fun (len, _, n) => (bnds len len lo hi mx).bind fun (l, h, m) => some (.slice (some (if m = l then a else addA a (l * n))) (h - l) (m - l))
  | .string s => match P.underlying t, mx with
    | some .string, none => (bnds s.size s.size lo hi none).bind fun (l, h, _) => some (.string (s.extract l h))
    | _, _ => none
  | _ => none
/-- is this a key that is looked for at once? -/
def plainKey : TypeDesc → Value → Bool
  | .int _, .int _ _ => true
  | .string, .string _ => true
  | .bool, .bool _ => true
  | _, _ => false
def mapEs (h : Heap) : Value → Option (List MapEntry)
  | .map none => some []
  | .map (some r) => match h[r]? with | some (.map es _) => some es.toList | _ => none
  | _ => none
def lookFin (P : Program) (e : TypeId) (ok : Bool) : Option (Nat × Value) → Option Value
  | some (_, v) => some (if ok then .tuple #[v, .bool true] else v)
  | none => (zeroP P e).map fun z => if ok then .tuple #[z, .bool false] else z
def lookV (P : Program) (h : Heap) (t : TypeId) (m key : Value) (ok : Bool) : Option Value :=
  match P.underlying t with
  | some (.map k e) => (mapEs h m).bind fun es => (P.underlying k).bind fun d => if plainKey d key then (Instr.findNow d key es 0).bind (lookFin P e ok) else none
  | _ => none
/-- the entry of the last step. -/
def entV (h : Heap) : Value → Option Value
  | .pointer (some ⟨r, 0, _⟩) => match h[r]? with
    | some (.mapIter (some m) _ seen stepped) => (seen.back?).bind fun stamp => match h[m]? with
      | some (.map es clock) => if clock = stepped then (es.find? (·.born == stamp)).map fun e => .tuple #[e.key, e.val] else none
      | _ => none
    | _ => none
  | _ => none
def extV (i : Nat) : Value → Option Value
  | .tuple vs => vs[i]?
  | _ => none
def convV (P : Program) (s d : TypeId) : Value → Option Value
  | .int _ n => match P.underlying s, P.underlying d with
    | some _, some (.int k) => some (.int k (k.wrap n))
    | _, _ => none
  | .string x => match P.underlying s, P.underlying d with
    | some _, some .string => some (.string x)
    | _, _ => none
  | _ => none
def lenV (P : Program) (h : Heap) (t : TypeId) : Value → Option Value
  | .slice _ n _ => match P.underlying t with | some (.slice _) => some (goInt n) | _ => none
  | .string s => match P.underlying t with | some .string => some (goInt s.size) | _ => none
  | .map none => match P.underlying t with | some (.map _ _) => some (goInt 0) | _ => none
  | .map (some r) => match P.underlying t, h[r]? with | some (.map _ _), some (.map es _) => some (goInt es.size) | _, _ => none
  | .agg _ => match P.underlying t with | some (.array n _) => some (goInt n) | _ => none
  | _ => none
def capV (P : Program) (t : TypeId) : Value → Option Value
  | .slice _ _ n => match P.underlying t with | some (.slice _) => some (goInt n) | _ => none
  | _ => none
def minV : Value → Value → Option Value
  | .int k x, .int _ y => some (.int k (if y < x then y else x))
  | _, _ => none
def maxV : Value → Value → Option Value
  | .int k x, .int _ y => some (.int k (if x < y then y else x))
  | _, _ => none
def fillL (cells : List Value) : List (Nat × Nat × Value) → Option (List Value)
  | [] => some cells
  | (off, n, v) :: rest => if v.cells.size = n ∧ off + n ≤ cells.length then fillL (setL cells off v.cells.toList) rest else none
def evL (fr : Fr) : List Operand → Option (List Value)
  | [] => some []
  | x :: xs => (ev fr x).bind fun v => (evL fr xs).bind fun vs => some (v :: vs)
def evP (fr : Fr) : List (Nat × Operand) → Option (List (Nat × Value))
  | [] => some []
  | (i, x) :: xs => (ev fr x).bind fun v => (evP fr xs).bind fun vs => some ((i, v) :: vs)
def evO (fr : Fr) : Option Operand → Option (Option Value)
  | none => some none
  | some x => (ev fr x).map some
def zc (P : Program) (t : TypeId) : Option (List Value) := (zeroP P t).map fun z => z.cells.toList
/-- where part i of a value of type t lies, and its size. -/
def place (P : Program) (t : TypeId) (i : Nat) : Option (Nat × Nat) :=
  match P.underlying t with
  | some (.struct fs) => match fs[i]? with
    | some f => (szP P f.type).map fun n => (f.offset, n)
    | none => none
  | some (.array _ e) => (szP P e).map fun n => (i * n, n)
  | _ => none
def places (P : Program) (t : TypeId) : List (Nat × Value) → Option (List (Nat × Nat × Value))
  | [] => some []
  | (i, v) :: r => (place P t i).bind fun (o, n) => (places P t r).bind fun l => some ((o, n, v) :: l)
/-- all fields' sizes are known. -/
def sized (P : Program) (t : TypeId) : Bool :=
  match P.underlying t with
  | some (.struct fs) => fs.toList.all fun f => (szP P f.type).isSome
  | some (.array _ e) => (szP P e).isSome
  | _ => false
def buildV (P : Program) (t : TypeId) (parts : List (Nat × Value)) : Option Value :=
  (zc P t).bind fun z => if sized P t then (places P t parts).bind fun l => (fillL z l).map fun cs => .agg cs.toArray else none
def rop (P : Program) (fr : Fr) (h : Heap) : Op → Option Value
  | .move x | .assign x => ev fr x
  | .pick c a b => (ev fr c).bind fun | .bool t => if t then ev fr a else ev fr b | _ => none
  | .load t a => (ev fr a).bind (loadV P h t)
  | .nilCheck x => (ev fr x).bind nilV
  | .binOp op t x y _ => (ev fr x).bind fun a => (ev fr y).bind fun b => orE (binV P op t x y a b) (ptrC P h op t a b)
  | .unOp op _ x => (ev fr x).bind (unV op)
  | .convert s d x => (ev fr x).bind (convV P s d)
  | .makeInterface t x => if P.concrete t then (ev fr x).map (.iface t) else none
  | .makeFunc f a b => (evL fr a.toList).bind fun a => (evL fr b.toList).map fun b => .func f a.toArray b.toArray
  | .slice t x lo hi mx => (ev fr x).bind fun x => (evO fr lo).bind fun lo => (evO fr hi).bind fun hi => (evO fr mx).bind fun mx => sliceV P t x lo hi mx
  | .fieldAddr s x i => (ev fr x).bind (fieldAV P s i)
  | .field t x i => (ev fr x).bind (fieldV P t i)
  | .indexAddr t x i => (ev fr x).bind fun x => (ev fr i).bind (idxAV P t x)
  | .index t x i => (ev fr x).bind fun x => (ev fr i).bind (idxV P t x)
  | .lookup t m k ok => (ev fr m).bind fun m => (ev fr k).bind fun k => lookV P h t m k ok
  | .extract x i => (ev fr x).bind (extV i)
  | .entry x => (ev fr x).bind (entV h)
  | .build t ps => (evP fr ps.toList).bind (buildV P t)
  | .call c => match c.callee with
    | .builtin .len => match c.args.toList, c.argTypes.toList with | [x], t :: _ => (ev fr x).bind (lenV P h t) | _, _ => none
    | .builtin .cap => match c.args.toList, c.argTypes.toList with | [x], t :: _ => (ev fr x).bind (capV P t) | _, _ => none
    | .builtin .min => match c.args.toList with | [x, y] => (ev fr x).bind fun a => (ev fr y).bind (minV a) | _ => none
    | .builtin .max => match c.args.toList with | [x, y] => (ev fr x).bind fun a => (ev fr y).bind (maxV a) | _ => none
    | _ => none
  | _ => none
end Go.SX
namespace Go.SX
open Go.RowKit
variable {P : Program} {w : World}
theorem cell?_world (w : World) (b o : Nat) : w.cell? ⟨b, o, none⟩ = cell? w.heap b o := by
  unfold World.cell? cell?
  cases w.heap[b]? with
  | none => rfl
  | some x => cases x <;> rfl
theorem run_intV {op : BinOp} {k k' : IntKind} {a b : Int} {v : Value} (t : TypeId) (h : intV op k a k' b = some v) : (binOp op t (.int k a) (.int k' b)).run P w = .ok v w := by
  cases op <;> simp only [intV] at h
  case shl => split at h <;> simp_all [binOp, Op.shift, shlI]; omega
  case shr => split at h <;> simp_all [binOp, Op.shift, shrI]; omega
  case quo => split at h; split at h <;> simp_all [binOp, Op.intDiv]; simp at h
  case rem => split at h; split at h <;> simp_all [binOp, Op.intDiv]; simp at h
  case eql => split at h <;> simp at h; subst h; simp_all [binOp, Op.intCmp]; rfl
  case neq => split at h <;> simp at h; subst h; simp_all [binOp, Op.intCmp]; rfl
  all_goals (split at h <;> simp at h; subst h; simp_all [binOp, Op.intArith, Op.intBits, Op.intCmp, bitI])
theorem run_strV {op : BinOp} {a b : ByteArray} {v : Value} (t : TypeId) (h : strV op a b = some v) : (binOp op t (.string a) (.string b)).run P w = .ok v w := by
  cases op <;> simp only [strV] at h <;> try (cases h; done)
  case add =>
    split at h
    · cases h
      have hm : IntKind.i64.max = 9223372036854775807 := by decide
      simp [binOp, Op.stringOp, hm]; omega
    · cases h
  case eql => cases h; simp [binOp, Op.stringOp, beq_toListBytes]
  case neq => cases h; simp [binOp, Op.stringOp, beq_toListBytes]
  case lss => cases h; simp [binOp, Op.stringOp]
theorem run_shP_one {t : TypeId} (h : shP P t = some .one) : (isAgg t).run P w = .ok false w := by
  unfold shP at h
  unfold isAgg
  cases hu : P.underlying t with
  | none => simp [hu] at h
  | some d => rw [hu] at h; cases d <;> simp [run_underlying hu] at h ⊢ <;> (cases hs : szP P t <;> simp [hs] at h)
theorem szP_run {t : TypeId} {n : Nat} (h : szP P t = some n) : (sizeOf t).run P w = .ok n w := by
  unfold szP at h
  cases hi : P.info? t with
  | none => simp [hi] at h
  | some i => simp [hi] at h; simp [sizeOf, typeInfo, hi, h]
theorem run_shP_agg {t : TypeId} {n : Nat} (h : shP P t = some (.agg n)) : (isAgg t).run P w = .ok true w ∧ (sizeOf t).run P w = .ok n w := by
  unfold shP at h
  unfold isAgg
  cases hu : P.underlying t with
  | none => simp [hu] at h
  | some d =>
    rw [hu] at h
    cases d <;> simp [run_underlying hu] at h ⊢ <;> exact szP_run h
theorem run_partV {t : TypeId} {cs : Array Value} {off : Nat} {v : Value} (h : partV P t cs off = some v) : (part t cs off).run P w = .ok v w := by
  unfold partV at h
  unfold part
  split at h
  · rename_i hs; simp [run_shP_one hs, h]
  · rename_i n hs
    cases h
    obtain ⟨h1, h2⟩ := run_shP_agg (w := w) hs
    simp [h1, h2]
  · cases h
theorem run_eqIn : ∀ (d e : Nat) (t : TypeId) (x y : Value) (r : Bool), eqIn P d t x y = some r → (Op.equalIn (d + e) t x y).run P w = .ok r w := by
  intro d
  induction d with
  | zero => intro e t x y r h; cases h
  | succ d ih =>
    intro e t x y r h
    have hde : d + 1 + e = (d + e) + 1 := by omega
    rw [hde]
    unfold eqIn at h
    split at h
    case h_1 k' k a k'' b hu => split at h <;> cases h; subst_vars; simp [Op.equalIn, run_underlying hu]; rfl
    case h_2 a b hu => cases h; simp [Op.equalIn, run_underlying hu]
    case h_3 a b hu => cases h; simp [Op.equalIn, run_underlying hu]
    case h_4 fs xs ys hu =>
      split at h
      · cases h
      · rename_i hst
        have hf : P.underlying t = some (.struct (P.fieldsOf t)) := by simp [Program.fieldsOf, hu]
        have hfs : P.fieldsOf t = fs := by simp [Program.fieldsOf, hu]
        rw [run_equalIn_struct w (d + e) t xs ys hf (by simpa using hst), hfs]
        generalize fs.toList = l at h
        clear hf hfs hu
        induction l generalizing r with
        | nil => cases h; simp [Op.eqFields]
        | cons f l ihl =>
          simp only [eqFs] at h
          split at h
          · cases h
          · rename_i hn
            cases ha : partV P f.type xs f.offset with
            | none => simp [ha] at h
            | some a =>
              cases hb : partV P f.type ys f.offset with
              | none => simp [ha, hb] at h
              | some b =>
                cases hE : eqIn P d f.type a b with
                | none => simp [ha, hb, hE] at h
                | some r1 =>
                  cases hR : eqFs P (eqIn P d) xs ys l with
                  | none => simp [ha, hb, hE, hR] at h
                  | some r2 =>
                    simp [ha, hb, hE, hR] at h
                    subst h
                    simp only [Op.eqFields, hn, ne_eq, not_false_eq_true, if_true, Sem.run_bind, run_partV ha, run_partV hb, Result.andThen_ok, ih e f.type a b r1 hE, Sem.run_ite]
                    cases r1
                    · simp
                    · simp [ihl r2 hR]
    case h_5 len el xs ys hu =>
      cases hs : szP P el with
      | none => simp [hs] at h
      | some n =>
        simp only [hs, Option.bind_some] at h
        have key : ∀ (k i : Nat) (r : Bool), eqEl P (eqIn P d el) el n xs ys k i = some r →
            (forIn (m := Sem) (List.range' i k) ((none, ()) : Option Bool × Unit) fun i _ => do
              if !(← Op.equalIn (d + e) el (← part el xs (i * n)) (← part el ys (i * n))) then pure (.done (some false, ())) else pure (.yield (none, ()))).run P w = .ok (if r then none else some false, ()) w := by
          intro k
          induction k with
          | zero => intro i r h; cases h; rfl
          | succ k ihk =>
            intro i r h
            simp only [eqEl] at h
            cases ha : partV P el xs (i * n) with
            | none => simp [ha] at h
            | some a =>
              cases hb : partV P el ys (i * n) with
              | none => simp [ha, hb] at h
              | some b =>
                cases hE : eqIn P d el a b with
                | none => simp [ha, hb, hE] at h
                | some r1 =>
                  cases hR : eqEl P (eqIn P d el) el n xs ys k (i + 1) with
                  | none => simp [ha, hb, hE, hR] at h
                  | some r2 =>
                    simp [ha, hb, hE, hR] at h
                    subst h
                    simp only [List.range'_succ, List.forIn_cons, Sem.run_bind, run_partV ha, run_partV hb, Result.andThen_ok, ih e el a b r1 hE, Sem.run_ite]
                    cases r1
                    · simp
                    · have h9 := ihk (i + 1) r2 hR
                      simpa using h9
        have hk := key len 0 r h
        simp only [Op.equalIn, Sem.run_bind, run_underlying hu, Result.andThen_ok, szP_run hs]
        have e0 : (forIn (m := Sem) [:len] ((none, ()) : Option Bool × Unit) fun i _ => do
              if !(← Op.equalIn (d + e) el (← part el xs (i * n)) (← part el ys (i * n))) then pure (.done (some false, ())) else pure (.yield (none, ()))) = (forIn (m := Sem) (List.range' 0 len) ((none, ()) : Option Bool × Unit) fun i _ => do
              if !(← Op.equalIn (d + e) el (← part el xs (i * n)) (← part el ys (i * n))) then pure (.done (some false, ())) else pure (.yield (none, ()))) := by
          simp
        rw [e0, hk]
        cases r <;> rfl
    all_goals first
      | cases h; done
      | (rename_i hu; cases h; simp [Op.equalIn, run_underlying hu])
      | (rename_i hu _; cases h; simp [Op.equalIn, run_underlying hu])
theorem run_quietEq {op : BinOp} {t : TypeId} {x y : Operand} {a b : Value} (h : quietEq P t x y a b = true) : (eqGuard op t x y a b).run P w = .ok () w := by
  unfold eqGuard
  cases op <;> simp
  all_goals
    unfold quietEq at h
    split at h
    · cases x <;> cases y <;> simp at h ⊢
    · simp at h; simp [h]
    · split <;> simp_all
theorem run_eqGuard_int {op : BinOp} {t : TypeId} {x y : Operand} {k k' : IntKind} {a b : Int} : (eqGuard op t x y (.int k a) (.int k' b)).run P w = .ok () w := by
  unfold eqGuard; cases op <;> simp
theorem run_eqGuard_str {op : BinOp} {t : TypeId} {x y : Operand} {a b : ByteArray} : (eqGuard op t x y (.string a) (.string b)).run P w = .ok () w := by
  unfold eqGuard; cases op <;> simp
theorem eqIn_noFloat {d : Nat} {t : TypeId} {k k' : FloatKind} {x y : Nat} {r : Bool} : eqIn P d t (.float k x) (.float k' y) ≠ some r := by
  cases d <;> simp only [eqIn, ne_eq]
  · simp
  · intro h; split at h <;> simp_all
theorem eqIn_noComplex {d : Nat} {t : TypeId} {k k' : FloatKind} {x y x' y' : Nat} {r : Bool} : eqIn P d t (.complex k x x') (.complex k' y y') ≠ some r := by
  cases d <;> simp only [eqIn, ne_eq]
  · simp
  · intro h; split at h <;> simp_all
theorem run_eqlV {t : TypeId} {a b : Value} {r : Bool} (he : eqIn P 8 t a b = some r) (h1 : ∀ k x k' y, ¬ (a = .int k x ∧ b = .int k' y)) (h2 : ∀ x y, ¬ (a = .string x ∧ b = .string y)) :
    (binOp .eql t a b).run P w = .ok (.bool r) w ∧ (binOp .neq t a b).run P w = .ok (.bool (!r)) w := by
  have h3 : ∀ k x k' y, ¬ (a = .float k x ∧ b = .float k' y) := fun k x k' y ⟨e1, e2⟩ => by subst e1; subst e2; exact eqIn_noFloat he
  have h4 : ∀ k x x' k' y y', ¬ (a = .complex k x x' ∧ b = .complex k' y y') := fun k x x' k' y y' ⟨e1, e2⟩ => by subst e1; subst e2; exact eqIn_noComplex he
  have hr : (Op.equal t a b).run P w = .ok r w := run_eqIn (w := w) 8 9992 t a b r he
  constructor
  · have : binOp .eql t a b = (do pure (.bool (← Op.equal t a b))) := by
      unfold binOp
      split <;> first | rfl | exact absurd ⟨rfl, rfl⟩ (h1 _ _ _ _) | exact absurd ⟨rfl, rfl⟩ (h2 _ _) | exact absurd ⟨rfl, rfl⟩ (h3 _ _ _ _) | exact absurd ⟨rfl, rfl⟩ (h4 _ _ _ _ _ _) | simp_all
    rw [this]; simp [hr]
  · have : binOp .neq t a b = (do pure (.bool (!(← Op.equal t a b)))) := by
      unfold binOp
      split <;> first | rfl | exact absurd ⟨rfl, rfl⟩ (h1 _ _ _ _) | exact absurd ⟨rfl, rfl⟩ (h2 _ _) | exact absurd ⟨rfl, rfl⟩ (h3 _ _ _ _) | exact absurd ⟨rfl, rfl⟩ (h4 _ _ _ _ _ _) | simp_all
    rw [this]; simp [hr]
theorem run_binV {op : BinOp} {t : TypeId} {x y : Operand} {a b : Value} {v : Value} (h : binV P op t x y a b = some v) :
    (eqGuard op t x y a b).run P w = .ok () w ∧ (binOp op t a b).run P w = .ok v w := by
  unfold binV at h
  split at h
  · exact ⟨run_eqGuard_int, run_intV t h⟩
  · exact ⟨run_eqGuard_str, run_strV t h⟩
  · rename_i h1 h2
    split at h
    · rename_i hq
      refine ⟨run_quietEq hq, ?_⟩
      have h1' : ∀ k x k' y, ¬ (a = .int k x ∧ b = .int k' y) := fun k x k' y ⟨e1, e2⟩ => h1 k x k' y e1 e2
      have h2' : ∀ x y, ¬ (a = .string x ∧ b = .string y) := fun x y ⟨e1, e2⟩ => h2 x y e1 e2
      split at h
      · cases he : eqIn P 8 t a b with
        | none => simp [he] at h
        | some r => simp [he] at h; subst h; exact (run_eqlV he h1' h2').1
      · cases he : eqIn P 8 t a b with
        | none => simp [he] at h
        | some r => simp [he] at h; subst h; exact (run_eqlV he h1' h2').2
      · cases h
    · cases h
theorem run_ptrE {h : Heap} {t : TypeId} {a b : Value} {r : Bool} (hh : h = w.heap) (he : ptrE P h t a b = some r) : (Op.equal t a b).run P w = .ok r w ∧ ∃ p q, a = .pointer (some p) ∧ b = .pointer (some q) := by
  subst hh
  unfold ptrE at he
  split at he
  · rename_i r1 i s1 j
    refine ⟨?_, _, _, rfl, rfl⟩
    split at he
    · rename_i e hu
      cases hs : szP P e with
      | none => simp [hs] at he
      | some n =>
        simp only [hs, Option.bind_some] at he
        split at he
        · cases he
        · rename_i hn
          show (Op.equalIn 10000 t _ _).run P w = _
          have h1 : ∀ d, (Op.equalIn (d + 1) t (.pointer (some ⟨r1, i, none⟩)) (.pointer (some ⟨s1, j, none⟩))).run P w = (sameAddr ⟨r1, i, none⟩ ⟨s1, j, none⟩).run P w := fun d => by
            simp only [Op.equalIn, Sem.run_bind, run_underlying hu, Result.andThen_ok, szP_run hs, Sem.run_ite, ne_eq, hn, not_false_eq_true, if_true]
          rw [show (10000 : Nat) = 9999 + 1 from rfl, h1 9999]
          unfold sameAddr
          split at he
          · rename_i hrs
            subst hrs
            cases he
            simp
            by_cases q : i = j
            · simp [q]
            · have : ((⟨r1, i, none⟩ : Addr) == ⟨r1, j, none⟩) = false := by
                simp [q]
              simp [this, q]
          · rename_i hrs
            split at he
            · rename_i hp
              cases he
              simp only [Bool.and_eq_true] at hp
              obtain ⟨p1, p2⟩ := hp
              have sh : ∀ x : Nat, plainO w.heap[x]? = true → ∃ c e, w.heap[x]? = some (Obj.cells c e (0, 0)) := by
                intro x hx
                unfold plainO at hx
                split at hx
                · exact ⟨_, _, by assumption⟩
                · cases hx
              obtain ⟨c1, e1, g1⟩ := sh _ p1
              obtain ⟨c2, e2, g2⟩ := sh _ p2
              have f1 : ∀ o, w.frozen? ⟨r1, o, none⟩ = false := fun o => by simp [World.frozen?, g1]
              have f2 : ∀ o, w.frozen? ⟨s1, o, none⟩ = false := fun o => by simp [World.frozen?, g2]
              have k1 : w.shape? r1 = some (e1, c1.size) := by simp [World.shape?, g1]
              have k2 : w.shape? s1 = some (e2, c2.size) := by simp [World.shape?, g2]
              have hb : (r1 == s1) = false := by simpa using hrs
              have rf : ∀ (a : Addr) (w : World), (Sem.frozen a Sem.pure).run P w = .ok (w.frozen? a) w := fun _ _ => rfl
              have rs : ∀ (r : Nat) (w : World), (Sem.shape r Sem.pure).run P w = .ok (w.shape? r) w := fun _ _ => rfl
              simp [hb, frozen, rf, rs, f1, f2, noView, viewAt, shape, k1, k2, mayBeOne, stringish]
            · cases he
    · cases he
  · cases he
theorem run_ptrC {h : Heap} {op : BinOp} {t : TypeId} {x y : Operand} {a b : Value} {v : Value} (hh : h = w.heap) (hv : ptrC P h op t a b = some v) :
    (eqGuard op t x y a b).run P w = .ok () w ∧ (binOp op t a b).run P w = .ok v w := by
  unfold ptrC at hv
  split at hv
  · cases he : ptrE P h t a b with
    | none => simp [he] at hv
    | some r =>
      simp [he] at hv
      subst hv
      obtain ⟨hr, p, q, rfl, rfl⟩ := run_ptrE hh he
      refine ⟨by unfold eqGuard; simp, ?_⟩
      have : binOp .eql t (.pointer (some p)) (.pointer (some q)) = (do pure (.bool (← Op.equal t (.pointer (some p)) (.pointer (some q))))) := rfl
      rw [this]; simp [hr]
  · cases he : ptrE P h t a b with
    | none => simp [he] at hv
    | some r =>
      simp [he] at hv
      subst hv
      obtain ⟨hr, p, q, rfl, rfl⟩ := run_ptrE hh he
      refine ⟨by unfold eqGuard; simp, ?_⟩
      have : binOp .neq t (.pointer (some p)) (.pointer (some q)) = (do pure (.bool (!(← Op.equal t (.pointer (some p)) (.pointer (some q)))))) := rfl
      rw [this]; simp [hr]
  · cases hv
theorem run_orE {h : Heap} {op : BinOp} {t : TypeId} {x y : Operand} {a b : Value} {v : Value} (hh : h = w.heap) (hv : orE (binV P op t x y a b) (ptrC P h op t a b) = some v) :
    (eqGuard op t x y a b).run P w = .ok () w ∧ (binOp op t a b).run P w = .ok v w := by
  unfold orE at hv
  split at hv
  · rename_i v' hb
    cases hv
    exact run_binV hb
  · exact run_ptrC hh hv
end Go.SX
namespace Go.SX
open Go.RowKit
variable {P : Program} {w : World}
theorem run_unV {op : UnOp} {x v : Value} (h : unV op x = some v) : (Op.unary op x).run P w = .ok v w := by
  cases x <;> cases op <;> simp [unV] at h <;> subst h <;> simp [Op.unary, Op.intArith, Op.intBits, bitI]
theorem run_loadV {t : TypeId} {a v : Value} (h : loadV P w.heap t a = some v) : (Instr.loadAt t a).run P w = .ok v w := by
  unfold loadV at h
  split at h
  · rename_i b o
    unfold Instr.loadAt Instr.sureAddr loadVar
    split at h
    · rename_i hs
      have hc : w.cell? ⟨b, o, none⟩ = some v := by rw [cell?_world]; exact h
      simp [run_shP_one hs, hc]
    · rename_i n hs
      obtain ⟨h1, h2⟩ := run_shP_agg (w := w) hs
      cases hl : cells? w.heap b o n with
      | none => simp [hl] at h
      | some l =>
        simp [hl] at h
        subst h
        have hlen : l.length = n := by
          unfold cells? at hl
          split at hl
          · split at hl
            · cases hl; simp; omega
            · cases hl
          · cases hl
        have hall : ∀ j v, l[j]? = some v → w.cell? ((⟨b, o, none⟩ : Addr).add j) = some v := by
          intro j v hj
          unfold cells? at hl
          split at hl
          · rename_i c e fz hb
            split at hl
            · cases hl
              have hj' : j < n := by
                rcases Nat.lt_or_ge j n with h' | h'
                · exact h'
                · simp [List.getElem?_take, Nat.not_lt.2 h'] at hj
              have e1 : ((⟨b, o, none⟩ : Addr).add j) = ⟨b, o + j, none⟩ := by unfold Addr.add; split <;> simp_all
              rw [e1, cell?_world]
              simp [cell?, hb]
              simp [List.getElem?_take, hj'] at hj
              simpa using hj
            · cases hl
          · cases hl
        have hrun := run_loadCells_list (P := P) (w := w) ⟨b, o, none⟩ l hall
        rw [hlen] at hrun
        simp [h1, h2, hrun]
    · cases h
  · cases h
theorem foff_spec {s i n : Nat} (h : foff P s i = some n) : ∃ fs f k, P.underlying s = some (.struct fs) ∧ fs[i]? = some f ∧ szP P f.type = some (k + 1) ∧ n = f.offset := by
  unfold foff at h
  cases hu : P.underlying s with
  | none => simp [hu] at h
  | some d =>
    cases d <;> simp [hu] at h
    rename_i fs
    cases hf : fs[i]? with
    | none => simp [hf] at h
    | some f =>
      simp [hf] at h
      cases hs : szP P f.type with
      | none => simp [hs] at h
      | some k =>
        cases k with
        | zero => simp [hs] at h
        | succ k => simp [hs] at h; exact ⟨fs, f, k, rfl, hf, hs, h.symm⟩
theorem run_fieldAV {s i : Nat} {x v : Value} (h : fieldAV P s i x = some v) : (Instr.fieldAt s x i).run P w = .ok v w := by
  unfold fieldAV at h
  split at h
  · rename_i b o
    cases hf : foff P s i with
    | none => simp [hf] at h
    | some n =>
      simp [hf] at h; subst h
      obtain ⟨fs, f, k, hu, hg, hs, rfl⟩ := foff_spec hf
      have hz : (sizeOf f.type).run P w = .ok (k + 1) w := szP_run hs
      have e1 : ((⟨b, o, none⟩ : Addr).add f.offset) = ⟨b, o + f.offset, none⟩ := by unfold Addr.add; split <;> simp_all
      simp [Instr.fieldAt, run_underlying hu, hg, Instr.sureAddr, fieldPlace, hz, e1]
  · cases h
theorem run_fieldV {t i : Nat} {x v : Value} (h : fieldV P t i x = some v) : (Instr.field t x i).run P w = .ok v w := by
  unfold fieldV at h
  split at h
  · split at h
    · rename_i fs hu
      split at h
      · rename_i f hf
        simp [Instr.field, run_underlying hu, hf, asAgg, run_partV h]
      · cases h
    · cases h
  · cases h
theorem Addr_add_none (b o n : Nat) : ((⟨b, o, none⟩ : Addr).add n) = ⟨b, o + n, none⟩ := by unfold Addr.add; split <;> simp_all
theorem slE_spec {t e n : Nat} (h : slE P t = some (e, n)) : P.underlying t = some (.slice e) ∧ szP P e = some n := by
  unfold slE at h
  split at h
  · rename_i e' hu
    cases hs : szP P e' with
    | none => simp [hs] at h
    | some k => simp [hs] at h; obtain ⟨rfl, rfl⟩ := h; exact ⟨hu, hs⟩
  · cases h
theorem arE_spec {t m e n : Nat} (h : arE P t = some (m, e, n)) : P.underlying t = some (.array m e) ∧ szP P e = some n := by
  unfold arE at h
  split at h
  · rename_i m' e' hu
    cases hs : szP P e' with
    | none => simp [hs] at h
    | some k => simp [hs] at h; obtain ⟨rfl, rfl, rfl⟩ := h; exact ⟨hu, hs⟩
  · cases h
theorem run_idxAV {t : Nat} {x i v : Value} (h : idxAV P t x i = some v) : (Instr.indexAt t x i).run P w = .ok v w := by
  unfold idxAV at h
  split at h
  · split at h
    · cases he : slE P t with
      | none => simp [he] at h
      | some p =>
        obtain ⟨e, n⟩ := p
        obtain ⟨hu, hs⟩ := slE_spec he
        simp [he] at h
        obtain ⟨h1, h2⟩ := h
        simp [Instr.indexAt, asIntOf, run_underlying hu, h1, szP_run hs, Addr_add_none, h2]
    · cases he : arE P t with
      | none => simp [he] at h
      | some p =>
        obtain ⟨m, e, n⟩ := p
        obtain ⟨hu, hs⟩ := arE_spec he
        simp [he] at h
        obtain ⟨h1, h2⟩ := h
        simp [Instr.indexAt, asIntOf, run_underlying hu, h1, szP_run hs, Addr_add_none, h2, Instr.sureAddr]
    · cases h
  · cases h
theorem run_idxV {t : Nat} {x i v : Value} (h : idxV P t x i = some v) : (Instr.index t x i).run P w = .ok v w := by
  cases i <;> simp only [idxV] at h <;> try (cases h; done)
  rename_i k i
  cases x <;> simp only at h <;> try (cases h; done)
  · rename_i s
    split at h
    · rename_i hu
      split at h
      · rename_i h0
        cases hb : s.data.toList[i.toNat]? with
        | none => simp [hb] at h
        | some b =>
          rw [hb] at h
          simp at h; subst h
          have hlt : i.toNat < s.data.size := by
            rcases Nat.lt_or_ge i.toNat s.data.size with h' | h'
            · exact h'
            · rw [List.getElem?_eq_none (by simpa using h')] at hb; cases hb
          have hlt' : i.toNat < s.size := hlt
          have hb' : s[i.toNat]? = some b := by
            simp [getElem?_pos, hlt']
            have : s.data.toList[i.toNat]? = some s.data[i.toNat] := by simp [hlt]
            rw [this] at hb
            simp at hb; exact hb
          simp [Instr.index, asIntOf, run_underlying hu, h0, hb']
      · cases h
    · cases h
  · cases he : arE P t with
    | none => simp [he] at h
    | some p =>
      obtain ⟨m, e, n⟩ := p
      obtain ⟨hu, hs⟩ := arE_spec he
      simp [he] at h
      obtain ⟨h1, h2⟩ := h
      simp [Instr.index, asIntOf, run_underlying hu, h1, szP_run hs, run_partV h2]
theorem run_bound {v : Value} {top n : Nat} (c : BoundsCode) (d : Nat) (h : bnd (some v) d top = some n) : (Instr.sliceBound v top c).run P w = .ok n w := by
  unfold bnd at h
  split at h
  · rename_i e; cases e
  · rename_i k i e
    cases e
    split at h
    · rename_i hc; cases h; simp [Instr.sliceBound, asIntOf, hc]
    · cases h
  · cases h
theorem bnd_none (d top : Nat) : bnd none d top = some d := rfl
theorem run_bnds {len cap : Nat} {lo hi mx : Option Value} {r : Nat × Nat × Nat} (b : Bool) (h : bnds len cap lo hi mx = some r) : (Instr.sliceBounds b len cap lo hi mx).run P w = .ok r w := by
  unfold bnds at h
  cases hm : bnd mx cap cap with
  | none => simp [hm] at h
  | some m =>
    rw [hm] at h
    simp only [Option.bind_some] at h
    cases mx with
    | none =>
      rw [bnd_none] at hm; cases hm
      cases hi with
      | none =>
        simp only [bnd_none, Option.bind_some] at h
        cases lo with
        | none => rw [bnd_none] at h; cases h; simp [Instr.sliceBounds]
        | some l =>
          cases hl : bnd (some l) 0 len with
          | none => simp [hl] at h
          | some n => simp [hl] at h; subst h; simp [Instr.sliceBounds, run_bound (w := w) _ 0 hl]
      | some hv =>
        simp only at h
        cases hh : bnd (some hv) len cap with
        | none => simp [hh] at h
        | some n =>
          simp [hh] at h
          cases lo with
          | none => simp [bnd_none] at h; subst h; simp [Instr.sliceBounds, run_bound (w := w) _ len hh]
          | some l =>
            cases hl : bnd (some l) 0 n with
            | none => simp [hl] at h
            | some q => simp [hl] at h; subst h; simp [Instr.sliceBounds, run_bound (w := w) _ len hh, run_bound (w := w) _ 0 hl]
    | some mv =>
      cases hi with
      | none => simp at h
      | some hv =>
        simp only at h
        cases hh : bnd (some hv) len m with
        | none => simp [hh] at h
        | some n =>
          simp [hh] at h
          cases lo with
          | none => simp [bnd_none] at h; subst h; simp [Instr.sliceBounds, run_bound (w := w) _ cap hm, run_bound (w := w) _ len hh]
          | some l =>
            cases hl : bnd (some l) 0 n with
            | none => simp [hl] at h
            | some q => simp [hl] at h; subst h; simp [Instr.sliceBounds, run_bound (w := w) _ cap hm, run_bound (w := w) _ len hh, run_bound (w := w) _ 0 hl]
theorem run_sliceV {t : Nat} {x v : Value} {lo hi mx : Option Value} (h : sliceV P t x lo hi mx = some v) : (Instr.sliceAt t x lo hi mx).run P w = .ok v w := by
  unfold sliceV at h
  split at h
  · cases he : slE P t with
    | none => simp [he] at h
    | some p =>
      obtain ⟨e, n⟩ := p
      obtain ⟨hu, hs⟩ := slE_spec he
      rw [he] at h
      rename_i a len cap
      cases hb : bnds len cap lo hi mx with
      | none => simp [hb] at h
      | some r =>
        obtain ⟨l, hh, m⟩ := r
        simp [hb] at h; subst h
        simp [Instr.sliceAt, Instr.slice, run_underlying hu, run_bnds true hb, szP_run hs, addA]
  · cases he : arE P t with
    | none => simp [he] at h
    | some p =>
      obtain ⟨len, e, n⟩ := p
      obtain ⟨hu, hs⟩ := arE_spec he
      rw [he] at h
      cases hb : bnds len len lo hi mx with
      | none => simp [hb] at h
      | some r =>
        obtain ⟨l, hh, m⟩ := r
        simp [hb] at h; subst h
        simp [Instr.sliceAt, run_underlying hu, Instr.sureAddr, run_bnds false hb, szP_run hs, addA]
  · split at h
    · rename_i s _ _ hu
      cases hb : bnds s.size s.size lo hi none with
      | none => simp [hb] at h
      | some r =>
        obtain ⟨l, hh, m⟩ := r
        simp [hb] at h; subst h
        simp [Instr.sliceAt, Instr.slice, run_underlying hu, run_bnds false hb]
    · cases h
  · cases h
theorem run_entV {x v : Value} (h : entV w.heap x = some v) : (Instr.entry x).run P w = .ok v w := by
  unfold entV at h
  split at h
  · rename_i r sp
    split at h
    · rename_i m since seen stepped hr
      have hg : (getObj r).run P w = .ok (.mapIter (some m) since seen stepped) w := by simp [getObj, Sem.run, hr]
      cases hb : seen.back? with
      | none => simp [hb] at h
      | some stamp =>
        simp only [hb, Option.bind_some] at h
        split at h
        · rename_i es clock hm
          have hgm : (getObj m).run P w = .ok (.map es clock) w := run_getObj_map w m es clock hm
          split at h
          · rename_i hc
            cases hf : es.find? (·.born == stamp) with
            | none => simp [hf] at h
            | some e =>
              simp [hf] at h; subst h
              simp [Instr.entry, hg, hb, hgm, hc, hf]
          · cases h
        · cases h
    · cases h
  · cases h
theorem run_extV {i : Nat} {x v : Value} (h : extV i x = some v) : (Instr.extract x i).run P w = .ok v w := by
  unfold extV at h
  split at h
  · simp [Instr.extract, h]
  · cases h
theorem run_convV {s d : Nat} {x v : Value} (h : convV P s d x = some v) : (convert s d x).run P w = .ok v w := by
  unfold convV at h
  split at h
  · split at h
    · rename_i ds k hs hd
      cases h
      simp [convert, run_underlying hs, run_underlying hd, Conv.intToInt]
    · cases h
  · split at h
    · rename_i ds hs hd
      cases h
      simp [convert, run_underlying hs, run_underlying hd]
    · cases h
  · cases h
theorem run_getMap {r : Nat} {es : Array MapEntry} {c : Nat} (hb : w.heap[r]? = some (.map es c)) : (getObj r).run P w = .ok (.map es c) w := run_getObj_map w r es c hb
theorem run_zeroP {t : Nat} {z : Value} (h : zeroP P t = some z) : (zeroValue t).run P w = .ok z w := by
  unfold zeroP at h
  cases hi : P.info? t with
  | none => simp [hi] at h
  | some i => simp [hi] at h; simp [zeroValue, typeInfo, hi, h]
theorem run_checkKey {e : Bool} {k : Nat} {key : Value} {d : TypeDesc} (n : Nat) (hu : P.underlying k = some d) (hk : plainKey d key = true) : (Instr.checkKey e (n + 1) k key).run P w = .ok () w := by
  cases d <;> cases key <;> simp [plainKey] at hk <;> simp [Instr.checkKey, run_underlying hu]
theorem run_findKey {k : Nat} {key : Value} {d : TypeDesc} {es : List MapEntry} {r : Option (Nat × Value)} (hu : P.underlying k = some d) (h : Instr.findNow d key es 0 = some r) : (Instr.findKey k key es).run P w = .ok r w := by
  simp [Instr.findKey, run_underlying hu, h]
theorem run_lookV {t : Nat} {m key v : Value} {ok : Bool} (h : lookV P w.heap t m key ok = some v) : (Instr.lookup t m key ok).run P w = .ok v w := by
  unfold lookV at h
  cases hu : P.underlying t with
  | none => simp [hu] at h
  | some dt =>
    rw [hu] at h
    cases dt <;> simp only at h <;> try (cases h; done)
    rename_i k e
    cases hm : mapEs w.heap m with
    | none => simp [hm] at h
    | some es =>
      cases hk : P.underlying k with
      | none => simp [hm, hk] at h
      | some d =>
        simp only [hm, hk, Option.bind_some] at h
        split at h
        · rename_i hp
          cases hf : Instr.findNow d key es 0 with
          | none => simp [hf] at h
          | some r =>
            rw [hf] at h
            simp only [Option.bind_some] at h
            have hm' : (m = .map none ∧ es = []) ∨ ∃ r' es' c, m = .map (some r') ∧ w.heap[r']? = some (.map es' c) ∧ es = es'.toList := by
              cases m <;> simp only [mapEs] at hm <;> try (cases hm; done)
              rename_i r'
              cases r' with
              | none => simp at hm; exact .inl ⟨rfl, hm⟩
              | some r' =>
                cases hr : w.heap[r']? with
                | none => simp [hr] at hm
                | some o =>
                  cases o <;> simp [hr] at hm
                  rename_i es' c
                  exact .inr ⟨r', es', c, rfl, hr, hm.symm⟩
            cases r with
            | some p =>
              obtain ⟨i, u⟩ := p
              simp [lookFin] at h; subst h
              rcases hm' with ⟨rfl, rfl⟩ | ⟨r', es', c, rfl, hr, rfl⟩
              · simp [Instr.lookup, run_underlying hu, run_checkKey 9999 hk hp, run_findKey hk hf]
              · simp [Instr.lookup, run_underlying hu, run_getMap hr, run_checkKey 9999 hk hp, run_findKey hk hf]
            | none =>
              cases hz : zeroP P e with
              | none => simp [lookFin, hz] at h
              | some z =>
                simp [lookFin, hz] at h; subst h
                rcases hm' with ⟨rfl, rfl⟩ | ⟨r', es', c, rfl, hr, rfl⟩
                · simp [Instr.lookup, run_underlying hu, run_checkKey 9999 hk hp, run_findKey hk hf, run_zeroP hz]
                · simp [Instr.lookup, run_underlying hu, run_getMap hr, run_checkKey 9999 hk hp, run_findKey hk hf, run_zeroP hz]
        · cases h
theorem run_lenV {t ty : Nat} {ts : List TypeId} {x v : Value} (h : lenV P w.heap t x = some v) : (Builtin.len_ (t :: ts).toArray ty #[x]).run P w = .ok v w := by
  unfold lenV at h
  split at h
  · split at h
    · rename_i hu; cases h; simp [Builtin.len_, run_underlying hu]
    · cases h
  · split at h
    · rename_i hu; cases h; simp [Builtin.len_, run_underlying hu]
    · cases h
  · split at h
    · rename_i hu; cases h; simp [Builtin.len_, run_underlying hu]
    · cases h
  · split at h
    · rename_i hu hm; cases h; simp [Builtin.len_, run_underlying hu, run_getMap hm]
    · cases h
  · split at h
    · rename_i hu; cases h; simp [Builtin.len_, run_underlying hu]
    · cases h
  · cases h
theorem run_capV {t ty : Nat} {ts : List TypeId} {x v : Value} (h : capV P t x = some v) : (Builtin.cap_ (t :: ts).toArray ty #[x]).run P w = .ok v w := by
  unfold capV at h
  split at h
  · split at h
    · rename_i hu; cases h; simp [Builtin.cap_, run_underlying hu]
    · cases h
  · cases h
theorem run_minV {ty : Nat} {ts : Array TypeId} {x y v : Value} (h : minV x y = some v) : (Builtin.min_ ts ty #[x, y]).run P w = .ok v w := by
  unfold minV at h
  split at h
  · cases h; simp [Builtin.min_, Builtin.min2]
  · cases h
theorem run_maxV {ty : Nat} {ts : Array TypeId} {x y v : Value} (h : maxV x y = some v) : (Builtin.max_ ts ty #[x, y]).run P w = .ok v w := by
  unfold maxV at h
  split at h
  · cases h; simp [Builtin.max_, Builtin.max2]
  · cases h
end Go.SX
namespace Go.SX
open Go.RowKit
variable {P : Program} {w : World}
theorem setL_nil : ∀ (cs : List Value) (o : Nat), setL cs o [] = cs
  | [], _ => rfl
  | _ :: _, 0 => rfl
  | c :: cs, o + 1 => by simp [setL, setL_nil cs o]
theorem setL_cons : ∀ (cs : List Value) (o : Nat) (v : Value) (vs : List Value), setL cs o (v :: vs) = setL (cs.set o v) (o + 1) vs
  | [], _, _, _ => rfl
  | c :: cs, 0, v, vs => by simp [setL]
  | c :: cs, o + 1, v, vs => by simp [setL, setL_cons cs o v vs]
theorem fold_setL (off : Nat) : ∀ (vs : List Value) (k : Nat) (cs : List Value), (vs.zipIdx k).foldl (fun (cs : Array Value) (p : Value × Nat) => cs.setIfInBounds (off + p.2) p.1) cs.toArray = (setL cs (off + k) vs).toArray
  | [], k, cs => by simp [setL_nil]
  | v :: vs, k, cs => by
    simp only [List.zipIdx_cons, List.foldl_cons, List.setIfInBounds_toArray]
    rw [fold_setL off vs (k + 1) (cs.set (off + k) v), setL_cons]
    rfl
theorem fill_eq (place : Nat → Option (Nat × Nat)) : ∀ (parts : List (Nat × Value)) (ps : List (Nat × Nat × Value)) (cells out : List Value),
    (∀ i, i < parts.length → ∃ p q, parts[i]? = some p ∧ ps[i]? = some q ∧ place p.1 = some (q.1, q.2.1) ∧ p.2 = q.2.2) → parts.length = ps.length → fillL cells ps = some out →
    Instr.fill place cells.toArray parts = some out.toArray
  | [], ps, cells, out, _, hl, h => by
    cases ps with
    | nil => simp [fillL] at h; subst h; simp [Instr.fill]
    | cons => simp at hl
  | (i, v) :: parts, [], cells, out, _, hl, h => by simp at hl
  | (i, v) :: parts, (off, n, v') :: ps, cells, out, hp, hl, h => by
    obtain ⟨p, q, e1, e2, e3, e4⟩ := hp 0 (by simp)
    simp at e1 e2
    subst e1; subst e2
    simp at e3 e4
    subst e4
    simp only [fillL] at h
    split at h
    · rename_i hc
      have hfold := fold_setL off v.cells.toList 0 cells
      have e5 : v.cells.zipIdx.foldl (fun (cs : Array Value) (p : Value × Nat) => cs.setIfInBounds (off + p.2) p.1) cells.toArray = (setL cells off v.cells.toList).toArray := by
        rw [← Array.foldl_toList]
        simpa using hfold
      have hcond : (v.cells.size ≠ n || off + v.cells.size > cells.toArray.size) = false := by
        obtain ⟨h1, h2⟩ := hc
        simp [h1]; omega
      simp only [Instr.fill, e3]
      rw [if_neg (by simpa using hcond), e5]
      exact fill_eq place parts ps _ out (fun i hi => by
        obtain ⟨p, q, a, b, c, d⟩ := hp (i + 1) (by simpa using hi)
        exact ⟨p, q, by simpa using a, by simpa using b, c, d⟩) (by simpa using hl) h
    · cases h
theorem run_sizes : ∀ (fs : List Field), (fs.all fun f => (szP P f.type).isSome) = true → (fs.mapM (m := Sem) fun f => do pure (f.offset, ← sizeOf f.type)).run P w = .ok (fs.map fun f => (f.offset, (szP P f.type).getD 0)) w
  | [], _ => by simp
  | f :: fs, h => by
    simp only [List.all_cons, Bool.and_eq_true] at h
    obtain ⟨h1, h2⟩ := h
    obtain ⟨n, hn⟩ := Option.isSome_iff_exists.1 h1
    have := run_sizes fs h2
    simp at this
    simp [szP_run hn, this, hn]
theorem places_spec {t : Nat} : ∀ {parts : List (Nat × Value)} {l : List (Nat × Nat × Value)}, places P t parts = some l →
    parts.length = l.length ∧ ∀ i, i < parts.length → ∃ p q, parts[i]? = some p ∧ l[i]? = some q ∧ place P t p.1 = some (q.1, q.2.1) ∧ p.2 = q.2.2
  | [], l, h => by simp [places] at h; subst h; simp
  | (i, v) :: r, l, h => by
    simp only [places] at h
    cases hp : place P t i with
    | none => simp [hp] at h
    | some on =>
      obtain ⟨o, n⟩ := on
      cases hl : places P t r with
      | none => simp [hp, hl] at h
      | some l' =>
        simp [hp, hl] at h
        subst h
        obtain ⟨h1, h2⟩ := places_spec hl
        refine ⟨by simp [h1], fun j hj => ?_⟩
        cases j with
        | zero => exact ⟨_, _, rfl, rfl, hp, rfl⟩
        | succ j => obtain ⟨p, q, a, b, c, d⟩ := h2 j (by simpa using hj); exact ⟨p, q, by simpa using a, by simpa using b, c, d⟩
theorem run_buildV {t : Nat} {parts : List (Nat × Value)} {v : Value} (h : buildV P t parts = some v) : (Instr.build t parts.toArray).run P w = .ok v w := by
  unfold buildV at h
  cases hz : zc P t with
  | none => simp [hz] at h
  | some z =>
    simp only [hz, Option.bind_some] at h
    split at h
    · rename_i hsz
      cases hl : places P t parts with
      | none => simp [hl] at h
      | some l =>
        cases hf : fillL z l with
        | none => simp [hl, hf] at h
        | some cs =>
          simp [hl, hf] at h; subst h
          obtain ⟨hlen, hpl⟩ := places_spec hl
          unfold zc at hz
          cases hz0 : zeroP P t with
          | none => simp [hz0] at hz
          | some z0 =>
            simp [hz0] at hz
            have hfill := fill_eq (place P t) parts l z cs hpl hlen hf
            have ez : z.toArray = z0.cells := by rw [← hz]
            rw [ez] at hfill
            unfold sized at hsz
            cases hu : P.underlying t with
            | none => simp [hu] at hsz
            | some d =>
              cases d <;> simp only [hu] at hsz <;> try (cases hsz; done)
              · rename_i len e
                have hpe : place P t = fun i => (szP P e).map fun n => (i * n, n) := by funext i; simp [place, hu]
                cases parts with
                | nil =>
                  simp [fillL, places] at hl; subst hl
                  simp [fillL] at hf; subst hf
                  cases hse : szP P e with
                  | none => simp [hse] at hsz
                  | some n => simp [Instr.build, run_zeroP hz0, run_underlying hu, szP_run hse, Instr.fill, ez]
                | cons p ps =>
                  cases hse : szP P e with
                  | none => simp [places, place, hu, hse] at hl
                  | some n =>
                    rw [hpe, hse] at hfill
                    simp at hfill
                    simp [Instr.build, run_zeroP hz0, run_underlying hu, szP_run hse, hfill]
              · rename_i fs
                have hpl2 : place P t = fun i => ((fs.toList.map fun f => (f.offset, (szP P f.type).getD 0)).toArray)[i]? := by
                  funext i
                  simp only [place, hu]
                  cases hfi : fs[i]? with
                  | none => simp [hfi]
                  | some f =>
                    have hm : f ∈ fs.toList := by simpa using Array.mem_of_getElem? hfi
                    have hs1 := List.all_eq_true.1 hsz f hm
                    obtain ⟨n, hn⟩ := Option.isSome_iff_exists.1 hs1
                    simp [hfi, hn]
                have hrun := run_sizes (P := P) (w := w) fs.toList hsz
                rw [hpl2] at hfill
                have hrun2 : (fs.mapM (m := Sem) fun f => do pure (f.offset, ← sizeOf f.type)).run P w = .ok (fs.toList.map fun f => (f.offset, (szP P f.type).getD 0)).toArray w := by
                  rw [Array.mapM_eq_mapM_toList]
                  simp at hrun
                  simp [hrun]
                simp at hrun2 hfill
                simp [Instr.build, run_zeroP hz0, run_underlying hu, hrun2, hfill]
    · cases h
def Tells (fr : Fr) (ρ : Operand → Value) : Prop := ∀ x v, ev fr x = some v → ρ x = v
theorem evL_tells {fr : Fr} {ρ : Operand → Value} (hρ : Tells fr ρ) : ∀ {l : List Operand} {vs : List Value}, evL fr l = some vs → l.map ρ = vs
  | [], vs, h => by simp [evL] at h; subst h; rfl
  | x :: xs, vs, h => by
    simp only [evL] at h
    cases h1 : ev fr x with
    | none => simp [h1] at h
    | some v =>
      cases h2 : evL fr xs with
      | none => simp [h1, h2] at h
      | some us => simp [h1, h2] at h; subst h; simp [hρ x v h1, evL_tells hρ h2]
theorem evP_tells {fr : Fr} {ρ : Operand → Value} (hρ : Tells fr ρ) : ∀ {l : List (Nat × Operand)} {vs : List (Nat × Value)}, evP fr l = some vs → l.map (fun p => (p.1, ρ p.2)) = vs
  | [], vs, h => by simp [evP] at h; subst h; rfl
  | (i, x) :: xs, vs, h => by
    simp only [evP] at h
    cases h1 : ev fr x with
    | none => simp [h1] at h
    | some v =>
      cases h2 : evP fr xs with
      | none => simp [h1, h2] at h
      | some us => simp [h1, h2] at h; subst h; simp [hρ x v h1, evP_tells hρ h2]
theorem evO_tells {fr : Fr} {ρ : Operand → Value} (hρ : Tells fr ρ) {x : Option Operand} {v : Option Value} (h : evO fr x = some v) : x.map ρ = v := by
  cases x with
  | none => simp [evO] at h; subst h; rfl
  | some x =>
    simp only [evO] at h
    cases h1 : ev fr x with
    | none => simp [h1] at h
    | some u => simp [h1] at h; subst h; simp [hρ x u h1]
theorem rop_sound {fr : Fr} {op : Op} {v : Value} (hv : rop P fr w.heap op = some v) {ρ : Operand → Value} (hρ : Tells fr ρ) (d : Option Tmp) (ty : TypeId) (pos : String) (af : Array Edge) (g : Option (Nat × Bool)) :
    (execOp ρ ⟨d, op, ty, pos, af, g⟩).run P w = .ok (.value v) w := by
  cases op <;> simp only [rop] at hv <;> try (cases hv; done)
  case move x => simp [execOp, hρ x v hv]
  case assign x => simp [execOp, hρ x v hv]
  case pick c a b =>
    cases h1 : ev fr c with
    | none => simp [h1] at hv
    | some u =>
      rw [h1] at hv
      simp only [Option.bind_some] at hv
      cases u <;> simp only at hv <;> try (cases hv; done)
      rename_i t
      cases t
      · have h2 : ev fr b = some v := hv
        simp [execOp, hρ c _ h1, hρ _ v h2, asBool]
      · have h2 : ev fr a = some v := hv
        simp [execOp, hρ c _ h1, hρ _ v h2, asBool]
  case build t ps =>
    cases h1 : evP fr ps.toList with
    | none => simp [h1] at hv
    | some l =>
      simp [h1] at hv
      have := evP_tells hρ h1
      have e : ps.map (fun p => (p.1, ρ p.2)) = l.toArray := by obtain ⟨ps⟩ := ps; subst this; simp
      simp [execOp, e, run_buildV hv]
  case load t a =>
    cases h1 : ev fr a with
    | none => simp [h1] at hv
    | some u => simp [h1] at hv; simp [execOp, hρ a u h1, run_loadV hv]
  case nilCheck x =>
    cases h1 : ev fr x with
    | none => simp [h1] at hv
    | some u =>
      simp [h1] at hv
      unfold nilV at hv
      split at hv
      · cases hv; simp [execOp, hρ x _ h1]
      · cases hv; simp [execOp, hρ x _ h1]
      · cases hv
  case binOp op t x y yt =>
    cases h1 : ev fr x with
    | none => simp [h1] at hv
    | some a =>
      cases h2 : ev fr y with
      | none => simp [h1, h2] at hv
      | some b =>
        simp [h1, h2] at hv
        obtain ⟨e1, e2⟩ := run_orE (w := w) rfl hv
        simp [execOp, hρ x a h1, hρ y b h2, e1, e2]
  case unOp op t x =>
    cases h1 : ev fr x with
    | none => simp [h1] at hv
    | some a => simp [h1] at hv; simp [execOp, hρ x a h1, run_unV hv]
  case convert s d x =>
    cases h1 : ev fr x with
    | none => simp [h1] at hv
    | some a => simp [h1] at hv; simp [execOp, hρ x a h1, run_convV hv]
  case makeInterface t x =>
    split at hv
    · rename_i hc
      cases h1 : ev fr x with
      | none => simp [h1] at hv
      | some a => simp [h1] at hv; subst hv; simp [execOp, hρ x a h1, run_makeInterface w t a hc]
    · cases hv
  case makeFunc f a b =>
    cases h1 : evL fr a.toList with
    | none => simp [h1] at hv
    | some la =>
      cases h2 : evL fr b.toList with
      | none => simp [h1, h2] at hv
      | some lb =>
        simp [h1, h2] at hv; subst hv
        have e1 : a.map ρ = la.toArray := by have := evL_tells hρ h1; obtain ⟨a⟩ := a; subst this; simp
        have e2 : b.map ρ = lb.toArray := by have := evL_tells hρ h2; obtain ⟨b⟩ := b; subst this; simp
        simp [execOp, Instr.makeFunc, e1, e2]
  case slice t x lo hi mx =>
    cases h1 : ev fr x with
    | none => simp [h1] at hv
    | some a =>
      cases h2 : evO fr lo with
      | none => simp [h1, h2] at hv
      | some l =>
        cases h3 : evO fr hi with
        | none => simp [h1, h2, h3] at hv
        | some h =>
          cases h4 : evO fr mx with
          | none => simp [h1, h2, h3, h4] at hv
          | some m =>
            simp [h1, h2, h3, h4] at hv
            simp [execOp, hρ x a h1, evO_tells hρ h2, evO_tells hρ h3, evO_tells hρ h4, run_sliceV hv]
  case fieldAddr s x i =>
    cases h1 : ev fr x with
    | none => simp [h1] at hv
    | some a => simp [h1] at hv; simp [execOp, hρ x a h1, run_fieldAV hv]
  case field t x i =>
    cases h1 : ev fr x with
    | none => simp [h1] at hv
    | some a => simp [h1] at hv; simp [execOp, hρ x a h1, run_fieldV hv]
  case indexAddr t x i =>
    cases h1 : ev fr x with
    | none => simp [h1] at hv
    | some a =>
      cases h2 : ev fr i with
      | none => simp [h1, h2] at hv
      | some b => simp [h1, h2] at hv; simp [execOp, hρ x a h1, hρ i b h2, run_idxAV hv]
  case index t x i =>
    cases h1 : ev fr x with
    | none => simp [h1] at hv
    | some a =>
      cases h2 : ev fr i with
      | none => simp [h1, h2] at hv
      | some b => simp [h1, h2] at hv; simp [execOp, hρ x a h1, hρ i b h2, run_idxV hv]
  case lookup t m k ok =>
    cases h1 : ev fr m with
    | none => simp [h1] at hv
    | some a =>
      cases h2 : ev fr k with
      | none => simp [h1, h2] at hv
      | some b => simp [h1, h2] at hv; simp [execOp, hρ m a h1, hρ k b h2, run_lookV hv]
  case extract x i =>
    cases h1 : ev fr x with
    | none => simp [h1] at hv
    | some a => simp [h1] at hv; simp [execOp, hρ x a h1, run_extV hv]
  case entry x =>
    cases h1 : ev fr x with
    | none => simp [h1] at hv
    | some a => simp [h1] at hv; simp [execOp, hρ x a h1, run_entV hv]
  case call c =>
    obtain ⟨callee, args, ats⟩ := c
    obtain ⟨args⟩ := args
    obtain ⟨ats⟩ := ats
    cases callee <;> simp only at hv <;> try (cases hv; done)
    rename_i b
    cases b <;> simp only at hv <;> try (cases hv; done)
    case len =>
      rcases args with _ | ⟨x, _ | ⟨y, args⟩⟩ <;> rcases ats with _ | ⟨t, ats⟩ <;> simp only at hv <;> try (cases hv; done)
      cases h1 : ev fr x with
      | none => simp [h1] at hv
      | some a =>
        simp [h1] at hv
        simp [execOp, resolve, hρ x a h1, invoke, builtin, run_lenV hv]
    case cap =>
      rcases args with _ | ⟨x, _ | ⟨y, args⟩⟩ <;> rcases ats with _ | ⟨t, ats⟩ <;> simp only at hv <;> try (cases hv; done)
      cases h1 : ev fr x with
      | none => simp [h1] at hv
      | some a =>
        simp [h1] at hv
        simp [execOp, resolve, hρ x a h1, invoke, builtin, run_capV hv]
    case min =>
      rcases args with _ | ⟨x, _ | ⟨y, _ | ⟨z, args⟩⟩⟩ <;> simp only at hv <;> try (cases hv; done)
      cases h1 : ev fr x with
      | none => simp [h1] at hv
      | some a =>
        cases h2 : ev fr y with
        | none => simp [h1, h2] at hv
        | some b =>
          simp [h1, h2] at hv
          simp [execOp, resolve, hρ x a h1, hρ y b h2, invoke, builtin, run_minV hv]
    case max =>
      rcases args with _ | ⟨x, _ | ⟨y, _ | ⟨z, args⟩⟩⟩ <;> simp only at hv <;> try (cases hv; done)
      cases h1 : ev fr x with
      | none => simp [h1] at hv
      | some a =>
        cases h2 : ev fr y with
        | none => simp [h1, h2] at hv
        | some b =>
          simp [h1, h2] at hv
          simp [execOp, resolve, hρ x a h1, hρ y b h2, invoke, builtin, run_maxV hv]
end Go.SX
