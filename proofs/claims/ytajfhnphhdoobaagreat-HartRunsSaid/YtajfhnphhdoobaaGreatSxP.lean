/- Slices that grow, over heaps alone: who owns a block, what append does to it. Plain laws of words: what atomic operators compute. No program. Bytes of a word, and back; bits with a sign. Plain laws. Slices that are only read; how heaps grow; lists of structs in a slice. No program. Maps whose keys are integers, over heaps alone. No condition. Calls of functions without a body; slices.overlaps of two blocks; copies within memory of one's own. No condition. The law's arguments, as the row hands them over, in the words of the walks. No program. Slices of structs, as the row hands them over. No program. Blocks and structs given cell by cell, by a function. No program. -/
import Derived.Test.YtajfhnphhdoobaaGreatSxSimp
import Derived.Lib.Overlaps
import Derived.ChangeKeysEq
import Derived.WalkKit
import Derived.OpenShut
import Derived.Carry
import Derived.ChangeOld
import Derived.ChangeSame
import Derived.DataReads
set_option linter.unusedVariables false
set_option linter.unusedSimpArgs false
namespace Go.SX
open Go.RowKit
variable {P : Program}
/-- all blocks below 'n' are as they were. -/
structure Keeps (n : Nat) (h h' : Heap) : Prop where
  size : h.size ≤ h'.size
  old : ∀ b, b < n → h'[b]? = h[b]?
theorem Keeps.refl (n : Nat) (h : Heap) : Keeps n h h := ⟨Nat.le_refl _, fun _ _ => rfl⟩
theorem Keeps.trans {n : Nat} {h h' h'' : Heap} (a : Keeps n h h') (b : Keeps n h' h'') : Keeps n h h'' := ⟨Nat.le_trans a.1 b.1, fun c hc => (b.2 c hc).trans (a.2 c hc)⟩
theorem Keeps.le {m n : Nat} {h h' : Heap} (a : Keeps n h h') (hm : m ≤ n) : Keeps m h h' := ⟨a.1, fun c hc => a.2 c (by omega)⟩
theorem Keeps.push (h : Heap) (o : Obj) {n : Nat} (hn : n ≤ h.size) : Keeps n h (h.push o) := ⟨by simp, fun b hb => by rw [Array.getElem?_push]; rw [if_neg (by omega)]⟩
theorem Keeps.set {h : Heap} {b n : Nat} (o : Obj) (hn : n ≤ b) : Keeps n h (h.setIfInBounds b o) := ⟨by simp, fun c hc => by rw [Array.getElem?_setIfInBounds]; rw [if_neg (by omega)]⟩
/-- block 'b' is a slice's own: 'L' the cells in use, room for 'cap' elements. -/
def Own (h : Heap) (b e size : Nat) (L : List Value) (cap : Nat) : Prop := ∃ rest, h[b]? = some (.cells (L ++ rest).toArray e (0, 0)) ∧ cap * size ≤ L.length + rest.length
/-- a slice of 'm' elements, its cells 'L', its block its own and not below 'lo'. -/
def Sl (h : Heap) (lo : Nat) (v : Value) (e size m : Nat) (L : List Value) : Prop :=
  L.length = m * size ∧ ((v = .slice none 0 0 ∧ m = 0) ∨ ∃ b cap, v = .slice (some ⟨b, 0, none⟩) m cap ∧ m ≤ cap ∧ lo ≤ b ∧ Own h b e size L cap)
def blk : Value → Option Nat
  | .slice (some ⟨b, _, _⟩) _ _ => some b
  | _ => none
def Grow (h : Heap) (v : Value) (h' : Heap) (v' : Value) : Prop := h.size ≤ h'.size ∧ (∀ c, c < h.size → blk v ≠ some c → h'[c]? = h[c]?) ∧ (blk v' = blk v ∨ blk v' = some h.size)
structure ElT (P : Program) (t : TypeId) (e size by_ : Nat) (z : Value) : Prop where
  sl : slE P t = some (e, size)
  bt : byP P e = some by_
  pos : 0 < by_
  ze : zeroP P e = some z
  zs : z.cells.size = size
  nt : (P.underlying t).map isIntD = some false
theorem setL_app : ∀ (L rest vs : List Value), vs.length ≤ rest.length → setL (L ++ rest) L.length vs = L ++ vs ++ rest.drop vs.length
  | [], [], [], _ => rfl
  | [], [], v :: vs, h => by simp at h
  | [], r :: rest, [], _ => rfl
  | [], r :: rest, v :: vs, h => by
    have := setL_app [] rest vs (by simpa using h)
    simp only [List.nil_append, List.length_nil] at this
    simp [setL, this]
  | l :: L, rest, vs, h => by
    have := setL_app L rest vs h
    simp [setL, this]
theorem zeros_len {z : Value} {size : Nat} (hz : z.cells.size = size) (n : Nat) : (zeros z n).length = n * size := by
  simp [zeros, Builtin.zeroCells, Array.size_flatten, hz]
theorem getElem?_lt {α : Type} {a : Array α} {i : Nat} {x : α} (h : a[i]? = some x) : i < a.size := (Array.getElem?_eq_some_iff.1 h).1
theorem app_sl {h : Heap} {t e size by_ m n lo : Nat} {z v x : Value} {L new : List Value} {K : Value → Heap → Prop} (T : ElT P t e size by_ z) (hv : Sl h lo v e size m L) (hx : lenOfV x = some n)
    (hs : srcCells h (n * size) x = some new) (hl : new.length = n * size) (ho : new.all one = true) (hb : (m + n) * by_ ≤ 140737488355328) (hstr : strOK size x = true) (hlo : lo ≤ h.size)
    (hk : ∀ v' h', Sl h' lo v' e size (m + n) (L ++ new) → Grow h v h' v' → K v' h') : @appK P h t t v x ⟨K⟩ := by
  obtain ⟨hL, hv⟩ := hv
  have hLn : (L ++ new).length = (m + n) * size := by rw [List.length_append, hL, hl, Nat.add_mul]
  cases hd : P.underlying t with
  | none => have := T.nt; rw [hd] at this; simp at this
  | some d =>
  have hi : isIntD d = false := by have := T.nt; rw [hd] at this; simpa using this
  unfold appK appendW
  rw [T.sl, hd]
  rcases hv with ⟨rfl, rfl⟩ | ⟨b, cap, rfl, hmc, hlb, rest, hB, hcap⟩
  · have hL0 : L = [] := by simpa using hL
    subst hL0
    simp only [obind, T.sl, hi, hx, hs, hstr, Bool.false_eq_true, if_false, true_and, AppW, wrS, T.bt, T.ze]
    simp only [srcCells]
    refine ⟨fun h0 => hk _ _ ⟨hLn, .inl ⟨by simp; omega, by omega⟩⟩ ⟨Nat.le_refl _, fun _ _ _ => rfl, .inl (by simp [blk])⟩, fun h0 => ⟨T.pos, by simpa using hb, fun c hc => ?_⟩⟩
    refine hk _ _ ⟨hLn, .inr ⟨_, c, rfl, hc, hlo, zeros z (c - (0 + n)), by simp, ?_⟩⟩ ⟨by simp, fun c hc _ => by rw [Array.getElem?_push, if_neg (by omega)], .inr (by simp [blk])⟩
    have e1 := zeros_len T.zs (c - (0 + n))
    rw [e1, List.nil_append, hl, ← Nat.add_mul]; exact Nat.mul_le_mul_right _ (by omega)
  · have hbs := getElem?_lt hB
    have hr : ¬ (L ++ rest).toArray.size < m * size := by simp [hL]
    simp only [obind, T.sl, hi, hx, hs, hstr, Bool.false_eq_true, if_false, true_and, AppW, wrS, wr, T.bt, T.ze]
    simp only [srcCells, cells?, hB, obind]
    refine ⟨fun h0 => ?_, fun h0 => ⟨T.pos, hb, ?_⟩⟩
    · have hroom : new.length ≤ rest.length := by
        have : (m + n) * size ≤ cap * size := Nat.mul_le_mul_right _ h0
        rw [Nat.add_mul] at this; omega
      have hif : 0 + m * size + new.length ≤ (L ++ rest).toArray.size ∧ (0 ≤ 0 ∨ 0 ≤ 0 + m * size ∨ 0 + m * size + new.length ≤ 0) ∧ new.all one = true := by
        refine ⟨by simp [hL]; omega, .inl (Nat.le_refl _), ho⟩
      rw [if_pos hif]
      simp only
      refine hk _ _ ⟨hLn, .inr ⟨b, cap, rfl, h0, hlb, rest.drop new.length, ?_, ?_⟩⟩ ⟨by simp, fun c hc hne => ?_, .inl (by simp [blk])⟩
      · rw [Array.getElem?_setIfInBounds, if_pos rfl, if_pos hbs]
        simp only [Nat.zero_add, List.toList_toArray]
        rw [← hL, setL_app _ _ _ hroom]
      · rw [List.length_append, List.length_drop]; omega
      · rw [Array.getElem?_setIfInBounds, if_neg (fun e => hne (by simp [blk, e]))]
    · have hif : 0 + m * size ≤ (L ++ rest).toArray.size := by simp [hL]
      rw [if_pos hif]
      simp only [List.toList_toArray, List.drop_zero]
      intro c hc
      have htk : (L ++ rest).take (m * size) = L := by rw [← hL, List.take_left]
      rw [htk]
      refine hk _ _ ⟨hLn, .inr ⟨_, c, rfl, hc, hlo, zeros z (c - (m + n)), by simp, ?_⟩⟩ ⟨by simp, fun c hc _ => by rw [Array.getElem?_push, if_neg (by omega)], .inr (by simp [blk])⟩
      have e1 := zeros_len T.zs (c - (m + n))
      rw [e1, List.length_append, hL, hl, ← Nat.add_mul, ← Nat.add_mul]; exact Nat.mul_le_mul_right _ (by omega)
theorem Sl.mono {h h' : Heap} {lo e size m : Nat} {v : Value} {L : List Value} (s : Sl h lo v e size m L) (k : ∀ b, blk v = some b → h'[b]? = h[b]?) : Sl h' lo v e size m L := by
  refine ⟨s.1, ?_⟩
  rcases s.2 with h0 | ⟨b, cap, rfl, hc, hlb, rest, hB, hr⟩
  · exact .inl h0
  · exact .inr ⟨b, cap, rfl, hc, hlb, rest, by rw [k b rfl]; exact hB, hr⟩
theorem Sl.blk_lt {h : Heap} {lo e size m b : Nat} {v : Value} {L : List Value} (s : Sl h lo v e size m L) (k : blk v = some b) : lo ≤ b ∧ b < h.size := by
  rcases s.2 with ⟨rfl, _⟩ | ⟨b, cap, rfl, hc, hlb, rest, hB, hr⟩
  · simp [blk] at k
  · simp only [blk, Option.some.injEq] at k; subst k; exact ⟨hlb, getElem?_lt hB⟩
theorem Sl.push {h : Heap} {lo e size m : Nat} {v : Value} {L : List Value} (s : Sl h lo v e size m L) (o : Obj) : Sl (h.push o) lo v e size m L :=
  s.mono fun b hb => by rw [Array.getElem?_push, if_neg (by have := (s.blk_lt hb).2; omega)]
theorem Sl.nil (h : Heap) (lo e size : Nat) : Sl h lo (.slice none 0 0) e size 0 [] := ⟨by simp, .inl ⟨rfl, rfl⟩⟩
/-- the cell under an index. -/
theorem Sl.cell {h : Heap} {lo e m : Nat} {v : Value} {L : List Value} (s : Sl h lo v e 1 m L) {i : Nat} {u : Value} (hu : L[i]? = some u) : ∃ b cap, v = .slice (some ⟨b, 0, none⟩) m cap ∧ i < m ∧ m ≤ cap ∧ cellO i h[b]? = some u := by
  have hi : i < L.length := (List.getElem?_eq_some_iff.1 hu).1
  have hm : L.length = m := by have := s.1; omega
  rcases s.2 with ⟨rfl, h0⟩ | ⟨b, cap, rfl, hc, hlb, rest, hB, hr⟩
  · omega
  · refine ⟨b, cap, rfl, by omega, hc, ?_⟩
    rw [hB]
    show (L ++ rest).toArray[i]? = some u
    rw [List.getElem?_toArray]
    rw [List.getElem?_append_left hi, hu]
theorem Grow.keeps {h h' : Heap} {v v' : Value} {lo : Nat} (g : Grow h v h' v') (hb : ∀ b, blk v = some b → lo ≤ b) (hlo : lo ≤ h.size) : Keeps lo h h' :=
  ⟨g.1, fun c hc => g.2.1 c (by omega) fun e => by have := hb c e; omega⟩
end Go.SX
namespace Go.SX
def M4 : BitVec 64 := 4294967295#64
def M8 : BitVec 64 := BitVec.allOnes 64
theorem mask4 : shrI .u64 18446744073709551615 32 = (M4.toNat : Int) := by decide
theorem mask8 : shrI .u64 18446744073709551615 0 = (M8.toNat : Int) := by decide
def sx4 (a : BitVec 64) : BitVec 64 := (a <<< 32).sshiftRight 32
def sx8 (a : BitVec 64) : BitVec 64 := (a <<< 0).sshiftRight 0
/-- what an operator stores; 'a', 'b': cut to size; 's', 't': the same with their sign. -/
def amo (M : BitVec 64) (k : Int) (a b s t : BitVec 64) : Option (BitVec 64) :=
  if k = 65 then some b else if k = 66 then some ((a + b) &&& M) else if k = 67 then some (a ^^^ b) else if k = 68 then some (a &&& b) else if k = 69 then some (a ||| b)
  else if k = 70 then some (if SLt t s then b else a) else if k = 71 then some (if SLt s t then b else a)
  else if k = 72 then some (if b < a then b else a) else if k = 73 then some (if a < b then b else a) else none
def told : Option (BitVec 64) → Value
  | some r => .tuple #[U r, .bool true]
  | none => .tuple #[.int .u64 0, .bool false]
theorem tmin {a b : BitVec 64} : (if (b.toNat : Int) < a.toNat then (b.toNat : Int) else a.toNat) = (((if b < a then b else a) : BitVec 64).toNat : Int) := by
  simp only [bv_ltu]; split <;> rfl
theorem tmax {a b : BitVec 64} : (if (a.toNat : Int) < b.toNat then (b.toNat : Int) else a.toNat) = (((if a < b then b else a) : BitVec 64).toNat : Int) := by
  simp only [bv_ltu]; split <;> rfl
/-- the operators that are asked for. -/
def amoT (M : BitVec 64) (k : Int) (a b s t : BitVec 64) : BitVec 64 :=
  if k = 65 then b else if k = 66 then (a + b) &&& M else if k = 67 then a ^^^ b else if k = 68 then a &&& b else if k = 69 then a ||| b
  else if k = 70 then (if SLt t s then b else a) else if k = 71 then (if SLt s t then b else a)
  else if k = 72 then (if b < a then b else a) else (if a < b then b else a)
section
variable {M : BitVec 64} {sx : BitVec 64 → BitVec 64}
def G (M : BitVec 64) (sx : BitVec 64 → BitVec 64) (k : Int) (a b : BitVec 64) : BitVec 64 := amoT M k (a &&& M) (b &&& M) (sx (a &&& M)) (sx (b &&& M))
end
end Go.SX
namespace Go.SX
/-- the first 'n' bytes of 'x', least first. -/
def bytesOf (x n : Nat) : List Nat := (List.range n).map fun j => x / 256 ^ j % 256
def le : List Nat → Nat
  | [] => 0
  | b :: r => b + 256 * le r
theorem bytesOf_succ (x n : Nat) : bytesOf x (n + 1) = bytesOf x n ++ [x / 256 ^ n % 256] := by simp [bytesOf, List.range_succ]
theorem bytesOf_len (x n : Nat) : (bytesOf x n).length = n := by simp [bytesOf]
theorem le_app : ∀ (l : List Nat) (b : Nat), le (l ++ [b]) = le l + b * 256 ^ l.length
  | [], b => by simp [le]
  | c :: l, b => by
    have := le_app l b
    simp only [List.cons_append, le, this, List.length_cons, Nat.pow_succ, Nat.mul_add]
    rw [Nat.add_assoc]; congr 2
    rw [Nat.mul_left_comm, Nat.mul_comm 256 (256 ^ l.length)]
theorem le_lt : ∀ (l : List Nat), (∀ b ∈ l, b < 256) → le l < 256 ^ l.length
  | [], _ => by simp [le]
  | b :: r, h => by
    have h1 := le_lt r fun c hc => h c (by simp [hc])
    have h2 := h b (by simp)
    simp only [le, List.length_cons, Nat.pow_succ]; omega
theorem bytesOf_lt {x n b : Nat} (h : b ∈ bytesOf x n) : b < 256 := by
  simp only [bytesOf, List.mem_map] at h; obtain ⟨j, _, rfl⟩ := h; exact Nat.mod_lt _ (by decide)
theorem pow_256 (n : Nat) : 256 ^ n = 2 ^ (8 * n) := by rw [Nat.pow_mul]
theorem wrap_u8 (n : Int) : IntKind.u8.wrap n = n % 256 := by simp [IntKind.wrap, IntKind.bits, IntKind.signed]
/-- uint64(b) << 8i. -/
theorem shl_byte (b i : Nat) (hb : b < 256) (hi : i < 8) : shlI .u64 (b : Int) (8 * (i : Int)) = ((b * 256 ^ i : Nat) : Int) := by
  have e : (8 * (i : Int)) = ((8 * i : Nat) : Int) := by omega
  have h1 : b * 256 ^ i < 256 ^ 8 := by
    have : (256 : Nat) ^ i * 256 ≤ 256 ^ 8 := by rw [← Nat.pow_succ]; exact Nat.pow_le_pow_right (by decide) (by omega)
    have h2 : b * 256 ^ i ≤ 255 * 256 ^ i := Nat.mul_le_mul_right _ (by omega)
    have h3 : 0 < 256 ^ i := Nat.pow_pos (by decide)
    omega
  have h2 := bv_shl (BitVec.ofNat 64 b) (8 * i) (by omega)
  rw [e]
  have hb' : (BitVec.ofNat 64 b).toNat = b := by simp; omega
  rw [hb'] at h2
  rw [h2, pow_256]
  simp only [BitVec.toNat_shiftLeft, hb', Nat.shiftLeft_eq]
  rw [Nat.mod_eq_of_lt]
  rw [← pow_256]; omega
section
variable {M : BitVec 64} {sx : BitVec 64 → BitVec 64} {A X : BitVec 64}
end
end Go.SX
namespace Go.SX
open Go.RowKit
variable {P : Program}
theorem h_pushE (h : Heap) (x : Obj) (b : Nat) (hb : b = h.size) : (h.push x)[b]? = some x := by subst hb; simp
theorem h_setPE (h : Heap) (x y : Obj) (b : Nat) (hb : b = h.size) : (h.push x).setIfInBounds b y = h.push y := by
  subst hb; apply Array.ext_getElem?; intro i; simp only [Array.getElem?_setIfInBounds, Array.getElem?_push, Array.size_push]; grind
theorem h_setPL (h : Heap) (x y : Obj) (b : Nat) (hb : b < h.size) : (h.push x).setIfInBounds b y = (h.setIfInBounds b y).push x := by
  apply Array.ext_getElem?; intro i; simp only [Array.getElem?_setIfInBounds, Array.getElem?_push, Array.size_push, Array.size_setIfInBounds]; grind
theorem h_setSS (h : Heap) (x y : Obj) (b : Nat) : (h.setIfInBounds b x).setIfInBounds b y = h.setIfInBounds b y := by
  apply Array.ext_getElem?; intro i; simp only [Array.getElem?_setIfInBounds, Array.size_setIfInBounds]; grind
def eqSl (r : Bool) : Option TypeDesc → Option Value | some (.slice _) => some (.bool r) | _ => none
theorem eqSl_t (r : Bool) (e : TypeId) : eqSl r (some (.slice e)) = some (.bool r) := Eq.trans (Eq.refl _) rfl
theorem b_sn (P : Program) (t : TypeId) (x y : Operand) (n c m d : Nat) : binV P .eql t x y (.slice none n c) (.slice none m d) = eqSl true (P.underlying t) := by
  simp only [binV, quietEq, eqIn]; cases P.underlying t with | none => rfl | some u => cases u <;> rfl
theorem b_ss (P : Program) (t : TypeId) (x y : Operand) (a : Addr) (n c m d : Nat) : binV P .eql t x y (.slice (some a) n c) (.slice none m d) = eqSl false (P.underlying t) := by
  simp only [binV, quietEq, eqIn]; cases P.underlying t with | none => rfl | some u => cases u <;> rfl
attribute [go_sem] eqSl_t b_sn b_ss
theorem tn_1 (n : Nat) : ((n : Int) + 1).toNat = n + 1 := by omega
attribute [go_sem] tn_1 Nat.sub_zero h_pushE h_setPE h_setPL h_setSS Int.lt_irrefl not_false_eq_true true_implies false_implies
theorem mk_agg3 (a b c : Value) : mkCells (.agg #[a, b, c]) 3 = [a, b, c] := mk_agg _ _ rfl
attribute [go_sem] mk_agg3
theorem rep_0 (v : Value) : List.replicate 0 v = [] := rfl
theorem rep_1 (v : Value) : List.replicate 1 v = [v] := rfl
theorem rep_2 (v : Value) : List.replicate 2 v = [v, v] := rfl
attribute [go_sem] List.length_replicate rep_0 rep_1 rep_2
theorem Keeps.refl' {n : Nat} {h : Heap} : Keeps n h h := Keeps.refl n h
theorem Keeps.push' {n : Nat} {h h' : Heap} {o : Obj} (k : Keeps n h h') (hn : n ≤ h.size) : Keeps n h (h'.push o) := k.trans (Keeps.push h' o (Nat.le_trans hn k.1))
theorem Keeps.set' {n : Nat} {h h' : Heap} {b : Nat} {o : Obj} (k : Keeps n h h') (hn : n ≤ b) : Keeps n h (h'.setIfInBounds b o) := k.trans (Keeps.set o hn)
theorem Keeps.at {n : Nat} {h h' : Heap} (k : Keeps n h h') {b : Nat} {o : Obj} (hb : h[b]? = some o) (hn : b < n) : h'[b]? = some o := by rw [k.old b hn, hb]
theorem Keeps.of_ext {n : Nat} {h h' h'' : Heap} (k : Keeps n h h') (k' : Keeps h'.size h' h'') (hn : n ≤ h.size) : Keeps n h h'' := k.trans (k'.le (Nat.le_trans hn k.1))
/-- the cells of a slice: 'm' elements of 'size' cells. -/
def Vw (h : Heap) (v : Value) (size m : Nat) (L : List Value) : Prop :=
  L.length = m * size ∧ ((v = .slice none 0 0 ∧ m = 0) ∨ ∃ b o cap c e f, v = .slice (some ⟨b, o, none⟩) m cap ∧ m ≤ cap ∧ h[b]? = some (.cells c e f) ∧ o + m * size ≤ c.size ∧ (c.toList.drop o).take (m * size) = L)
theorem Vw.nil (h : Heap) (size : Nat) : Vw h (.slice none 0 0) size 0 [] := ⟨by simp, .inl ⟨rfl, rfl⟩⟩
theorem Vw.mono {h h' : Heap} {v : Value} {size m : Nat} {L : List Value} (s : Vw h v size m L) (k : ∀ b, blk v = some b → h'[b]? = h[b]?) : Vw h' v size m L := by
  refine ⟨s.1, ?_⟩
  rcases s.2 with h0 | ⟨b, o, cap, c, e, f, rfl, hc, hB, hr⟩
  · exact .inl h0
  · exact .inr ⟨b, o, cap, c, e, f, rfl, hc, by rw [k b rfl]; exact hB, hr⟩
theorem Vw.blk_lt {h : Heap} {v : Value} {size m b : Nat} {L : List Value} (s : Vw h v size m L) (k : blk v = some b) : b < h.size := by
  rcases s.2 with ⟨rfl, _⟩ | ⟨b, o, cap, c, e, f, rfl, hc, hB, hr⟩
  · simp [blk] at k
  · simp only [blk, Option.some.injEq] at k; subst k; exact getElem?_lt hB
theorem Vw.keeps {n : Nat} {h h' : Heap} {v : Value} {size m : Nat} {L : List Value} (s : Vw h v size m L) (k : Keeps n h h') (hb : ∀ b, blk v = some b → b < n) : Vw h' v size m L := s.mono fun b e => k.old b (hb b e)
theorem Vw.ext {h h' : Heap} {v : Value} {size m : Nat} {L : List Value} (s : Vw h v size m L) (k : Keeps h.size h h') : Vw h' v size m L := s.keeps k fun _ e => s.blk_lt e
theorem Sl.vw {h : Heap} {lo e size m : Nat} {v : Value} {L : List Value} (s : Sl h lo v e size m L) : Vw h v size m L := by
  refine ⟨s.1, ?_⟩
  rcases s.2 with h0 | ⟨b, cap, rfl, hc, hlb, rest, hB, hr⟩
  · exact .inl h0
  · refine .inr ⟨b, 0, cap, _, e, _, rfl, hc, hB, ?_, ?_⟩
    · have := s.1; simp; omega
    · rw [← s.1]; simp
theorem Vw.shape {h : Heap} {v : Value} {size m : Nat} {L : List Value} (s : Vw h v size m L) : ∃ a cap, v = .slice a m cap ∧ m ≤ cap := by
  rcases s.2 with ⟨rfl, rfl⟩ | ⟨b, o, cap, c, e, f, rfl, hc, _⟩
  · exact ⟨none, 0, rfl, Nat.le_refl _⟩
  · exact ⟨_, cap, rfl, hc⟩
/-- a slice that has an element has a block. -/
theorem Vw.open {h : Heap} {v : Value} {size m i : Nat} {L : List Value} (s : Vw h v size m L) (hi : i < m) : ∃ b o cap, v = .slice (some ⟨b, o, none⟩) m cap ∧ m ≤ cap ∧ b < h.size := by
  rcases s.2 with ⟨rfl, rfl⟩ | ⟨b, o, cap, c, e, f, rfl, hc, hB, _⟩
  · omega
  · exact ⟨b, o, cap, rfl, hc, getElem?_lt hB⟩
theorem Vw.cells {h : Heap} {b o cap size m i : Nat} {L : List Value} (s : Vw h (.slice (some ⟨b, o, none⟩) m cap) size m L) (hi : i < m) : cellsO (o + i * size) size h[b]? = some ((L.drop (i * size)).take size) := by
  rcases s.2 with ⟨h0, _⟩ | ⟨b', o', cap', c, e, f, hv, hc, hB, hr, hL⟩
  · cases h0
  · cases hv
    have hm : (i + 1) * size ≤ m * size := Nat.mul_le_mul_right _ (by omega)
    rw [Nat.add_mul, Nat.one_mul] at hm
    rw [hB]
    simp only [cellsO]
    rw [if_pos (by omega), ← hL, List.drop_take, List.take_take, List.drop_drop, Nat.min_eq_left (by omega)]
theorem Vw.cell {h : Heap} {b o cap m i : Nat} {L : List Value} (s : Vw h (.slice (some ⟨b, o, none⟩) m cap) 1 m L) (hi : i < m) : cellO (o + i * 1) h[b]? = L[i]? := by
  rcases s.2 with ⟨h0, _⟩ | ⟨b', o', cap', c, e, f, hv, hc, hB, hr, hL⟩
  · cases h0
  · cases hv
    rw [hB, Nat.mul_one]
    simp only [cellO]
    rw [← hL, List.getElem?_take, if_pos (by omega), List.getElem?_drop, Array.getElem?_toList]
theorem Vw.src {h : Heap} {v : Value} {size m : Nat} {L : List Value} (s : Vw h v size m L) {k : Nat} (hk : k ≤ m) : srcCells h (k * size) v = some (L.take (k * size)) := by
  have hm : k * size ≤ m * size := Nat.mul_le_mul_right _ hk
  rcases s.2 with ⟨rfl, rfl⟩ | ⟨b, o, cap, c, e, f, rfl, hc, hB, hr, hL⟩
  · have h1 := s.1
    have h0 : L = [] := by simpa using h1
    subst h0; simp [srcCells]
  · simp only [srcCells, cells?, hB]
    rw [if_pos (by omega), ← hL, List.take_take, Nat.min_eq_left hm]
theorem Vw.srcAll {h : Heap} {v : Value} {size m : Nat} {L : List Value} (s : Vw h v size m L) : srcCells h (m * size) v = some L := by
  rw [s.src (Nat.le_refl m), ← s.1, List.take_length]
theorem Vw.srcMid {h : Heap} {b o cap size m i k : Nat} {L : List Value} (s : Vw h (.slice (some ⟨b, o, none⟩) m cap) size m L) (hi : i + k ≤ m) (m' c' : Nat) : srcCells h (k * size) (.slice (some ⟨b, o + i * size, none⟩) m' c') = some ((L.drop (i * size)).take (k * size)) := by
  rcases s.2 with ⟨h0, _⟩ | ⟨b', o', cap', c, e, f, hv, hc, hB, hr, hL⟩
  · cases h0
  · cases hv
    have hm : i * size + k * size ≤ m * size := by rw [← Nat.add_mul]; exact Nat.mul_le_mul_right _ hi
    simp only [srcCells, cells?, hB]
    rw [if_pos (by omega), ← hL, List.drop_take, List.take_take, List.drop_drop, Nat.min_eq_left (by omega)]
theorem Vw.srcDrop {h : Heap} {b o cap size m i : Nat} {L : List Value} (s : Vw h (.slice (some ⟨b, o, none⟩) m cap) size m L) (hi : i ≤ m) (m' c' : Nat) : srcCells h ((m - i) * size) (.slice (some ⟨b, o + i * size, none⟩) m' c') = some (L.drop (i * size)) := by
  rw [s.srcMid (by omega) m' c', List.take_of_length_le]
  rw [List.length_drop, s.1, Nat.sub_mul]; omega
theorem Vw.len {h : Heap} {v : Value} {size m : Nat} {L : List Value} (s : Vw h v size m L) : lenOfV v = some m := by
  obtain ⟨a, cap, rfl, _⟩ := s.shape; rfl
section lists
variable {α : Type} {enc : α → List Value} {size : Nat}
def flat (enc : α → List Value) (xs : List α) : List Value := xs.flatMap enc
theorem flat_nil : flat enc [] = [] := rfl
theorem flat_cons (x : α) (xs : List α) : flat enc (x :: xs) = enc x ++ flat enc xs := rfl
theorem flat_app (xs ys : List α) : flat enc (xs ++ ys) = flat enc xs ++ flat enc ys := List.flatMap_append
theorem flat_all (he : ∀ x, (enc x).all one = true) (xs : List α) : (flat enc xs).all one = true := by
  simp only [flat, List.all_flatMap]
  exact List.all_eq_true.2 fun x _ => he x
theorem flat_len (he : ∀ x, (enc x).length = size) (xs : List α) : (flat enc xs).length = xs.length * size := by
  induction xs with
  | nil => simp [flat]
  | cons x xs ih => rw [flat_cons, List.length_append, he, ih, List.length_cons, Nat.add_mul, Nat.one_mul, Nat.add_comm]
theorem flat_drop (he : ∀ x, (enc x).length = size) : ∀ (i : Nat) (xs : List α), (flat enc xs).drop (i * size) = flat enc (xs.drop i)
  | 0, xs => by simp
  | i + 1, [] => by simp [flat]
  | i + 1, x :: xs => by
    rw [flat_cons, List.drop_succ_cons, ← flat_drop he i xs, Nat.add_mul, Nat.one_mul, Nat.add_comm, ← List.drop_drop, ← he x, List.drop_left]
theorem flat_take (he : ∀ x, (enc x).length = size) : ∀ (i : Nat) (xs : List α), (flat enc xs).take (i * size) = flat enc (xs.take i)
  | 0, xs => by simp [flat]
  | i + 1, [] => by simp [flat]
  | i + 1, x :: xs => by
    rw [flat_cons, List.take_succ_cons, flat_cons, ← flat_take he i xs, Nat.add_mul, Nat.one_mul, Nat.add_comm, ← he x, List.take_length_add_append]
/-- a slice of things. -/
def Vs (h : Heap) (v : Value) (enc : α → List Value) (size : Nat) (xs : List α) : Prop := Vw h v size xs.length (flat enc xs)
theorem Vs.nil (h : Heap) : Vs h (.slice none 0 0) enc size [] := Vw.nil h size
theorem Vs.mono {h h' : Heap} {v : Value} {xs : List α} (s : Vs h v enc size xs) (k : ∀ b, blk v = some b → h'[b]? = h[b]?) : Vs h' v enc size xs := Vw.mono s k
theorem Vs.blk_lt {h : Heap} {v : Value} {b : Nat} {xs : List α} (s : Vs h v enc size xs) (k : blk v = some b) : b < h.size := Vw.blk_lt s k
theorem Vs.keeps {n : Nat} {h h' : Heap} {v : Value} {xs : List α} (s : Vs h v enc size xs) (k : Keeps n h h') (hb : ∀ b, blk v = some b → b < n) : Vs h' v enc size xs := Vw.keeps s k hb
theorem Vs.ext {h h' : Heap} {v : Value} {xs : List α} (s : Vs h v enc size xs) (k : Keeps h.size h h') : Vs h' v enc size xs := Vw.ext s k
theorem Vs.shape {h : Heap} {v : Value} {xs : List α} (s : Vs h v enc size xs) : ∃ a cap, v = .slice a xs.length cap ∧ xs.length ≤ cap := Vw.shape s
theorem Vs.open {h : Heap} {v : Value} {i : Nat} {xs : List α} (s : Vs h v enc size xs) (hi : i < xs.length) : ∃ b o cap, v = .slice (some ⟨b, o, none⟩) xs.length cap ∧ xs.length ≤ cap ∧ b < h.size := Vw.open s hi
theorem Vs.elem (he : ∀ x, (enc x).length = size) {h : Heap} {b o m cap i : Nat} {xs : List α} (s : Vs h (.slice (some ⟨b, o, none⟩) m cap) enc size xs) (hi : i < xs.length) : cellsO (o + i * size) size h[b]? = some (enc xs[i]) := by
  have hm : m = xs.length := by obtain ⟨_, _, e, _⟩ := s.shape; simp only [Value.slice.injEq] at e; exact e.2.1
  subst hm
  rw [Vw.cells s hi, flat_drop he]
  have h1 : size = 1 * size := by omega
  have h2 := flat_take he 1 (xs.drop i)
  rw [Nat.one_mul] at h2
  rw [h2, List.drop_eq_getElem_cons hi, List.take_succ_cons, List.take_zero, flat_cons, flat_nil, List.append_nil]
theorem Vs.field (he : ∀ x, (enc x).length = size) {h : Heap} {b o m cap i j : Nat} {xs : List α} (s : Vs h (.slice (some ⟨b, o, none⟩) m cap) enc size xs) (hi : i < xs.length) (hj : j < size) : cellO (o + i * size + j) h[b]? = (enc xs[i])[j]? := by
  have h1 := s.elem he hi
  cases hb : h[b]? with
  | none => rw [hb] at h1; simp [cellsO] at h1
  | some x =>
    rw [hb] at h1
    cases x <;> simp only [cellsO] at h1 <;> try (cases h1; done)
    rename_i c e f
    split at h1
    · simp only [Option.some.injEq] at h1
      simp only [cellO]
      rw [← h1, List.getElem?_take, if_pos hj, List.getElem?_drop, Array.getElem?_toList]
    · cases h1
/-- a slice of things of one's own. -/
def Ss (h : Heap) (lo : Nat) (v : Value) (e : Nat) (enc : α → List Value) (size : Nat) (xs : List α) : Prop := Sl h lo v e size xs.length (flat enc xs)
theorem Ss.vs {h : Heap} {lo e : Nat} {v : Value} {xs : List α} (s : Ss h lo v e enc size xs) : Vs h v enc size xs := Sl.vw s
theorem Ss.mono {h h' : Heap} {lo e : Nat} {v : Value} {xs : List α} (s : Ss h lo v e enc size xs) (k : ∀ b, blk v = some b → h'[b]? = h[b]?) : Ss h' lo v e enc size xs := Sl.mono s k
theorem Ss.ext {h h' : Heap} {lo e : Nat} {v : Value} {xs : List α} (s : Ss h lo v e enc size xs) (k : Keeps h.size h h') : Ss h' lo v e enc size xs := s.mono fun b hb => k.old b (s.vs.blk_lt hb)
theorem Ss.le {h : Heap} {lo lo' e : Nat} {v : Value} {xs : List α} (s : Ss h lo v e enc size xs) (hl : lo' ≤ lo) : Ss h lo' v e enc size xs := by
  refine ⟨s.1, ?_⟩
  rcases s.2 with h0 | ⟨b, cap, rfl, hc, hlb, hr⟩
  · exact .inl h0
  · exact .inr ⟨b, cap, rfl, hc, by omega, hr⟩
theorem Ss.blk {h : Heap} {lo e b : Nat} {v : Value} {xs : List α} (s : Ss h lo v e enc size xs) (k : blk v = some b) : lo ≤ b ∧ b < h.size := Sl.blk_lt s k
theorem Ss.nil (h : Heap) (lo e : Nat) : Ss h lo (.slice none 0 0) e enc size [] := Sl.nil h lo e size
theorem Ss.push {h : Heap} {lo e : Nat} {v : Value} {xs : List α} (s : Ss h lo v e enc size xs) (o : Obj) : Ss (h.push o) lo v e enc size xs := Sl.push s o
/-- one more, out of the block that 'append' is handed. -/
theorem app_one {h : Heap} {t e by_ lo bx cx : Nat} {f : Nat × Nat} {z v : Value} {L : List Value} {xs : List α} {x : α} {K : Value → Heap → Prop} (T : ElT P t e size by_ z) (he : ∀ x, (enc x).length = size) (hv : Ss h lo v e enc size xs)
    (hx : h[bx]? = some (.cells L.toArray e f)) (hL : L = enc x) (ho : (enc x).all one = true) (hb : (xs.length + 1) * by_ ≤ 140737488355328) (hlo : lo ≤ h.size)
    (hk : ∀ v' h', Ss h' lo v' e enc size (xs ++ [x]) → Keeps lo h h' → (∀ c, c < h.size → blk v ≠ some c → h'[c]? = h[c]?) → (blk v' = blk v ∨ blk v' = some h.size) → K v' h') : @appK P h t t v (.slice (some ⟨bx, 0, none⟩) 1 cx) ⟨K⟩ := by
  subst hL
  refine app_sl T hv (n := 1) (new := enc x) rfl ?_ (by rw [he]; omega) ho hb rfl hlo ?_
  · simp only [srcCells, cells?, hx]
    rw [if_pos (by simp [he])]
    simp [← he x]
  · intro v' h' hs hg
    refine hk v' h' ?_ (hg.keeps (fun b hb => (hv.blk hb).1) hlo) (fun c hc hn => hg.2.1 c hc hn) hg.2.2
    unfold Ss
    rw [List.length_append, flat_app]
    simpa [flat] using hs
/-- one more, out of a block that was just made. -/
theorem app_push {h : Heap} {t e by_ lo bx cx : Nat} {z v : Value} {L : List Value} {xs : List α} {K : Value → Heap → Prop} (x : α) (T : ElT P t e size by_ z) (he : ∀ x, (enc x).length = size) (hv : Ss h lo v e enc size xs)
    (hbx : bx = h.size) (hL : L = enc x) (ho : (enc x).all one = true) (hb : (xs.length + 1) * by_ ≤ 140737488355328) (hlo : lo ≤ h.size)
    (hk : ∀ v' h', Ss h' lo v' e enc size (xs ++ [x]) → Keeps lo h h' → (∀ c, c < h.size → blk v ≠ some c → h'[c]? = h[c]?) → (∀ b, blk v' = some b → blk v = some b ∨ h.size ≤ b) → K v' h') :
    @appK P (h.push (.cells L.toArray e (0, 0))) t t v (.slice (some ⟨bx, 0, none⟩) 1 cx) ⟨K⟩ := by
  refine app_one (x := x) T he (hv.push _) (bx := bx) (L := L) (f := (0, 0)) (by subst hbx; simp) hL ho hb (by simp; omega) ?_
  intro v' h' S' K' F' B'
  refine hk v' h' S' ((Keeps.push h _ hlo).trans K') (fun c hc hn => ?_) (fun b hb => ?_)
  · rw [F' c (by simp; omega) hn, Array.getElem?_push, if_neg (by omega)]
  · rcases B' with e | e
    · exact .inl (by rw [← e, hb])
    · right; rw [hb] at e; simp at e; omega
theorem setL_len : ∀ (L : List Value) (o : Nat) (vs : List Value), (setL L o vs).length = L.length
  | [], o, vs => by simp [setL]
  | c :: cs, 0, v :: vs => by simp [setL, setL_len cs 0 vs]
  | c :: cs, 0, [] => by simp [setL]
  | c :: cs, o + 1, vs => by simp [setL, setL_len cs o vs]
theorem setL_right : ∀ (A B : List Value) (o : Nat) (vs : List Value), setL (A ++ B) (A.length + o) vs = A ++ setL B o vs
  | [], B, o, vs => by simp
  | a :: A, B, o, vs => by
    have := setL_right A B o vs
    rw [List.cons_append, List.length_cons, Nat.add_right_comm]
    simp [setL, this]
theorem setL_left : ∀ (A B : List Value) (o : Nat) (vs : List Value), o + vs.length ≤ A.length → setL (A ++ B) o vs = setL A o vs ++ B
  | [], B, o, vs, h => by
    have : vs = [] := by cases vs with | nil => rfl | cons v vs => simp at h
    subst this; rw [List.nil_append, setL_nil, setL_nil]; rfl
  | a :: A, B, 0, [], h => by simp [setL]
  | a :: A, B, 0, v :: vs, h => by
    have := setL_left A B 0 vs (by simp at h ⊢; omega)
    simp [setL, this]
  | a :: A, B, o + 1, vs, h => by
    have := setL_left A B o vs (by simp at h ⊢; omega)
    simp [setL, this]
theorem flat_set (he : ∀ x, (enc x).length = size) (x' : α) (j : Nat) (vs : List Value) : ∀ (xs : List α) (i : Nat) (hi : i < xs.length), j + vs.length ≤ size → enc x' = setL (enc xs[i]) j vs → setL (flat enc xs) (i * size + j) vs = flat enc (xs.set i x')
  | [], i, hi, _, _ => by simp at hi
  | x :: xs, 0, hi, hj, hx => by
    rw [flat_cons, Nat.zero_mul, Nat.zero_add, setL_left _ _ _ _ (by rw [he]; exact hj), List.set_cons_zero, flat_cons, hx]; rfl
  | x :: xs, i + 1, hi, hj, hx => by
    have := flat_set he x' j vs xs i (by simpa using hi) hj hx
    rw [flat_cons, Nat.add_mul, Nat.one_mul, Nat.add_comm (i * size), Nat.add_assoc, ← he x, setL_right, he x, this, List.set_cons_succ, flat_cons]
/-- a store into a part of an element of one's own. -/
theorem Ss.store (he : ∀ x, (enc x).length = size) {h : Heap} {lo e b o m cap i j : Nat} {xs : List α} {vs : List Value} (s : Ss h lo (.slice (some ⟨b, o, none⟩) m cap) e enc size xs) (x' : α) (hi : i < xs.length) (hj : j + vs.length ≤ size)
    (hx : enc x' = setL (enc xs[i]) j vs) (ho : vs.all one = true) : ∃ h', wrO h b (o + i * size + j) vs h[b]? = some h' ∧ Ss h' lo (.slice (some ⟨b, o, none⟩) m cap) e enc size (xs.set i x') ∧ h'.size = h.size ∧ Keeps lo h h' ∧ ∀ c, c ≠ b → h'[c]? = h[c]? := by
  rcases s.2 with ⟨h0, _⟩ | ⟨b', cap', hv, hc, hlb, rest, hB, hr⟩
  · cases h0
  · cases hv
    have h1 := s.1
    have h2 := flat_len he xs
    have hm : (i + 1) * size ≤ xs.length * size := Nat.mul_le_mul_right _ (by omega)
    rw [Nat.add_mul, Nat.one_mul] at hm
    have hbs := getElem?_lt hB
    rw [hB, h_wrO, if_pos ⟨by simp; omega, ho⟩]
    refine ⟨_, rfl, ⟨by rw [List.length_set, flat_len he, List.length_set], .inr ⟨b, cap, by rw [List.length_set], by rw [List.length_set]; exact hc, hlb, rest, ?_, ?_⟩⟩, by simp, Keeps.set _ hlb, fun c hc => by rw [Array.getElem?_setIfInBounds, if_neg (Ne.symm hc)]⟩
    · rw [Array.getElem?_setIfInBounds, if_pos rfl, if_pos hbs, Nat.zero_add, List.toList_toArray, setL_left _ _ _ _ (by omega), flat_set he x' j vs xs i hi hj hx]
    · rw [flat_len he, List.length_set]; omega
theorem Ss.mk (he : ∀ x, (enc x).length = size) {h : Heap} {lo e b m cap : Nat} {xs : List α} {C : List Value} (rest : List Value) (hb : h[b]? = some (.cells C.toArray e (0, 0))) (hC : C = flat enc xs ++ rest) (hm : m = xs.length) (hc : m ≤ cap) (hr : cap * size ≤ C.length) (hlo : lo ≤ b) :
    Ss h lo (.slice (some ⟨b, 0, none⟩) m cap) e enc size xs := by
  subst hm
  refine ⟨flat_len he xs, .inr ⟨b, cap, rfl, hc, hlo, rest, by rw [hb, hC], ?_⟩⟩
  rw [hC, List.length_append] at hr; exact hr
theorem Ss.open {h : Heap} {lo e : Nat} {v : Value} {xs : List α} (s : Ss h lo v e enc size xs) {i : Nat} (hi : i < xs.length) : ∃ b cap, v = .slice (some ⟨b, 0, none⟩) xs.length cap ∧ xs.length ≤ cap ∧ lo ≤ b ∧ b < h.size := by
  rcases s.2 with ⟨_, h0⟩ | ⟨b, cap, rfl, hc, hlb, rest, hB, hr⟩
  · omega
  · exact ⟨b, cap, rfl, hc, hlb, getElem?_lt hB⟩
end lists
end Go.SX
namespace Go.SX
open Go.RowKit
variable {P : Program}
theorem eraseIdx_map' {α β : Type} (f : α → β) : ∀ (xs : List α) (j : Nat), (xs.map f).eraseIdx j = (xs.eraseIdx j).map f
  | [], j => by simp
  | x :: xs, 0 => by simp
  | x :: xs, j + 1 => by simp [eraseIdx_map' f xs j]
section maps
variable {β : Type} {k : IntKind} {kf : β → Int} {vf : β → Value} {bf : β → Nat}
def ent (k : IntKind) (kf : β → Int) (vf : β → Value) (bf : β → Nat) (x : β) : MapEntry := ⟨.int k (kf x), vf x, bf x⟩
def entA (k : IntKind) (kf : β → Int) (vf : β → Value) (bf : β → Nat) (xs : List β) : Array MapEntry := (xs.map (ent k kf vf bf)).toArray
def fnd (kf : β → Int) (vf : β → Value) (n : Int) : List β → Nat → Option (Nat × Value)
  | [], _ => none
  | x :: xs, i => if n = kf x then some (i, vf x) else fnd kf vf n xs (i + 1)
theorem findNow_ent (k : IntKind) (n : Int) : ∀ (xs : List β) (i : Nat), Instr.findNow (.int k) (.int k n) (xs.map (ent k kf vf bf)) i = some (fnd kf vf n xs i)
  | [], i => rfl
  | x :: xs, i => by
    simp only [List.map_cons, Instr.findNow, ent, Instr.sameNow, if_true, fnd]
    by_cases h : n = kf x
    · simp [h]
    · have hb : (n == kf x) = false := by simpa using h
      rw [hb, if_neg h]
      exact findNow_ent k n xs (i + 1)
theorem fnd_none (n : Int) : ∀ (xs : List β) (i : Nat), (∀ x ∈ xs, kf x ≠ n) → fnd kf vf n xs i = none
  | [], i, _ => rfl
  | x :: xs, i, h => by
    simp only [fnd]
    rw [if_neg (fun e => h x (by simp) e.symm)]
    exact fnd_none n xs (i + 1) fun y hy => h y (by simp [hy])
theorem fnd_some (n : Int) : ∀ (xs : List β) (i : Nat) (j : Nat) (hj : j < xs.length), kf xs[j] = n → (∀ a (ha : a < j), kf (xs[a]'(by omega)) ≠ n) → fnd kf vf n xs i = some (i + j, vf xs[j])
  | [], i, j, hj, _, _ => by simp at hj
  | x :: xs, i, 0, _, h, _ => by
    simp only [fnd]
    simp at h
    rw [if_pos h.symm]; rfl
  | x :: xs, i, j + 1, hj, h, hb => by
    simp only [fnd]
    have h0 := hb 0 (by omega)
    simp at h0
    rw [if_neg (fun e => h0 e.symm)]
    have := fnd_some n xs (i + 1) j (by simpa using hj) (by simpa using h) (fun a ha => by have := hb (a + 1) (by omega); simpa using this)
    rw [this]
    simp; omega
/-- is there one, and where. -/
theorem fnd_cases (n : Int) (xs : List β) : (∀ x ∈ xs, kf x ≠ n) ∨ ∃ j, ∃ hj : j < xs.length, kf xs[j] = n ∧ ∀ a (ha : a < j), kf (xs[a]'(by omega)) ≠ n := by
  induction xs with
  | nil => left; intro x hx; cases hx
  | cons x xs ih =>
    by_cases h : kf x = n
    · right; exact ⟨0, by simp, h, fun a ha => by omega⟩
    · rcases ih with h1 | ⟨j, hj, h2, h3⟩
      · left; intro y hy; rcases List.mem_cons.1 hy with rfl | hy
        · exact h
        · exact h1 y hy
      · right; refine ⟨j + 1, by simpa using hj, h2, fun a ha => ?_⟩
        cases a with
        | zero => exact h
        | succ a => exact h3 a (by omega)
variable {h : Heap} {t tk te r c : Nat} {n : Int} {xs : List β} {z : Value}
theorem look_none (ht : P.underlying t = some (.map tk te)) (hk : P.underlying tk = some (.int k)) (hz : zeroP P te = some z) (hr : h[r]? = some (.map (entA k kf vf bf xs) c)) (hn : ∀ x ∈ xs, kf x ≠ n) (ok : Bool) :
    lookV P h t (.map (some r)) (.int k n) ok = some (if ok then .tuple #[z, .bool false] else z) := by
  simp only [lookV, ht, mapEs, hr, entA, Option.bind_some, hk, plainKey, if_true, findNow_ent, fnd_none n xs 0 hn, lookFin, hz, Option.map_some]
theorem look_some (ht : P.underlying t = some (.map tk te)) (hk : P.underlying tk = some (.int k)) (hr : h[r]? = some (.map (entA k kf vf bf xs) c)) {j : Nat} (hj : j < xs.length) (e : kf xs[j] = n) (hb : ∀ a (ha : a < j), kf (xs[a]'(by omega)) ≠ n) (ok : Bool) :
    lookV P h t (.map (some r)) (.int k n) ok = some (if ok then .tuple #[vf xs[j], .bool true] else vf xs[j]) := by
  simp only [lookV, ht, mapEs, hr, entA, Option.bind_some, hk, plainKey, if_true, findNow_ent, fnd_some n xs 0 j hj e hb, lookFin]
theorem mup_none {v : Value} {K : Heap → Prop} (ht : P.underlying t = some (.map tk te)) (hk : P.underlying tk = some (.int k)) (hr : h[r]? = some (.map (entA k kf vf bf xs) c)) (hn : ∀ x ∈ xs, kf x ≠ n) (x' : β) (hx : ent k kf vf bf x' = ⟨.int k n, v, c⟩)
    (K1 : K (h.setIfInBounds r (.map (entA k kf vf bf (xs ++ [x'])) (c + 1)))) : @mupK P h t (.map (some r)) (.int k n) v ⟨K⟩ := by
  unfold mupK mapUpW mapKD
  simp only [ht, hk, obind, plainKey, hr, true_and]
  simp only [entA, findNow_ent, fnd_none n xs 0 hn]
  simpa [entA, hx] using K1
theorem mup_some {v : Value} {K : Heap → Prop} (ht : P.underlying t = some (.map tk te)) (hk : P.underlying tk = some (.int k)) (hr : h[r]? = some (.map (entA k kf vf bf xs) c)) {j : Nat} (hj : j < xs.length) (e : kf xs[j] = n) (hb : ∀ a (ha : a < j), kf (xs[a]'(by omega)) ≠ n)
    (x' : β) (hx : ent k kf vf bf x' = ⟨.int k n, v, bf xs[j]⟩) (K1 : K (h.setIfInBounds r (.map (entA k kf vf bf (xs.set j x')) c))) : @mupK P h t (.map (some r)) (.int k n) v ⟨K⟩ := by
  unfold mupK mapUpW mapKD
  simp only [ht, hk, obind, plainKey, hr, true_and]
  simp only [entA, findNow_ent, fnd_some n xs 0 j hj e hb]
  have hm : ((xs.map (ent k kf vf bf)).toArray.modify (0 + j) fun e => { e with key := .int k n, val := v }) = entA k kf vf bf (xs.set j x') := by
    apply Array.ext_getElem?
    intro i
    simp only [entA, Nat.zero_add, Array.getElem?_modify, List.getElem?_toArray, List.getElem?_map, List.getElem?_set]
    by_cases hij : j = i
    · subst hij
      have hx' := hx
      simp only [ent, MapEntry.mk.injEq, Value.int.injEq, true_and] at hx'
      simp [hj, ent, hx'.1, hx'.2.1, hx'.2.2]
    · simp [hij]
  rw [hm]
  exact K1
theorem del_some {K : Value → Heap → Prop} (ht : P.underlying t = some (.map tk te)) (hk : P.underlying tk = some (.int k)) (hr : h[r]? = some (.map (entA k kf vf bf xs) c)) {j : Nat} (hj : j < xs.length) (e : kf xs[j] = n) (hb : ∀ a (ha : a < j), kf (xs[a]'(by omega)) ≠ n)
    (K1 : K (.tuple #[]) (h.setIfInBounds r (.map (entA k kf vf bf (xs.eraseIdx j)) c))) : @delK P h t (.map (some r)) (.int k n) ⟨K⟩ := by
  unfold delK deleteW mapKD
  simp only [ht, hk, obind, plainKey, hr, true_and]
  simp only [entA, findNow_ent, fnd_some n xs 0 j hj e hb]
  have hm : ((xs.map (ent k kf vf bf)).toArray.eraseIdxIfInBounds (0 + j)) = entA k kf vf bf (xs.eraseIdx j) := by
    simp [entA, Array.eraseIdxIfInBounds, hj, eraseIdx_map']
  rw [hm]
  exact K1
theorem range_ent {K : Value → Heap → Prop} (ht : P.underlying t = some (.map tk te)) (hr : h[r]? = some (.map (entA k kf vf bf xs) c)) (K1 : K (ptr h.size 0) (h.push (.mapIter (some r) c #[] c))) : @rngK P h t (.map (some r)) ⟨K⟩ := by
  unfold rngK rangeW
  simp only [ht, hr]
  exact K1
theorem next_ent {K : Value → Heap → Prop} {it : Nat} {seen : Array Nat} (hit : h[it]? = some (.mapIter (some r) c seen c)) (hr : h[r]? = some (.map (entA k kf vf bf xs) c)) (hb : ∀ x ∈ xs, bf x < c)
    (Kend : (∀ x ∈ xs, bf x ∈ seen) → K (.tuple #[.bool false]) h)
    (Kone : ∀ x ∈ xs, bf x ∉ seen → K (.tuple #[.bool true, .int k (kf x), vf x]) (h.setIfInBounds it (.mapIter (some r) c (seen.push (bf x)) c))) : @nxtK h (ptr it 0) false ⟨K⟩ := by
  unfold nxtK nextW
  simp only [hit, hr]
  have hmem : ∀ e, e ∈ entA k kf vf bf xs ↔ ∃ x ∈ xs, ent k kf vf bf x = e := by intro e; simp [entA]
  refine ⟨fun e he => ?_, trivial, trivial, fun hall => Kend fun x hx => ?_, fun e he hn => ?_⟩
  · obtain ⟨x, hx, rfl⟩ := (hmem e).1 he
    exact hb x hx
  · exact hall (ent k kf vf bf x) ((hmem _).2 ⟨x, hx, rfl⟩)
  · obtain ⟨x, hx, rfl⟩ := (hmem e).1 he
    exact Kone x hx hn
theorem entry_ent {it : Nat} {seen : Array Nat} {x : β} (hit : h[it]? = some (.mapIter (some r) c (seen.push (bf x)) c)) (hr : h[r]? = some (.map (entA k kf vf bf xs) c)) (hx : x ∈ xs) (hp : xs.Pairwise fun a b => bf a ≠ bf b) :
    entV h (ptr it 0) = some (.tuple #[.int k (kf x), vf x]) := by
  have hf : ∀ (xs : List β), x ∈ xs → (xs.Pairwise fun a b => bf a ≠ bf b) → (xs.map (ent k kf vf bf)).find? (fun e => e.born == bf x) = some (ent k kf vf bf x) := by
    intro xs
    induction xs with
    | nil => intro h; cases h
    | cons y ys ih =>
      intro hm hp
      have hp' := List.pairwise_cons.1 hp
      rw [List.map_cons, List.find?_cons]
      rcases List.mem_cons.1 hm with rfl | hm'
      · simp [ent]
      · have hne := hp'.1 x hm'
        have : ((ent k kf vf bf y).born == bf x) = false := by simpa [ent] using hne
        rw [this]
        exact ih hm' hp'.2
  simp only [entV, hit, hr, Array.back?_push, Option.bind_some, if_true]
  have : (entA k kf vf bf xs).find? (fun e => e.born == bf x) = some (ent k kf vf bf x) := by
    rw [entA, List.find?_toArray]
    exact hf xs hx hp
  rw [this]
  rfl
end maps
end Go.SX
namespace Go.SX
open Go.RowKit
variable {P : Program}
theorem Fn_extern {f : FuncId} {fn : Func} {e : Array Value → Sem Value} {args : List Value} {h : Heap} {R : Value → Heap → Prop} (hfn : P.funcs[f]? = some fn) (hname : (fn.name == "runtime.NumGoroutine") = false) (hb : fn.body.isNone = true)
    (h1 : Extern.findNext fn = none) (h2 : Extern.find fn = some e) (hrun : ∀ w, w.heap = h → ∃ v w', (e args.toArray).run P w = .ok v w' ∧ R v w'.heap ∧ Rest w w') : Fn P f args h R := by
  intro w hw
  obtain ⟨v, w', hr, hR, hrest⟩ := hrun w hw
  rw [run_callFunc_extern hfn hname hb h1 h2, hr]
  exact ⟨hR, hrest⟩
theorem overlaps_Fn {f : FuncId} {fn : Func} {tS tR e n : Nat} {h : Heap} {b1 o1 l1 c1 b2 o2 l2 c2 : Nat} {k1 k2 : Array Value} {e1 e2 : TypeId} (hfn : P.funcs[f]? = some fn) (hname : (fn.name == "runtime.NumGoroutine") = false) (hb : fn.body.isNone = true)
    (hx : Extern.findNext fn = none) (hy : Extern.find fn = some (Extern.SlicesOverlaps.overlaps #[tS, tS] #[tR])) (ht : P.underlying tS = some (.slice e)) (hz : szP P e = some n) (hne : b1 ≠ b2)
    (h1 : h[b1]? = some (.cells k1 e1 (0, 0))) (h2 : h[b2]? = some (.cells k2 e2 (0, 0))) (hk : k2.size ≠ 0) :
    Fn P f [.slice (some ⟨b1, o1, none⟩) l1 c1, .slice (some ⟨b2, o2, none⟩) l2 c2] h fun v h' => v = .bool false ∧ h' = h := by
  refine Fn_extern hfn hname hb hx hy ?_
  intro w hw
  subst hw
  refine ⟨_, w, Lib.run_overlaps_apart w tS tR e ht n ?_ ⟨b1, o1, none⟩ ⟨b2, o2, none⟩ l1 c1 l2 c2 hne e1 e2 k1.size k2.size (by simp [World.shape?, h1]) (by simp [World.shape?, h2]) hk (by simp [World.frozen?, h1]) (by simp [World.frozen?, h1]), ⟨rfl, rfl⟩, Rest.refl w⟩
  intro w'
  unfold szP at hz
  cases hi : P.info? e with
  | none => rw [hi] at hz; cases hz
  | some ti =>
    rw [hi] at hz
    simp at hz
    subst hz
    rw [run_sizeOf w' hi, Program.cellsOf, hi]; rfl
/-- 'setL' as three pieces. -/
theorem setL_eq : ∀ (L : List Value) (o : Nat) (vs : List Value), o + vs.length ≤ L.length → setL L o vs = L.take o ++ vs ++ L.drop (o + vs.length)
  | [], o, vs, h => by
    have h1 : vs = [] := by cases vs with | nil => rfl | cons v vs => simp at h
    subst h1; simp [setL]
  | c :: cs, 0, [], h => by simp [setL]
  | c :: cs, 0, v :: vs, h => by
    have := setL_eq cs 0 vs (by simp at h ⊢; omega)
    simp [setL, this]
  | c :: cs, o + 1, vs, h => by
    have := setL_eq cs o vs (by simp at h ⊢; omega)
    rw [Nat.add_right_comm]
    simp [setL, this]
theorem setL_zero (L E : List Value) (h : E.length ≤ L.length) : setL L 0 E = E ++ L.drop E.length := by
  rw [setL_eq L 0 E (by omega)]; simp
theorem ins_room (A D R E : List Value) (h : E.length ≤ R.length) : setL (setL (A ++ D ++ R) (A.length + E.length) D) A.length E = A ++ E ++ D ++ R.drop E.length := by
  have e0 := setL_right A (D ++ R) E.length D
  have e1 : setL (D ++ R) E.length D = (D ++ R).take E.length ++ D ++ (D ++ R).drop (E.length + D.length) := setL_eq _ _ _ (by simp; omega)
  have e2 : (D ++ R).drop (E.length + D.length) = R.drop E.length := by rw [Nat.add_comm, ← List.drop_drop, List.drop_left]
  have e3 : ((D ++ R).take E.length).length = E.length := by simp; omega
  have e4 := setL_right A ((D ++ R).take E.length ++ D ++ R.drop E.length) 0 E
  rw [Nat.add_zero] at e4
  rw [List.append_assoc A D R, e0, e1, e2, e4, setL_zero _ _ (by simp; omega)]
  have e5 := List.drop_left (l₁ := (D ++ R).take E.length) (l₂ := D ++ R.drop E.length)
  rw [e3] at e5
  rw [List.append_assoc ((D ++ R).take E.length), e5]
  simp
theorem ins_new (A D Z E : List Value) (h : E.length + D.length ≤ Z.length) : setL (setL (A ++ Z) A.length E) (A.length + E.length) D = A ++ E ++ D ++ Z.drop (E.length + D.length) := by
  have e0 := setL_right A Z 0 E
  rw [Nat.add_zero] at e0
  rw [e0, setL_right, setL_zero _ _ (by omega)]
  have e1 := setL_right E (Z.drop E.length) 0 D
  rw [Nat.add_zero] at e1
  rw [e1, setL_zero _ _ (by simp; omega), List.drop_drop]
  simp
/-- a copy into a block. -/
theorem copy_into {h : Heap} {t e size b o dl dc m : Nat} {et : TypeId} {s : Value} {c : Array Value} {cs : List Value} {K : Value → Heap → Prop} (hsl : slE P t = some (e, size)) (hstr : strOK size s = true) (hm : lenOfV s = some m)
    (hs : srcCells h (min m dl * size) s = some cs) (hB : h[b]? = some (.cells c et (0, 0))) (ho : cs.all one = true) (hlen : o + cs.length ≤ c.size)
    (hk : K (.int .i64 (min m dl : Nat)) (h.setIfInBounds b (.cells (setL c.toList o cs).toArray et (0, 0)))) : @copyK P h t (.slice (some ⟨b, o, none⟩) dl dc) s ⟨K⟩ := by
  unfold copyK copyW
  simp only [hsl, obind, hstr, hm, hs, wrS, wr, hB, Nat.add_zero, true_and]
  rw [if_pos ⟨hlen, .inl (Nat.le_refl _), ho⟩]
  exact hk
theorem zeros_add (z : Value) (a b : Nat) : zeros z (a + b) = zeros z a ++ zeros z b := by
  simp only [zeros, Builtin.zeroCells, Array.toList_map, Array.toList_range]
  rw [Nat.add_mul, List.range_add, List.map_append, List.map_map]
  congr 1
  apply List.map_congr_left
  intro i _
  simp [Function.comp, Nat.add_comm (a * z.cells.size)]
/-- append(s, make([]T, k)...) where there is no room. -/
theorem app_make {h : Heap} {t tx e size by_ sl sc o b : Nat} {z : Value} {k : Int} {old : List Value} {K : Value → Heap → Prop} (T : ElT P t e size by_ z) (hx : (P.underlying tx).map isIntD = some true) (hk0 : 0 ≤ k) (hroom : (sc : Int) < sl + k)
    (hold : srcCells h (sl * size) (.slice (some ⟨b, o, none⟩) sl sc) = some old) (hb : ((sl : Int) + k) * by_ ≤ 140737488355328)
    (hk : ∀ cap : Nat, (sl : Int) + k ≤ cap → K (.slice (some ⟨h.size, 0, none⟩) (sl + k.toNat) cap) (h.push (.cells (old ++ zeros z (cap - sl)).toArray e (0, 0)))) : @appK P h t tx (.slice (some ⟨b, o, none⟩) sl sc) (.int .i64 k) ⟨K⟩ := by
  obtain ⟨n, rfl⟩ := Int.eq_ofNat_of_zero_le hk0
  have hp := T.pos
  have hb' : (sl + n) * by_ ≤ 140737488355328 := by
    have : (((sl + n) * by_ : Nat) : Int) ≤ 140737488355328 := by rw [Int.natCast_mul, Int.natCast_add]; exact hb
    omega
  have hle : sl + n ≤ (sl + n) * by_ := Nat.le_mul_of_pos_right _ hp
  have hle2 : n * by_ ≤ (sl + n) * by_ := Nat.mul_le_mul_right _ (by omega)
  cases hd : P.underlying tx with
  | none => rw [hd] at hx; cases hx
  | some d =>
  rw [hd] at hx
  have hx : isIntD d = true := by simpa only [Option.map_some, Option.some.injEq] using hx
  unfold appK appendW
  simp only [T.sl, hd, obind, hx, if_true, T.bt, T.ze, Int.toNat_natCast, AppW]
  refine ⟨⟨by omega, by omega⟩, by omega, fun h0 => by omega, fun h0 => ⟨hp, hb', ?_⟩⟩
  have hold' : srcCells h (sl * size) (.slice (some ⟨b, o, none⟩) sl sc) = some old := hold
  rw [hold']
  simp only
  intro cap hcap
  have hz : zeros z n ++ zeros z (cap - (sl + n)) = zeros z (cap - sl) := by
    have e1 : cap - sl = n + (cap - (sl + n)) := by omega
    rw [e1, zeros_add]
  have hif : (if n * size = 0 then [] else zeros z n) = zeros z n := by
    split
    · rename_i q
      have := zeros_len T.zs n
      rw [q] at this
      exact (List.length_eq_zero_iff.1 this).symm
    · rfl
  rw [hif, List.append_assoc, hz]
  have := hk cap (by omega)
  simpa using this
end Go.SX
namespace Go.SX
open Go.RowKit Go.ChangeShapes Go.WideShapes
variable {H : Type} {enc : TypeId × Value → H} {P : Program} {W : World}
def encK (k : IntKind) (z : Int) : List Value := [.int k z]
theorem encK_len (k : IntKind) (z : Int) : (encK k z).length = 1 := rfl
theorem encK_flat (k : IntKind) (zs : List Int) : flat (encK k) zs = zs.map (Value.int k) := by
  induction zs with
  | nil => rfl
  | cons z zs ih => rw [flat_cons, ih]; rfl
theorem cellsAt {a : Addr} {f : Nat → Value} {n : Nat} (ha : a.spot = none) (hc : ∀ i, i < n → W.cell? (a.add i) = some (f i)) (hb : ∃ c e z, W.heap[a.block]? = some (.cells c e z) ∧ a.off ≤ c.size) :
    ∃ c e z, W.heap[a.block]? = some (.cells c e z) ∧ a.off + n ≤ c.size ∧ (c.toList.drop a.off).take n = (List.range n).map f := by
  obtain ⟨c, e, z, hb, ho⟩ := hb
  obtain ⟨b, o, sp⟩ := a
  simp only at ha hb ho
  subst ha
  have hcc : ∀ i, i < n → c[o + i]? = some (f i) := by
    intro i hi
    have := hc i hi
    rw [Addr_add_none] at this
    simpa [World.cell?, hb] using this
  refine ⟨c, e, z, hb, ?_, ?_⟩
  · rcases Nat.eq_zero_or_pos n with q | q
    · subst q; exact ho
    · have := hcc (n - 1) (by omega)
      have := (Array.getElem?_eq_some_iff.1 this).1
      show o + n ≤ c.size
      omega
  · apply List.ext_getElem?
    intro i
    rw [List.getElem?_take]
    split
    · rename_i q
      rw [List.getElem?_drop, Array.getElem?_toList, hcc i q, List.getElem?_map, List.getElem?_range q]; rfl
    · rename_i q
      rw [List.getElem?_eq_none (by simpa using q)]
theorem rowAt_le {fits : TypeId → Bool} {d e count off n : Nat} (h : rowAt P fits d e count off n = true) : off ≤ count * P.cellsOf e := by
  cases d with
  | zero => simp [rowAt] at h
  | succ d =>
    simp only [rowAt] at h
    split at h
    · cases h
    · rename_i hs
      simp only [Bool.or_eq_true, Bool.and_eq_true, beq_iff_eq, decide_eq_true_eq] at h
      have h1 := Nat.div_add_mod off (P.cellsOf e)
      have h2 := Nat.mod_lt off (Nat.pos_of_ne_zero hs)
      rcases h with ⟨⟨h3, h4⟩, _⟩ | ⟨h3, _⟩
      · have : P.cellsOf e * (off / P.cellsOf e) ≤ P.cellsOf e * count := Nat.mul_le_mul_left _ (by omega)
        rw [Nat.mul_comm count]; omega
      · have : P.cellsOf e * (off / P.cellsOf e + 1) ≤ P.cellsOf e * count := Nat.mul_le_mul_left _ (by omega)
        rw [Nat.mul_add, Nat.mul_one] at this
        rw [Nat.mul_comm count]; omega
theorem liesAt_le : ∀ {d e count off u n : Nat}, liesAt P d e count off u n = true → off ≤ count * P.cellsOf e
  | 0, e, count, off, u, n, h => by simp [liesAt] at h
  | d + 1, e, count, off, u, n, h => by
    simp only [liesAt, Bool.or_eq_true] at h
    rcases h with h | h
    · exact rowAt_le h
    · split at h
      · exact liesAt_le h
      · cases h
theorem has_block {r : Reach} {base n : Nat} {a : Addr} {e : TypeId} (h : W.has P r base a e n) : a.spot = none ∧ ∃ c t z, W.heap[a.block]? = some (.cells c t z) ∧ liesAt P P.depth t (c.size / P.cellsOf t) a.off e n = true ∧ a.off ≤ c.size := by
  obtain ⟨_, h2, row, cells, h3, h4⟩ := h
  refine ⟨h2, ?_⟩
  unfold World.shape? at h3
  split at h3
  · rename_i c t z hb
    simp only [Option.some.injEq, Prod.mk.injEq] at h3
    obtain ⟨rfl, rfl⟩ := h3
    exact ⟨c, _, z, hb, h4, Nat.le_trans (liesAt_le h4) (Nat.div_mul_le_self _ _)⟩
  · cases h3
theorem open_vs {base : Nat} {t e : TypeId} {k : IntKind} {v : Value} {d : DataW H} {ps : List MemPlace} (ht : P.underlying t = some (.slice e)) (he : P.underlying e = some (.int k)) (hc : P.cellsOf e = 1) (hval : Value.okWide P W .any base t v)
    (h : DataW.Trod enc P W 0 (fun _ => true) true t v d ps) : ∃ zs : List Int, Vs W.heap v (encK k) 1 zs ∧ ∀ n ∈ zs, (Lit.int k n).wf = true := by
  obtain ⟨a, len, cap, rfl⟩ := okWide_slice ht hval
  obtain ⟨fuel, hf⟩ := h
  rcases open_ints ht he hc hf with ⟨hcs, _⟩ | ⟨x, l, c, zs, hcs, _, hl, hm, hz, _, hcell, hwz⟩
  · simp [Value.cells] at hcs
    obtain ⟨rfl, rfl, rfl⟩ := hcs
    exact ⟨[], Vs.nil _, fun n hn => by cases hn⟩
  · simp [Value.cells] at hcs
    obtain ⟨rfl, rfl, rfl⟩ := hcs
    simp only [if_true] at hz
    have hh : W.has P .any base x e cap := by
      simp only [Value.okWide, ht, Cell.okWide, Cell.ok] at hval
      exact hval.2.2
    obtain ⟨hs, c0, t0, z0, hb0, _, ho0⟩ := has_block hh
    obtain ⟨b, o, sp⟩ := x
    simp only at hs hb0 ho0
    subst hs
    obtain ⟨c1, t1, z1, hb1, ho1, hL⟩ := cellsAt (a := ⟨b, o, none⟩) (n := len) (f := fun i => .int k (zs.getD i 0)) rfl (fun i hi => hcell i (by omega)) ⟨c0, t0, z0, hb0, ho0⟩
    simp only at hb1 ho1 hL
    have hlen : (zs.take len).length = len := by rw [List.length_take]; omega
    refine ⟨zs.take len, ⟨by rw [flat_len (encK_len k)], .inr ⟨b, o, cap, c1, t1, z1, by rw [hlen], by omega, hb1, by omega, ?_⟩⟩, fun n hn => hwz n (List.mem_of_mem_take hn)⟩
    rw [hlen, Nat.mul_one, hL, encK_flat]
    apply List.ext_getElem
    · simp; omega
    · intro i h1 h2
      simp only [List.length_map, List.length_range] at h1
      simp [List.getElem?_eq_getElem (show i < zs.length by omega)]
/-- words without a sign as numbers. -/
theorem nats_back : ∀ {zs : List Int}, (∀ n ∈ zs, 0 ≤ n) → (zs.map Int.toNat).map (fun n : Nat => (n : Int)) = zs
  | [], _ => rfl
  | z :: zs, h => by
    rw [List.map_cons, List.map_cons, nats_back fun n hn => h n (List.mem_cons_of_mem _ hn)]
    congr 1
    exact Int.toNat_of_nonneg (h z (List.mem_cons_self ..))
theorem open_nats {base : Nat} {t e : TypeId} {k : IntKind} {v : Value} {d : DataW H} {ps : List MemPlace} (lim : Nat) (hk : ∀ z, (Lit.int k z).wf = true → 0 ≤ z ∧ z < lim) (ht : P.underlying t = some (.slice e)) (he : P.underlying e = some (.int k)) (hc : P.cellsOf e = 1) (hval : Value.okWide P W .any base t v)
    (h : DataW.Trod enc P W 0 (fun _ => true) true t v d ps) : ∃ ns : List Nat, Vs W.heap v (fun n : Nat => encK k (n : Int)) 1 ns ∧ ∀ n ∈ ns, n < lim := by
  obtain ⟨zs, hv, hw⟩ := open_vs ht he hc hval h
  have hb : (zs.map Int.toNat).map (fun n : Nat => (n : Int)) = zs := nats_back fun n hn => (hk n (hw n hn)).1
  refine ⟨zs.map Int.toNat, ?_, fun n hn => ?_⟩
  · have hf : flat (fun n : Nat => encK k (n : Int)) (zs.map Int.toNat) = flat (encK k) zs := by
      have h1 : ∀ ns : List Nat, flat (fun n : Nat => encK k (n : Int)) ns = flat (encK k) (ns.map fun n : Nat => (n : Int)) := by
        intro ns
        simp only [flat, List.flatMap_map]
      rw [h1, hb]
    unfold Vs at hv ⊢
    rw [hf, List.length_map]; exact hv
  · obtain ⟨z, hz, rfl⟩ := List.mem_map.1 hn
    have := hk z (hw z hz)
    omega
theorem wf_u8 {n : Int} (h : (Lit.int .u8 n).wf = true) : 0 ≤ n ∧ n < (256 : Nat) := by
  simp [Lit.wf, IntKind.min, IntKind.max, IntKind.signed, IntKind.bits] at h; omega
theorem wf_u64' {n : Int} (h : (Lit.int .u64 n).wf = true) : 0 ≤ n ∧ n < (18446744073709551616 : Nat) := by
  simp [Lit.wf, IntKind.min, IntKind.max, IntKind.signed, IntKind.bits] at h; omega
theorem nat_of {k : IntKind} {lim : Nat} {z : Int} (hk : ∀ z, (Lit.int k z).wf = true → 0 ≤ z ∧ z < lim) (h : (Lit.int k z).wf = true) : ∃ n : Nat, z = (n : Int) ∧ n < lim := by
  have := hk z h
  exact ⟨z.toNat, by omega, by omega⟩
end Go.SX
namespace Go.SX
open Go.RowKit Go.ChangeShapes Go.WideShapes
variable {H : Type} {enc : TypeId × Value → H} {P : Program} {W : World}
end Go.SX
namespace Go.SX
variable {P : Program}
def fnL (n : Nat) (f : Nat → Value) : List Value := (List.range n).map f
theorem fnL_len (n : Nat) (f : Nat → Value) : (fnL n f).length = n := by simp [fnL]
theorem fnL_get (n : Nat) (f : Nat → Value) (i : Nat) (hi : i < n) : (fnL n f)[i]? = some (f i) := by simp [fnL, List.getElem?_map, List.getElem?_range hi]
theorem fnL_congr {n : Nat} {f g : Nat → Value} (h : ∀ i, i < n → f i = g i) : fnL n f = fnL n g := by
  apply List.map_congr_left
  intro i hi
  exact h i (List.mem_range.1 hi)
theorem fnL_cell {n i e : Nat} {f : Nat → Value} {z : Nat × Nat} (hi : i < n) : cellO i (some (.cells (fnL n f).toArray e z)) = some (f i) := by
  show (fnL n f).toArray[i]? = _
  rw [List.getElem?_toArray, fnL_get _ _ _ hi]
theorem fnL_cells {n o k e : Nat} {f : Nat → Value} {z : Nat × Nat} (h : o + k ≤ n) : cellsO o k (some (.cells (fnL n f).toArray e z)) = some (fnL k fun i => f (o + i)) := by
  have : cellsO o k (some (.cells (fnL n f).toArray e z)) = some (((fnL n f).drop o).take k) := by
    simp [cellsO, fnL_len, h]
  rw [this]
  congr 1
  apply List.ext_getElem?
  intro i
  rw [List.getElem?_take, List.getElem?_drop]
  by_cases hi : i < k
  · rw [if_pos hi, fnL_get _ _ _ (by omega), fnL_get _ _ _ hi]
  · rw [if_neg hi, List.getElem?_eq_none (by rw [fnL_len]; omega)]
/-- cells written, one or more. -/
theorem fnL_wr {h : Heap} {b o n k e : Nat} {f g : Nat → Value} (hb : h[b]? = some (.cells (fnL n f).toArray e (0, 0))) (ho : o + k ≤ n) (hg : (fnL k g).all one = true) :
    ∃ h', wrO h b o (fnL k g) h[b]? = some h' ∧ h'[b]? = some (.cells (fnL n fun i => if o ≤ i ∧ i < o + k then g (i - o) else f i).toArray e (0, 0)) ∧ h'.size = h.size ∧ ∀ c, c ≠ b → h'[c]? = h[c]? := by
  have lb := getElem?_lt hb
  rw [hb, h_wrO, if_pos ⟨by rw [fnL_len]; simp [fnL_len]; omega, hg⟩]
  refine ⟨_, rfl, ?_, by simp, fun c hc => by rw [Array.getElem?_setIfInBounds, if_neg (Ne.symm hc)]⟩
  rw [Array.getElem?_setIfInBounds, if_pos rfl, if_pos lb, List.toList_toArray, setL_eq _ _ _ (by rw [fnL_len, fnL_len]; exact ho)]
  congr 3
  apply List.ext_getElem?
  intro i
  rw [fnL_len]
  have l1 : ((fnL n f).take o).length = o := by rw [List.length_take, fnL_len]; omega
  have l2 : ((fnL n f).take o ++ fnL k g).length = o + k := by rw [List.length_append, l1, fnL_len]
  by_cases h1 : i < o
  · rw [List.getElem?_append_left (by omega), List.getElem?_append_left (by omega), List.getElem?_take, if_pos h1, fnL_get _ _ _ (by omega), fnL_get _ _ _ (by omega), if_neg (by omega)]
  · by_cases h2 : i < o + k
    · rw [List.getElem?_append_left (by omega), List.getElem?_append_right (by omega), l1, fnL_get _ _ _ (by omega), fnL_get _ _ _ (by omega), if_pos (by omega)]
    · rw [List.getElem?_append_right (by omega), l2, List.getElem?_drop, show o + k + (i - (o + k)) = i by omega]
      by_cases h3 : i < n
      · rw [fnL_get _ _ _ h3, fnL_get _ _ _ h3, if_neg (by omega)]
      · rw [List.getElem?_eq_none (by rw [fnL_len]; omega), List.getElem?_eq_none (by rw [fnL_len]; omega)]
theorem fnL_one {h : Heap} {b o n e : Nat} {f : Nat → Value} {v : Value} (hb : h[b]? = some (.cells (fnL n f).toArray e (0, 0))) (ho : o < n) (hv : [v].all one = true) :
    ∃ h', wrO h b o [v] h[b]? = some h' ∧ h'[b]? = some (.cells (fnL n fun i => if i = o then v else f i).toArray e (0, 0)) ∧ h'.size = h.size ∧ ∀ c, c ≠ b → h'[c]? = h[c]? := by
  obtain ⟨h', w, c, z, o'⟩ := fnL_wr (o := o) (n := n) (f := f) (k := 1) (g := fun _ => v) hb (by omega) hv
  refine ⟨h', w, ?_, z, o'⟩
  rw [c]
  congr 3
  apply fnL_congr
  intro i hi
  by_cases e : i = o
  · rw [if_pos (by omega), if_pos e]
  · rw [if_neg (by omega), if_neg e]
theorem setL_single : ∀ (L : List Value) (o : Nat) (v : Value), setL L o [v] = L.set o v
  | [], o, v => by cases o <;> rfl
  | x :: L, 0, v => by cases L <;> rfl
  | x :: L, o + 1, v => by
    have := setL_single L o v
    simp [setL, this]
theorem fnL_set (n o : Nat) (f : Nat → Value) (v : Value) : setL (fnL n f) o [v] = fnL n (fun i => if i = o then v else f i) := by
  rw [setL_single]
  apply List.ext_getElem?
  intro i
  rw [List.getElem?_set]
  by_cases hi : i < n
  · rw [fnL_get _ _ _ hi, fnL_get _ _ _ hi, fnL_len]
    by_cases e : o = i
    · rw [if_pos e, if_pos (by omega), if_pos e.symm]
    · rw [if_neg e, if_neg (Ne.symm e)]
  · rw [List.getElem?_eq_none (l := fnL n f) (by rw [fnL_len]; omega), List.getElem?_eq_none (l := fnL n fun i => if i = o then v else f i) (by rw [fnL_len]; omega)]
    split
    · rw [fnL_len, if_neg (by omega)]
    · rfl
/-- a whole block overwritten. -/
theorem setL_whole (L vs : List Value) (h : L.length = vs.length) : setL L 0 vs = vs := by
  rw [setL_eq _ _ _ (by omega), List.take_zero, List.nil_append, List.drop_eq_nil_of_le (by omega), List.append_nil]
theorem setL_35 (a0 a1 a2 a3 a4 a5 a6 a7 a8 a9 a10 a11 a12 a13 a14 a15 a16 a17 a18 a19 a20 a21 a22 a23 a24 a25 a26 a27 a28 a29 a30 a31 a32 a33 a34 : Value) (g : Nat → Value) : setL (a0 :: a1 :: a2 :: a3 :: a4 :: a5 :: a6 :: a7 :: a8 :: a9 :: a10 :: a11 :: a12 :: a13 :: a14 :: a15 :: a16 :: a17 :: a18 :: a19 :: a20 :: a21 :: a22 :: a23 :: a24 :: a25 :: a26 :: a27 :: a28 :: a29 :: a30 :: a31 :: a32 :: a33 :: a34 :: []) 0 (fnL 35 g) = fnL 35 g := setL_whole _ _ (by rw [fnL_len]; rfl)
theorem fnL_take (n : Nat) (g : Nat → Value) : List.take n (fnL n g) = fnL n g := List.take_of_length_le (by rw [fnL_len]; omega)
end Go.SX
