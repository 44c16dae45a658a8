/- Texts: bytes of a text, texts out of bytes, equal texts. No program. -/
import Derived.Test.YthippanonfbboaaDoorSxExt
set_option linter.unusedVariables false
set_option linter.unusedSimpArgs false
namespace Go.SX
open Go.RowKit
variable {P : Program}
theorem mk_ptr (p : Option Addr) (n : Nat) : mkCells (.pointer p) n = List.replicate n (.pointer p) := mk_one _ rfl n
theorem ins_up (P : Program) (fr : Fr) (h : Heap) (t : TypeId) (m k v : Operand) (K : Value → Heap → Prop) : eop P fr h (.insert t m k v) K = eop P fr h (.mapUpdate t m k v) K := rfl
theorem s_add (x y : ByteArray) : strV .add x y = if x.size + y.size ≤ 9223372036854775807 then some (.string (x ++ y)) else none := rfl
theorem s_eql (x y : ByteArray) : strV .eql x y = some (.bool (x == y)) := rfl
theorem s_neq (x y : ByteArray) : strV .neq x y = some (.bool (!(x == y))) := rfl
theorem idx_str {t : TypeId} {s : ByteArray} {i : Nat} (k : IntKind) (ht : P.underlying t = some .string) (hi : i < s.size) : ∃ b : Nat, b < 256 ∧ idxV P t (.string s) (.int k i) = some (.int .u8 b) := by
  have hl : i < s.data.toList.length := by rw [Array.length_toList]; exact hi
  refine ⟨(s.data.toList[i]).toNat, (s.data.toList[i]).toNat_lt, ?_⟩
  simp only [idxV, ht]
  rw [if_pos (by omega), Int.toNat_natCast, List.getElem?_eq_getElem hl]
  rfl
theorem cvt_bytes {h : Heap} {s d e : TypeId} {a : Option Addr} {n c : Nat} {cs : List Value} {bs : List UInt8} {K : Value → Heap → Prop} (hs : P.underlying s = some (.slice e)) (hd : P.underlying d = some .string) (he : P.underlying e = some (.int .u8))
    (h1 : srcCells h n (.slice a n n) = some cs) (h2 : bytesV cs = some bs) (hk : K (.string ⟨bs.toArray⟩) h) : @cvtK P h s d (.slice a n c) ⟨K⟩ := by
  unfold cvtK convW
  simp only [hs, hd, he, h1, h2, obind]
  exact hk
/-- a constant text, turned into bytes: its block is marked, nothing else. -/
theorem cvt_same {h : Heap} {s e t : TypeId} {b o n c : Nat} {cs : Array Value} {K : Value → Heap → Prop} (hs : P.underlying s = some (.slice e)) (he : P.underlying e = some (.int .u8)) (hb : h[b]? = some (.cells cs t (0, 0)))
    (hk : K (.slice (some ⟨b, o, none⟩) n c) (h.setIfInBounds b (.cells cs t (cs.size, cs.size + 1)))) : @cvtK P h s s (.slice (some ⟨b, o, none⟩) n c) ⟨K⟩ := by
  unfold cvtK convW
  simp only [hs, he, hb, if_true]
  exact hk
end Go.SX
