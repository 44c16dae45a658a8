/- Slices that grow, over heaps alone: who owns a block, what append does to it. -/
import Derived.Test.YtajfhnphhdoobaaSxSimp
set_option linter.unusedVariables false
set_option linter.unusedSimpArgs false
namespace Go.SX
open Go.RowKit
variable {P : Program}

/-- all blocks below 'n' are as they were. -/
structure Keeps (n : Nat) (h h' : Heap) : Prop where
  size : h.size ≤ h'.size
  old : ∀ b, b < n → h'[b]? = h[b]?
theorem Keeps.refl (n : Nat) (h : Heap) : Keeps n h h := ⟨Nat.le_refl _, fun _ _ => rfl⟩
theorem Keeps.trans {n : Nat} {h h' h'' : Heap} (a : Keeps n h h') (b : Keeps n h' h'') : Keeps n h h'' := ⟨Nat.le_trans a.1 b.1, fun c hc => (b.2 c hc).trans (a.2 c hc)⟩
theorem Keeps.le {m n : Nat} {h h' : Heap} (a : Keeps n h h') (hm : m ≤ n) : Keeps m h h' := ⟨a.1, fun c hc => a.2 c (by omega)⟩
theorem Keeps.push (h : Heap) (o : Obj) {n : Nat} (hn : n ≤ h.size) : Keeps n h (h.push o) := ⟨by simp, fun b hb => by rw [Array.getElem?_push]; rw [if_neg (by omega)]⟩
theorem Keeps.set {h : Heap} {b n : Nat} (o : Obj) (hn : n ≤ b) : Keeps n h (h.setIfInBounds b o) := ⟨by simp, fun c hc => by rw [Array.getElem?_setIfInBounds]; rw [if_neg (by omega)]⟩

/-- block 'b' is a slice's own: 'L' the cells in use, room for 'cap' elements. -/
def Own (h : Heap) (b e size : Nat) (L : List Value) (cap : Nat) : Prop := ∃ rest, h[b]? = some (.cells (L ++ rest).toArray e (0, 0)) ∧ cap * size ≤ L.length + rest.length
/-- a slice of 'm' elements, its cells 'L', its block its own and not below 'lo'. -/
def Sl (h : Heap) (lo : Nat) (v : Value) (e size m : Nat) (L : List Value) : Prop :=
  L.length = m * size ∧ ((v = .slice none 0 0 ∧ m = 0) ∨ ∃ b cap, v = .slice (some ⟨b, 0, none⟩) m cap ∧ m ≤ cap ∧ lo ≤ b ∧ Own h b e size L cap)
def blk : Value → Option Nat
  | .slice (some ⟨b, _, _⟩) _ _ => some b
  | _ => none
def Grow (h : Heap) (v : Value) (h' : Heap) (v' : Value) : Prop := h.size ≤ h'.size ∧ (∀ c, c < h.size → blk v ≠ some c → h'[c]? = h[c]?) ∧ (blk v' = blk v ∨ blk v' = some h.size)

structure ElT (P : Program) (t : TypeId) (e size by_ : Nat) (z : Value) : Prop where
  sl : slE P t = some (e, size)
  bt : byP P e = some by_
  pos : 0 < by_
  ze : zeroP P e = some z
  zs : z.cells.size = size
  nt : (P.underlying t).map isIntD = some false

theorem setL_app : ∀ (L rest vs : List Value), vs.length ≤ rest.length → setL (L ++ rest) L.length vs = L ++ vs ++ rest.drop vs.length
  | [], [], [], _ => rfl
  | [], [], v :: vs, h => by simp at h
  | [], r :: rest, [], _ => rfl
  | [], r :: rest, v :: vs, h => by
    have := setL_app [] rest vs (by simpa using h)
    simp only [List.nil_append, List.length_nil] at this
    simp [setL, this]
  | l :: L, rest, vs, h => by
    have := setL_app L rest vs h
    simp [setL, this]

theorem zeros_len {z : Value} {size : Nat} (hz : z.cells.size = size) (n : Nat) : (zeros z n).length = n * size := by
  simp [zeros, Builtin.zeroCells, Array.size_flatten, hz]

theorem getElem?_lt {α : Type} {a : Array α} {i : Nat} {x : α} (h : a[i]? = some x) : i < a.size := (Array.getElem?_eq_some_iff.1 h).1

theorem app_sl {h : Heap} {t e size by_ m n lo : Nat} {z v x : Value} {L new : List Value} {K : Value → Heap → Prop} (T : ElT P t e size by_ z) (hv : Sl h lo v e size m L) (hx : lenOfV x = some n)
    (hs : srcCells h (n * size) x = some new) (hl : new.length = n * size) (ho : new.all one = true) (hb : (m + n) * by_ ≤ 140737488355328) (hstr : strOK size x = true) (hlo : lo ≤ h.size)
    (hk : ∀ v' h', Sl h' lo v' e size (m + n) (L ++ new) → Grow h v h' v' → K v' h') : @appK P h t t v x ⟨K⟩ := by
  obtain ⟨hL, hv⟩ := hv
  have hLn : (L ++ new).length = (m + n) * size := by rw [List.length_append, hL, hl, Nat.add_mul]
  cases hd : P.underlying t with
  | none => have := T.nt; rw [hd] at this; simp at this
  | some d =>
  have hi : isIntD d = false := by have := T.nt; rw [hd] at this; simpa using this
  unfold appK appendW
  rw [T.sl, hd]
  rcases hv with ⟨rfl, rfl⟩ | ⟨b, cap, rfl, hmc, hlb, rest, hB, hcap⟩
  · have hL0 : L = [] := by simpa using hL
    subst hL0
    simp only [obind, T.sl, hi, hx, hs, hstr, Bool.false_eq_true, if_false, true_and, AppW, wrS, T.bt, T.ze]
    simp only [srcCells]
    refine ⟨fun h0 => hk _ _ ⟨hLn, .inl ⟨by simp; omega, by omega⟩⟩ ⟨Nat.le_refl _, fun _ _ _ => rfl, .inl (by simp [blk])⟩, fun h0 => ⟨T.pos, by simpa using hb, fun c hc => ?_⟩⟩
    refine hk _ _ ⟨hLn, .inr ⟨_, c, rfl, hc, hlo, zeros z (c - (0 + n)), by simp, ?_⟩⟩ ⟨by simp, fun c hc _ => by rw [Array.getElem?_push, if_neg (by omega)], .inr (by simp [blk])⟩
    have e1 := zeros_len T.zs (c - (0 + n))
    rw [e1, List.nil_append, hl, ← Nat.add_mul]; exact Nat.mul_le_mul_right _ (by omega)
  · have hbs := getElem?_lt hB
    have hr : ¬ (L ++ rest).toArray.size < m * size := by simp [hL]
    simp only [obind, T.sl, hi, hx, hs, hstr, Bool.false_eq_true, if_false, true_and, AppW, wrS, wr, T.bt, T.ze]
    simp only [srcCells, cells?, hB, obind]
    refine ⟨fun h0 => ?_, fun h0 => ⟨T.pos, hb, ?_⟩⟩
    · have hroom : new.length ≤ rest.length := by
        have : (m + n) * size ≤ cap * size := Nat.mul_le_mul_right _ h0
        rw [Nat.add_mul] at this; omega
      have hif : 0 + m * size + new.length ≤ (L ++ rest).toArray.size ∧ (0 ≤ 0 ∨ 0 ≤ 0 + m * size ∨ 0 + m * size + new.length ≤ 0) ∧ new.all one = true := by
        refine ⟨by simp [hL]; omega, .inl (Nat.le_refl _), ho⟩
      rw [if_pos hif]
      simp only
      refine hk _ _ ⟨hLn, .inr ⟨b, cap, rfl, h0, hlb, rest.drop new.length, ?_, ?_⟩⟩ ⟨by simp, fun c hc hne => ?_, .inl (by simp [blk])⟩
      · rw [Array.getElem?_setIfInBounds, if_pos rfl, if_pos hbs]
        simp only [Nat.zero_add, List.toList_toArray]
        rw [← hL, setL_app _ _ _ hroom]
      · rw [List.length_append, List.length_drop]; omega
      · rw [Array.getElem?_setIfInBounds, if_neg (fun e => hne (by simp [blk, e]))]
    · have hif : 0 + m * size ≤ (L ++ rest).toArray.size := by simp [hL]
      rw [if_pos hif]
      simp only [List.toList_toArray, List.drop_zero]
      intro c hc
      have htk : (L ++ rest).take (m * size) = L := by rw [← hL, List.take_left]
      rw [htk]
      refine hk _ _ ⟨hLn, .inr ⟨_, c, rfl, hc, hlo, zeros z (c - (m + n)), by simp, ?_⟩⟩ ⟨by simp, fun c hc _ => by rw [Array.getElem?_push, if_neg (by omega)], .inr (by simp [blk])⟩
      have e1 := zeros_len T.zs (c - (m + n))
      rw [e1, List.length_append, hL, hl, ← Nat.add_mul, ← Nat.add_mul]; exact Nat.mul_le_mul_right _ (by omega)
theorem Sl.mono {h h' : Heap} {lo e size m : Nat} {v : Value} {L : List Value} (s : Sl h lo v e size m L) (k : ∀ b, blk v = some b → h'[b]? = h[b]?) : Sl h' lo v e size m L := by
  refine ⟨s.1, ?_⟩
  rcases s.2 with h0 | ⟨b, cap, rfl, hc, hlb, rest, hB, hr⟩
  · exact .inl h0
  · exact .inr ⟨b, cap, rfl, hc, hlb, rest, by rw [k b rfl]; exact hB, hr⟩
theorem Sl.blk_lt {h : Heap} {lo e size m b : Nat} {v : Value} {L : List Value} (s : Sl h lo v e size m L) (k : blk v = some b) : lo ≤ b ∧ b < h.size := by
  rcases s.2 with ⟨rfl, _⟩ | ⟨b, cap, rfl, hc, hlb, rest, hB, hr⟩
  · simp [blk] at k
  · simp only [blk, Option.some.injEq] at k; subst k; exact ⟨hlb, getElem?_lt hB⟩
theorem Sl.push {h : Heap} {lo e size m : Nat} {v : Value} {L : List Value} (s : Sl h lo v e size m L) (o : Obj) : Sl (h.push o) lo v e size m L :=
  s.mono fun b hb => by rw [Array.getElem?_push, if_neg (by have := (s.blk_lt hb).2; omega)]
theorem Sl.nil (h : Heap) (lo e size : Nat) : Sl h lo (.slice none 0 0) e size 0 [] := ⟨by simp, .inl ⟨rfl, rfl⟩⟩
/-- the cell under an index. -/
theorem Sl.cell {h : Heap} {lo e m : Nat} {v : Value} {L : List Value} (s : Sl h lo v e 1 m L) {i : Nat} {u : Value} (hu : L[i]? = some u) : ∃ b cap, v = .slice (some ⟨b, 0, none⟩) m cap ∧ i < m ∧ m ≤ cap ∧ cellO i h[b]? = some u := by
  have hi : i < L.length := (List.getElem?_eq_some_iff.1 hu).1
  have hm : L.length = m := by have := s.1; omega
  rcases s.2 with ⟨rfl, h0⟩ | ⟨b, cap, rfl, hc, hlb, rest, hB, hr⟩
  · omega
  · refine ⟨b, cap, rfl, by omega, hc, ?_⟩
    rw [hB]
    show (L ++ rest).toArray[i]? = some u
    rw [List.getElem?_toArray]
    rw [List.getElem?_append_left hi, hu]
theorem Grow.keeps {h h' : Heap} {v v' : Value} {lo : Nat} (g : Grow h v h' v') (hb : ∀ b, blk v = some b → lo ≤ b) (hlo : lo ≤ h.size) : Keeps lo h h' :=
  ⟨g.1, fun c hc => g.2.1 c (by omega) fun e => by have := hb c e; omega⟩
end Go.SX
