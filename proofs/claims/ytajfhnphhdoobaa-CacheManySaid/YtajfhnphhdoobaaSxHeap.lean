/- Slices that are only read; how heaps grow; lists of structs in a slice. No program. -/
import Derived.Test.YtajfhnphhdoobaaSxOwn
set_option linter.unusedVariables false
set_option linter.unusedSimpArgs false
namespace Go.SX
open Go.RowKit
variable {P : Program}

theorem h_pushE (h : Heap) (x : Obj) (b : Nat) (hb : b = h.size) : (h.push x)[b]? = some x := by subst hb; simp
theorem h_setPE (h : Heap) (x y : Obj) (b : Nat) (hb : b = h.size) : (h.push x).setIfInBounds b y = h.push y := by
  subst hb; apply Array.ext_getElem?; intro i; simp only [Array.getElem?_setIfInBounds, Array.getElem?_push, Array.size_push]; grind
theorem h_setPL (h : Heap) (x y : Obj) (b : Nat) (hb : b < h.size) : (h.push x).setIfInBounds b y = (h.setIfInBounds b y).push x := by
  apply Array.ext_getElem?; intro i; simp only [Array.getElem?_setIfInBounds, Array.getElem?_push, Array.size_push, Array.size_setIfInBounds]; grind
theorem h_setSS (h : Heap) (x y : Obj) (b : Nat) : (h.setIfInBounds b x).setIfInBounds b y = h.setIfInBounds b y := by
  apply Array.ext_getElem?; intro i; simp only [Array.getElem?_setIfInBounds, Array.size_setIfInBounds]; grind
def eqSl (r : Bool) : Option TypeDesc → Option Value | some (.slice _) => some (.bool r) | _ => none
def eqMp (r : Bool) : Option TypeDesc → Option Value | some (.map _ _) => some (.bool r) | _ => none
theorem eqSl_t (r : Bool) (e : TypeId) : eqSl r (some (.slice e)) = some (.bool r) := Eq.trans (Eq.refl _) rfl
theorem eqMp_t (r : Bool) (k e : TypeId) : eqMp r (some (.map k e)) = some (.bool r) := Eq.trans (Eq.refl _) rfl
theorem b_sn (P : Program) (t : TypeId) (x y : Operand) (n c m d : Nat) : binV P .eql t x y (.slice none n c) (.slice none m d) = eqSl true (P.underlying t) := by
  simp only [binV, quietEq, eqIn]; cases P.underlying t with | none => rfl | some u => cases u <;> rfl
theorem b_snn (P : Program) (t : TypeId) (x y : Operand) (n c m d : Nat) : binV P .neq t x y (.slice none n c) (.slice none m d) = eqSl false (P.underlying t) := by
  simp only [binV, quietEq, eqIn]; cases P.underlying t with | none => rfl | some u => cases u <;> rfl
theorem b_ss (P : Program) (t : TypeId) (x y : Operand) (a : Addr) (n c m d : Nat) : binV P .eql t x y (.slice (some a) n c) (.slice none m d) = eqSl false (P.underlying t) := by
  simp only [binV, quietEq, eqIn]; cases P.underlying t with | none => rfl | some u => cases u <;> rfl
theorem b_ssn (P : Program) (t : TypeId) (x y : Operand) (a : Addr) (n c m d : Nat) : binV P .neq t x y (.slice (some a) n c) (.slice none m d) = eqSl true (P.underlying t) := by
  simp only [binV, quietEq, eqIn]; cases P.underlying t with | none => rfl | some u => cases u <;> rfl
attribute [go_sem] eqSl_t eqMp_t b_sn b_snn b_ss b_ssn
theorem tn_1 (n : Nat) : ((n : Int) + 1).toNat = n + 1 := by omega
theorem tn_add (a b : Nat) : ((a : Int) + b).toNat = a + b := by omega
theorem tn_sub (a b : Nat) : ((a : Int) - b).toNat = a - b := by omega
attribute [go_sem] tn_1 tn_add tn_sub Nat.sub_zero h_pushE h_setPE h_setPL h_setSS Int.lt_irrefl not_false_eq_true true_implies false_implies
theorem mk_agg2 (a b : Value) : mkCells (.agg #[a, b]) 2 = [a, b] := mk_agg _ _ rfl
theorem mk_agg3 (a b c : Value) : mkCells (.agg #[a, b, c]) 3 = [a, b, c] := mk_agg _ _ rfl
theorem mk_agg4 (a b c d : Value) : mkCells (.agg #[a, b, c, d]) 4 = [a, b, c, d] := mk_agg _ _ rfl
theorem mk_agg5 (a b c d e : Value) : mkCells (.agg #[a, b, c, d, e]) 5 = [a, b, c, d, e] := mk_agg _ _ rfl
theorem mk_agg6 (a b c d e f : Value) : mkCells (.agg #[a, b, c, d, e, f]) 6 = [a, b, c, d, e, f] := mk_agg _ _ rfl
theorem mk_agg7 (a b c d e f g : Value) : mkCells (.agg #[a, b, c, d, e, f, g]) 7 = [a, b, c, d, e, f, g] := mk_agg _ _ rfl
theorem mk_agg8 (a b c d e f g i : Value) : mkCells (.agg #[a, b, c, d, e, f, g, i]) 8 = [a, b, c, d, e, f, g, i] := mk_agg _ _ rfl
attribute [go_sem] mk_agg2 mk_agg3 mk_agg4 mk_agg5 mk_agg6 mk_agg7 mk_agg8
theorem rep_0 (v : Value) : List.replicate 0 v = [] := rfl
theorem rep_1 (v : Value) : List.replicate 1 v = [v] := rfl
theorem rep_2 (v : Value) : List.replicate 2 v = [v, v] := rfl
theorem rep_3 (v : Value) : List.replicate 3 v = [v, v, v] := rfl
theorem rep_4 (v : Value) : List.replicate 4 v = [v, v, v, v] := rfl
theorem rep_5 (v : Value) : List.replicate 5 v = [v, v, v, v, v] := rfl
theorem rep_6 (v : Value) : List.replicate 6 v = [v, v, v, v, v, v] := rfl
theorem rep_7 (v : Value) : List.replicate 7 v = [v, v, v, v, v, v, v] := rfl
theorem rep_8 (v : Value) : List.replicate 8 v = [v, v, v, v, v, v, v, v] := rfl
attribute [go_sem] List.length_replicate rep_0 rep_1 rep_2 rep_3 rep_4 rep_5 rep_6 rep_7 rep_8
theorem Keeps.refl' {n : Nat} {h : Heap} : Keeps n h h := Keeps.refl n h
theorem Keeps.push' {n : Nat} {h h' : Heap} {o : Obj} (k : Keeps n h h') (hn : n ≤ h.size) : Keeps n h (h'.push o) := k.trans (Keeps.push h' o (Nat.le_trans hn k.1))
theorem Keeps.set' {n : Nat} {h h' : Heap} {b : Nat} {o : Obj} (k : Keeps n h h') (hn : n ≤ b) : Keeps n h (h'.setIfInBounds b o) := k.trans (Keeps.set o hn)
theorem Keeps.at {n : Nat} {h h' : Heap} (k : Keeps n h h') {b : Nat} {o : Obj} (hb : h[b]? = some o) (hn : b < n) : h'[b]? = some o := by rw [k.old b hn, hb]
theorem Keeps.of_ext {n : Nat} {h h' h'' : Heap} (k : Keeps n h h') (k' : Keeps h'.size h' h'') (hn : n ≤ h.size) : Keeps n h h'' := k.trans (k'.le (Nat.le_trans hn k.1))

/-- the cells of a slice: 'm' elements of 'size' cells. -/
def Vw (h : Heap) (v : Value) (size m : Nat) (L : List Value) : Prop :=
  L.length = m * size ∧ ((v = .slice none 0 0 ∧ m = 0) ∨ ∃ b o cap c e f, v = .slice (some ⟨b, o, none⟩) m cap ∧ m ≤ cap ∧ h[b]? = some (.cells c e f) ∧ o + m * size ≤ c.size ∧ (c.toList.drop o).take (m * size) = L)

theorem Vw.nil (h : Heap) (size : Nat) : Vw h (.slice none 0 0) size 0 [] := ⟨by simp, .inl ⟨rfl, rfl⟩⟩
theorem Vw.mono {h h' : Heap} {v : Value} {size m : Nat} {L : List Value} (s : Vw h v size m L) (k : ∀ b, blk v = some b → h'[b]? = h[b]?) : Vw h' v size m L := by
  refine ⟨s.1, ?_⟩
  rcases s.2 with h0 | ⟨b, o, cap, c, e, f, rfl, hc, hB, hr⟩
  · exact .inl h0
  · exact .inr ⟨b, o, cap, c, e, f, rfl, hc, by rw [k b rfl]; exact hB, hr⟩
theorem Vw.blk_lt {h : Heap} {v : Value} {size m b : Nat} {L : List Value} (s : Vw h v size m L) (k : blk v = some b) : b < h.size := by
  rcases s.2 with ⟨rfl, _⟩ | ⟨b, o, cap, c, e, f, rfl, hc, hB, hr⟩
  · simp [blk] at k
  · simp only [blk, Option.some.injEq] at k; subst k; exact getElem?_lt hB
theorem Vw.keeps {n : Nat} {h h' : Heap} {v : Value} {size m : Nat} {L : List Value} (s : Vw h v size m L) (k : Keeps n h h') (hb : ∀ b, blk v = some b → b < n) : Vw h' v size m L := s.mono fun b e => k.old b (hb b e)
theorem Vw.ext {h h' : Heap} {v : Value} {size m : Nat} {L : List Value} (s : Vw h v size m L) (k : Keeps h.size h h') : Vw h' v size m L := s.keeps k fun _ e => s.blk_lt e
theorem Sl.vw {h : Heap} {lo e size m : Nat} {v : Value} {L : List Value} (s : Sl h lo v e size m L) : Vw h v size m L := by
  refine ⟨s.1, ?_⟩
  rcases s.2 with h0 | ⟨b, cap, rfl, hc, hlb, rest, hB, hr⟩
  · exact .inl h0
  · refine .inr ⟨b, 0, cap, _, e, _, rfl, hc, hB, ?_, ?_⟩
    · have := s.1; simp; omega
    · rw [← s.1]; simp
theorem Vw.shape {h : Heap} {v : Value} {size m : Nat} {L : List Value} (s : Vw h v size m L) : ∃ a cap, v = .slice a m cap ∧ m ≤ cap := by
  rcases s.2 with ⟨rfl, rfl⟩ | ⟨b, o, cap, c, e, f, rfl, hc, _⟩
  · exact ⟨none, 0, rfl, Nat.le_refl _⟩
  · exact ⟨_, cap, rfl, hc⟩
/-- a slice that has an element has a block. -/
theorem Vw.open {h : Heap} {v : Value} {size m i : Nat} {L : List Value} (s : Vw h v size m L) (hi : i < m) : ∃ b o cap, v = .slice (some ⟨b, o, none⟩) m cap ∧ m ≤ cap ∧ b < h.size := by
  rcases s.2 with ⟨rfl, rfl⟩ | ⟨b, o, cap, c, e, f, rfl, hc, hB, _⟩
  · omega
  · exact ⟨b, o, cap, rfl, hc, getElem?_lt hB⟩
theorem Vw.cells {h : Heap} {b o cap size m i : Nat} {L : List Value} (s : Vw h (.slice (some ⟨b, o, none⟩) m cap) size m L) (hi : i < m) : cellsO (o + i * size) size h[b]? = some ((L.drop (i * size)).take size) := by
  rcases s.2 with ⟨h0, _⟩ | ⟨b', o', cap', c, e, f, hv, hc, hB, hr, hL⟩
  · cases h0
  · cases hv
    have hm : (i + 1) * size ≤ m * size := Nat.mul_le_mul_right _ (by omega)
    rw [Nat.add_mul, Nat.one_mul] at hm
    rw [hB]
    simp only [cellsO]
    rw [if_pos (by omega), ← hL, List.drop_take, List.take_take, List.drop_drop, Nat.min_eq_left (by omega)]
theorem Vw.cell {h : Heap} {b o cap m i : Nat} {L : List Value} (s : Vw h (.slice (some ⟨b, o, none⟩) m cap) 1 m L) (hi : i < m) : cellO (o + i * 1) h[b]? = L[i]? := by
  rcases s.2 with ⟨h0, _⟩ | ⟨b', o', cap', c, e, f, hv, hc, hB, hr, hL⟩
  · cases h0
  · cases hv
    rw [hB, Nat.mul_one]
    simp only [cellO]
    rw [← hL, List.getElem?_take, if_pos (by omega), List.getElem?_drop, Array.getElem?_toList]
theorem Vw.src {h : Heap} {v : Value} {size m : Nat} {L : List Value} (s : Vw h v size m L) {k : Nat} (hk : k ≤ m) : srcCells h (k * size) v = some (L.take (k * size)) := by
  have hm : k * size ≤ m * size := Nat.mul_le_mul_right _ hk
  rcases s.2 with ⟨rfl, rfl⟩ | ⟨b, o, cap, c, e, f, rfl, hc, hB, hr, hL⟩
  · have h1 := s.1
    have h0 : L = [] := by simpa using h1
    subst h0; simp [srcCells]
  · simp only [srcCells, cells?, hB]
    rw [if_pos (by omega), ← hL, List.take_take, Nat.min_eq_left hm]
theorem Vw.srcAll {h : Heap} {v : Value} {size m : Nat} {L : List Value} (s : Vw h v size m L) : srcCells h (m * size) v = some L := by
  rw [s.src (Nat.le_refl m), ← s.1, List.take_length]
theorem Vw.srcMid {h : Heap} {b o cap size m i k : Nat} {L : List Value} (s : Vw h (.slice (some ⟨b, o, none⟩) m cap) size m L) (hi : i + k ≤ m) (m' c' : Nat) : srcCells h (k * size) (.slice (some ⟨b, o + i * size, none⟩) m' c') = some ((L.drop (i * size)).take (k * size)) := by
  rcases s.2 with ⟨h0, _⟩ | ⟨b', o', cap', c, e, f, hv, hc, hB, hr, hL⟩
  · cases h0
  · cases hv
    have hm : i * size + k * size ≤ m * size := by rw [← Nat.add_mul]; exact Nat.mul_le_mul_right _ hi
    simp only [srcCells, cells?, hB]
    rw [if_pos (by omega), ← hL, List.drop_take, List.take_take, List.drop_drop, Nat.min_eq_left (by omega)]
theorem Vw.srcDrop {h : Heap} {b o cap size m i : Nat} {L : List Value} (s : Vw h (.slice (some ⟨b, o, none⟩) m cap) size m L) (hi : i ≤ m) (m' c' : Nat) : srcCells h ((m - i) * size) (.slice (some ⟨b, o + i * size, none⟩) m' c') = some (L.drop (i * size)) := by
  rw [s.srcMid (by omega) m' c', List.take_of_length_le]
  rw [List.length_drop, s.1, Nat.sub_mul]; omega
theorem Vw.len {h : Heap} {v : Value} {size m : Nat} {L : List Value} (s : Vw h v size m L) : lenOfV v = some m := by
  obtain ⟨a, cap, rfl, _⟩ := s.shape; rfl

/-! ### lists of things in a slice -/
section lists
variable {α : Type} {enc : α → List Value} {size : Nat}
def flat (enc : α → List Value) (xs : List α) : List Value := xs.flatMap enc
theorem flat_nil : flat enc [] = [] := rfl
theorem flat_cons (x : α) (xs : List α) : flat enc (x :: xs) = enc x ++ flat enc xs := rfl
theorem flat_app (xs ys : List α) : flat enc (xs ++ ys) = flat enc xs ++ flat enc ys := List.flatMap_append
theorem flat_all (he : ∀ x, (enc x).all one = true) (xs : List α) : (flat enc xs).all one = true := by
  simp only [flat, List.all_flatMap]
  exact List.all_eq_true.2 fun x _ => he x
theorem flat_len (he : ∀ x, (enc x).length = size) (xs : List α) : (flat enc xs).length = xs.length * size := by
  induction xs with
  | nil => simp [flat]
  | cons x xs ih => rw [flat_cons, List.length_append, he, ih, List.length_cons, Nat.add_mul, Nat.one_mul, Nat.add_comm]
theorem flat_drop (he : ∀ x, (enc x).length = size) : ∀ (i : Nat) (xs : List α), (flat enc xs).drop (i * size) = flat enc (xs.drop i)
  | 0, xs => by simp
  | i + 1, [] => by simp [flat]
  | i + 1, x :: xs => by
    rw [flat_cons, List.drop_succ_cons, ← flat_drop he i xs, Nat.add_mul, Nat.one_mul, Nat.add_comm, ← List.drop_drop, ← he x, List.drop_left]
theorem flat_take (he : ∀ x, (enc x).length = size) : ∀ (i : Nat) (xs : List α), (flat enc xs).take (i * size) = flat enc (xs.take i)
  | 0, xs => by simp [flat]
  | i + 1, [] => by simp [flat]
  | i + 1, x :: xs => by
    rw [flat_cons, List.take_succ_cons, flat_cons, ← flat_take he i xs, Nat.add_mul, Nat.one_mul, Nat.add_comm, ← he x, List.take_length_add_append]

/-- a slice of things. -/
def Vs (h : Heap) (v : Value) (enc : α → List Value) (size : Nat) (xs : List α) : Prop := Vw h v size xs.length (flat enc xs)
theorem Vs.nil (h : Heap) : Vs h (.slice none 0 0) enc size [] := Vw.nil h size
theorem Vs.mono {h h' : Heap} {v : Value} {xs : List α} (s : Vs h v enc size xs) (k : ∀ b, blk v = some b → h'[b]? = h[b]?) : Vs h' v enc size xs := Vw.mono s k
theorem Vs.blk_lt {h : Heap} {v : Value} {b : Nat} {xs : List α} (s : Vs h v enc size xs) (k : blk v = some b) : b < h.size := Vw.blk_lt s k
theorem Vs.keeps {n : Nat} {h h' : Heap} {v : Value} {xs : List α} (s : Vs h v enc size xs) (k : Keeps n h h') (hb : ∀ b, blk v = some b → b < n) : Vs h' v enc size xs := Vw.keeps s k hb
theorem Vs.ext {h h' : Heap} {v : Value} {xs : List α} (s : Vs h v enc size xs) (k : Keeps h.size h h') : Vs h' v enc size xs := Vw.ext s k
theorem Vs.shape {h : Heap} {v : Value} {xs : List α} (s : Vs h v enc size xs) : ∃ a cap, v = .slice a xs.length cap ∧ xs.length ≤ cap := Vw.shape s
theorem Vs.open {h : Heap} {v : Value} {i : Nat} {xs : List α} (s : Vs h v enc size xs) (hi : i < xs.length) : ∃ b o cap, v = .slice (some ⟨b, o, none⟩) xs.length cap ∧ xs.length ≤ cap ∧ b < h.size := Vw.open s hi
theorem Vs.elem (he : ∀ x, (enc x).length = size) {h : Heap} {b o m cap i : Nat} {xs : List α} (s : Vs h (.slice (some ⟨b, o, none⟩) m cap) enc size xs) (hi : i < xs.length) : cellsO (o + i * size) size h[b]? = some (enc xs[i]) := by
  have hm : m = xs.length := by obtain ⟨_, _, e, _⟩ := s.shape; simp only [Value.slice.injEq] at e; exact e.2.1
  subst hm
  rw [Vw.cells s hi, flat_drop he]
  have h1 : size = 1 * size := by omega
  have h2 := flat_take he 1 (xs.drop i)
  rw [Nat.one_mul] at h2
  rw [h2, List.drop_eq_getElem_cons hi, List.take_succ_cons, List.take_zero, flat_cons, flat_nil, List.append_nil]
theorem Vs.field (he : ∀ x, (enc x).length = size) {h : Heap} {b o m cap i j : Nat} {xs : List α} (s : Vs h (.slice (some ⟨b, o, none⟩) m cap) enc size xs) (hi : i < xs.length) (hj : j < size) : cellO (o + i * size + j) h[b]? = (enc xs[i])[j]? := by
  have h1 := s.elem he hi
  cases hb : h[b]? with
  | none => rw [hb] at h1; simp [cellsO] at h1
  | some x =>
    rw [hb] at h1
    cases x <;> simp only [cellsO] at h1 <;> try (cases h1; done)
    rename_i c e f
    split at h1
    · simp only [Option.some.injEq] at h1
      simp only [cellO]
      rw [← h1, List.getElem?_take, if_pos hj, List.getElem?_drop, Array.getElem?_toList]
    · cases h1
/-- a slice of things of one's own. -/
def Ss (h : Heap) (lo : Nat) (v : Value) (e : Nat) (enc : α → List Value) (size : Nat) (xs : List α) : Prop := Sl h lo v e size xs.length (flat enc xs)
theorem Ss.vs {h : Heap} {lo e : Nat} {v : Value} {xs : List α} (s : Ss h lo v e enc size xs) : Vs h v enc size xs := Sl.vw s
theorem Ss.mono {h h' : Heap} {lo e : Nat} {v : Value} {xs : List α} (s : Ss h lo v e enc size xs) (k : ∀ b, blk v = some b → h'[b]? = h[b]?) : Ss h' lo v e enc size xs := Sl.mono s k
theorem Ss.ext {h h' : Heap} {lo e : Nat} {v : Value} {xs : List α} (s : Ss h lo v e enc size xs) (k : Keeps h.size h h') : Ss h' lo v e enc size xs := s.mono fun b hb => k.old b (s.vs.blk_lt hb)
theorem Ss.le {h : Heap} {lo lo' e : Nat} {v : Value} {xs : List α} (s : Ss h lo v e enc size xs) (hl : lo' ≤ lo) : Ss h lo' v e enc size xs := by
  refine ⟨s.1, ?_⟩
  rcases s.2 with h0 | ⟨b, cap, rfl, hc, hlb, hr⟩
  · exact .inl h0
  · exact .inr ⟨b, cap, rfl, hc, by omega, hr⟩
theorem Ss.blk {h : Heap} {lo e b : Nat} {v : Value} {xs : List α} (s : Ss h lo v e enc size xs) (k : blk v = some b) : lo ≤ b ∧ b < h.size := Sl.blk_lt s k
theorem Ss.nil (h : Heap) (lo e : Nat) : Ss h lo (.slice none 0 0) e enc size [] := Sl.nil h lo e size
theorem Ss.push {h : Heap} {lo e : Nat} {v : Value} {xs : List α} (s : Ss h lo v e enc size xs) (o : Obj) : Ss (h.push o) lo v e enc size xs := Sl.push s o
/-- one more, out of the block that 'append' is handed. -/
theorem app_one {h : Heap} {t e by_ lo bx cx : Nat} {f : Nat × Nat} {z v : Value} {L : List Value} {xs : List α} {x : α} {K : Value → Heap → Prop} (T : ElT P t e size by_ z) (he : ∀ x, (enc x).length = size) (hv : Ss h lo v e enc size xs)
    (hx : h[bx]? = some (.cells L.toArray e f)) (hL : L = enc x) (ho : (enc x).all one = true) (hb : (xs.length + 1) * by_ ≤ 140737488355328) (hlo : lo ≤ h.size)
    (hk : ∀ v' h', Ss h' lo v' e enc size (xs ++ [x]) → Keeps lo h h' → (∀ c, c < h.size → blk v ≠ some c → h'[c]? = h[c]?) → (blk v' = blk v ∨ blk v' = some h.size) → K v' h') : @appK P h t t v (.slice (some ⟨bx, 0, none⟩) 1 cx) ⟨K⟩ := by
  subst hL
  refine app_sl T hv (n := 1) (new := enc x) rfl ?_ (by rw [he]; omega) ho hb rfl hlo ?_
  · simp only [srcCells, cells?, hx]
    rw [if_pos (by simp [he])]
    simp [← he x]
  · intro v' h' hs hg
    refine hk v' h' ?_ (hg.keeps (fun b hb => (hv.blk hb).1) hlo) (fun c hc hn => hg.2.1 c hc hn) hg.2.2
    unfold Ss
    rw [List.length_append, flat_app]
    simpa [flat] using hs
/-- one more, out of a block that was just made. -/
theorem app_push {h : Heap} {t e by_ lo bx cx : Nat} {z v : Value} {L : List Value} {xs : List α} {K : Value → Heap → Prop} (x : α) (T : ElT P t e size by_ z) (he : ∀ x, (enc x).length = size) (hv : Ss h lo v e enc size xs)
    (hbx : bx = h.size) (hL : L = enc x) (ho : (enc x).all one = true) (hb : (xs.length + 1) * by_ ≤ 140737488355328) (hlo : lo ≤ h.size)
    (hk : ∀ v' h', Ss h' lo v' e enc size (xs ++ [x]) → Keeps lo h h' → (∀ c, c < h.size → blk v ≠ some c → h'[c]? = h[c]?) → (∀ b, blk v' = some b → blk v = some b ∨ h.size ≤ b) → K v' h') :
    @appK P (h.push (.cells L.toArray e (0, 0))) t t v (.slice (some ⟨bx, 0, none⟩) 1 cx) ⟨K⟩ := by
  refine app_one (x := x) T he (hv.push _) (bx := bx) (L := L) (f := (0, 0)) (by subst hbx; simp) hL ho hb (by simp; omega) ?_
  intro v' h' S' K' F' B'
  refine hk v' h' S' ((Keeps.push h _ hlo).trans K') (fun c hc hn => ?_) (fun b hb => ?_)
  · rw [F' c (by simp; omega) hn, Array.getElem?_push, if_neg (by omega)]
  · rcases B' with e | e
    · exact .inl (by rw [← e, hb])
    · right; rw [hb] at e; simp at e; omega
theorem setL_len : ∀ (L : List Value) (o : Nat) (vs : List Value), (setL L o vs).length = L.length
  | [], o, vs => by simp [setL]
  | c :: cs, 0, v :: vs => by simp [setL, setL_len cs 0 vs]
  | c :: cs, 0, [] => by simp [setL]
  | c :: cs, o + 1, vs => by simp [setL, setL_len cs o vs]
theorem setL_right : ∀ (A B : List Value) (o : Nat) (vs : List Value), setL (A ++ B) (A.length + o) vs = A ++ setL B o vs
  | [], B, o, vs => by simp
  | a :: A, B, o, vs => by
    have := setL_right A B o vs
    rw [List.cons_append, List.length_cons, Nat.add_right_comm]
    simp [setL, this]
theorem setL_left : ∀ (A B : List Value) (o : Nat) (vs : List Value), o + vs.length ≤ A.length → setL (A ++ B) o vs = setL A o vs ++ B
  | [], B, o, vs, h => by
    have : vs = [] := by cases vs with | nil => rfl | cons v vs => simp at h
    subst this; rw [List.nil_append, setL_nil, setL_nil]; rfl
  | a :: A, B, 0, [], h => by simp [setL]
  | a :: A, B, 0, v :: vs, h => by
    have := setL_left A B 0 vs (by simp at h ⊢; omega)
    simp [setL, this]
  | a :: A, B, o + 1, vs, h => by
    have := setL_left A B o vs (by simp at h ⊢; omega)
    simp [setL, this]
theorem flat_set (he : ∀ x, (enc x).length = size) (x' : α) (j : Nat) (vs : List Value) : ∀ (xs : List α) (i : Nat) (hi : i < xs.length), j + vs.length ≤ size → enc x' = setL (enc xs[i]) j vs → setL (flat enc xs) (i * size + j) vs = flat enc (xs.set i x')
  | [], i, hi, _, _ => by simp at hi
  | x :: xs, 0, hi, hj, hx => by
    rw [flat_cons, Nat.zero_mul, Nat.zero_add, setL_left _ _ _ _ (by rw [he]; exact hj), List.set_cons_zero, flat_cons, hx]; rfl
  | x :: xs, i + 1, hi, hj, hx => by
    have := flat_set he x' j vs xs i (by simpa using hi) hj hx
    rw [flat_cons, Nat.add_mul, Nat.one_mul, Nat.add_comm (i * size), Nat.add_assoc, ← he x, setL_right, he x, this, List.set_cons_succ, flat_cons]
/-- a store into a part of an element of one's own. -/
theorem Ss.store (he : ∀ x, (enc x).length = size) {h : Heap} {lo e b o m cap i j : Nat} {xs : List α} {vs : List Value} (s : Ss h lo (.slice (some ⟨b, o, none⟩) m cap) e enc size xs) (x' : α) (hi : i < xs.length) (hj : j + vs.length ≤ size)
    (hx : enc x' = setL (enc xs[i]) j vs) (ho : vs.all one = true) : ∃ h', wrO h b (o + i * size + j) vs h[b]? = some h' ∧ Ss h' lo (.slice (some ⟨b, o, none⟩) m cap) e enc size (xs.set i x') ∧ h'.size = h.size ∧ Keeps lo h h' ∧ ∀ c, c ≠ b → h'[c]? = h[c]? := by
  rcases s.2 with ⟨h0, _⟩ | ⟨b', cap', hv, hc, hlb, rest, hB, hr⟩
  · cases h0
  · cases hv
    have h1 := s.1
    have h2 := flat_len he xs
    have hm : (i + 1) * size ≤ xs.length * size := Nat.mul_le_mul_right _ (by omega)
    rw [Nat.add_mul, Nat.one_mul] at hm
    have hbs := getElem?_lt hB
    rw [hB, h_wrO, if_pos ⟨by simp; omega, ho⟩]
    refine ⟨_, rfl, ⟨by rw [List.length_set, flat_len he, List.length_set], .inr ⟨b, cap, by rw [List.length_set], by rw [List.length_set]; exact hc, hlb, rest, ?_, ?_⟩⟩, by simp, Keeps.set _ hlb, fun c hc => by rw [Array.getElem?_setIfInBounds, if_neg (Ne.symm hc)]⟩
    · rw [Array.getElem?_setIfInBounds, if_pos rfl, if_pos hbs, Nat.zero_add, List.toList_toArray, setL_left _ _ _ _ (by omega), flat_set he x' j vs xs i hi hj hx]
    · rw [flat_len he, List.length_set]; omega
theorem Ss.mk (he : ∀ x, (enc x).length = size) {h : Heap} {lo e b m cap : Nat} {xs : List α} {C : List Value} (rest : List Value) (hb : h[b]? = some (.cells C.toArray e (0, 0))) (hC : C = flat enc xs ++ rest) (hm : m = xs.length) (hc : m ≤ cap) (hr : cap * size ≤ C.length) (hlo : lo ≤ b) :
    Ss h lo (.slice (some ⟨b, 0, none⟩) m cap) e enc size xs := by
  subst hm
  refine ⟨flat_len he xs, .inr ⟨b, cap, rfl, hc, hlo, rest, by rw [hb, hC], ?_⟩⟩
  rw [hC, List.length_append] at hr; exact hr
theorem Ss.open {h : Heap} {lo e : Nat} {v : Value} {xs : List α} (s : Ss h lo v e enc size xs) {i : Nat} (hi : i < xs.length) : ∃ b cap, v = .slice (some ⟨b, 0, none⟩) xs.length cap ∧ xs.length ≤ cap ∧ lo ≤ b ∧ b < h.size := by
  rcases s.2 with ⟨_, h0⟩ | ⟨b, cap, rfl, hc, hlb, rest, hB, hr⟩
  · omega
  · exact ⟨b, cap, rfl, hc, hlb, getElem?_lt hB⟩
end lists
end Go.SX
