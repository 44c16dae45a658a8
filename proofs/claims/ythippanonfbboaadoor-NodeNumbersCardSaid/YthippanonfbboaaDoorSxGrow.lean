/- Slices of one's own: grown by noughts, written into, cut short. No program. -/
import Derived.Test.YthippanonfbboaaDoorPagePlain
set_option linter.unusedVariables false
set_option linter.unusedSimpArgs false
namespace Go.SX
open Go.RowKit
variable {P : Program}
theorem AppW_sl {h : Heap} {t e size by_ m m' n lo c : Nat} {z : Value} {a : Option Addr} {L new : List Value} {K : Value → Heap → Prop} (T : ElT P t e size by_ z) (hv : Sl h lo (.slice a m' c) e size m L)
    (hl : new.length = n * size) (ho : new.all one = true) (hb : (m + n) * by_ ≤ 140737488355328) (hlo : lo ≤ h.size)
    (hk : ∀ v' h', Sl h' lo v' e size (m + n) (L ++ new) → Grow h (.slice a m' c) h' v' → K v' h') : AppW P h e size a m' c n new K := by
  obtain ⟨hL, hv⟩ := hv
  have hLn : (L ++ new).length = (m + n) * size := by rw [List.length_append, hL, hl, Nat.add_mul]
  rcases hv with ⟨e0, rfl⟩ | ⟨b, cap, e0, hmc, hlb, rest, hB, hcap⟩
  · injection e0 with e1 e2 e3
    subst e1 e2 e3
    have hL0 : L = [] := by simpa using hL
    subst hL0
    simp only [obind, AppW, wrS, T.bt, T.ze]
    simp only [srcCells]
    refine ⟨fun h0 => ?_, fun h0 => ⟨T.pos, by simpa using hb, fun c hc => ?_⟩⟩
    · have hn0 : n = 0 := by omega
      subst hn0
      have hn : new = [] := List.length_eq_zero_iff.1 (by rw [hl]; simp)
      subst hn
      exact hk _ _ ⟨hLn, .inl ⟨by simp, rfl⟩⟩ ⟨Nat.le_refl _, fun _ _ _ => rfl, .inl (by simp [blk])⟩
    · refine hk _ _ ⟨hLn, .inr ⟨_, c, rfl, hc, hlo, zeros z (c - (0 + n)), by simp, ?_⟩⟩ ⟨by simp, fun c hc _ => by rw [Array.getElem?_push, if_neg (by omega)], .inr (by simp [blk])⟩
      have e1 := zeros_len T.zs (c - (0 + n))
      rw [e1, List.nil_append, hl, ← Nat.add_mul]; exact Nat.mul_le_mul_right _ (by omega)
  · injection e0 with e1 e2 e3
    subst e1 e2 e3
    have hbs := getElem?_lt hB
    have hr : ¬ (L ++ rest).toArray.size < m' * size := by simp [hL]
    simp only [obind, AppW, wrS, wr, T.bt, T.ze]
    simp only [srcCells, cells?, hB, obind]
    refine ⟨fun h0 => ?_, fun h0 => ⟨T.pos, hb, ?_⟩⟩
    · have hroom : new.length ≤ rest.length := by
        have : (m' + n) * size ≤ c * size := Nat.mul_le_mul_right _ h0
        rw [Nat.add_mul] at this; omega
      have hif : 0 + m' * size + new.length ≤ (L ++ rest).toArray.size ∧ (0 ≤ 0 ∨ 0 ≤ 0 + m' * size ∨ 0 + m' * size + new.length ≤ 0) ∧ new.all one = true := by
        refine ⟨by simp [hL]; omega, .inl (Nat.le_refl _), ho⟩
      rw [if_pos hif]
      simp only
      refine hk _ _ ⟨hLn, .inr ⟨b, c, rfl, h0, hlb, rest.drop new.length, ?_, ?_⟩⟩ ⟨by simp, fun c hc hne => ?_, .inl (by simp [blk])⟩
      · rw [Array.getElem?_setIfInBounds, if_pos rfl, if_pos hbs]
        simp only [Nat.zero_add, List.toList_toArray]
        rw [← hL, setL_app _ _ _ hroom]
      · rw [List.length_append, List.length_drop]; omega
      · rw [Array.getElem?_setIfInBounds, if_neg (fun e => hne (by simp [blk, e]))]
    · have hif : 0 + m' * size ≤ (L ++ rest).toArray.size := by simp [hL]
      rw [if_pos hif]
      simp only [List.toList_toArray, List.drop_zero]
      intro c hc
      have htk : (L ++ rest).take (m' * size) = L := by rw [← hL, List.take_left]
      rw [htk]
      refine hk _ _ ⟨hLn, .inr ⟨_, c, rfl, hc, hlo, zeros z (c - (m' + n)), by simp, ?_⟩⟩ ⟨by simp, fun c hc _ => by rw [Array.getElem?_push, if_neg (by omega)], .inr (by simp [blk])⟩
      have e1 := zeros_len T.zs (c - (m' + n))
      rw [e1, List.length_append, hL, hl, ← Nat.add_mul, ← Nat.add_mul]; exact Nat.mul_le_mul_right _ (by omega)
/-- append(s, make([]T, n)...). -/
theorem app_zeros {h : Heap} {t tx e size by_ m n lo : Nat} {z v : Value} {L : List Value} {K : Value → Heap → Prop} (T : ElT P t e size by_ z) (hx : (P.underlying tx).map isIntD = some true) (hv : Sl h lo v e size m L)
    (ho : (zeros z n).all one = true) (hb : (m + n) * by_ ≤ 140737488355328) (hlo : lo ≤ h.size)
    (hk : ∀ v' h', Sl h' lo v' e size (m + n) (L ++ zeros z n) → Grow h v h' v' → K v' h') : @appK P h t tx v (.int .i64 n) ⟨K⟩ := by
  obtain ⟨a, cap, e1, _⟩ := hv.vw.shape
  subst e1
  have hp := T.pos
  have hle : m + n ≤ (m + n) * by_ := Nat.le_mul_of_pos_right _ hp
  have hle2 : n * by_ ≤ (m + n) * by_ := Nat.mul_le_mul_right _ (by omega)
  cases hd : P.underlying tx with
  | none => rw [hd] at hx; cases hx
  | some d =>
  rw [hd] at hx
  have hx : isIntD d = true := by simpa only [Option.map_some, Option.some.injEq] using hx
  have hif : (if n * size = 0 then [] else zeros z n) = zeros z n := by
    split
    · rename_i q
      have := zeros_len T.zs n
      rw [q] at this
      exact (List.length_eq_zero_iff.1 this).symm
    · rfl
  unfold appK appendW
  simp only [T.sl, hd, obind, hx, if_true, T.bt, T.ze, Int.toNat_natCast, hif]
  exact ⟨⟨by omega, by omega⟩, by omega, AppW_sl T hv (zeros_len T.zs n) ho hb hlo hk⟩
theorem zeros_u8 (n : Nat) : zeros (.int .u8 0) n = flat encB (List.replicate n 0) := by
  rw [encB_rep]
  apply List.ext_getElem
  · rw [zeros_len (size := 1) rfl]; simp
  · intro i h1 h2
    simp [zeros, Builtin.zeroCells, Value.cells, Nat.mod_one]
/-- cells laid into a slice of one's own. -/
theorem Sl.lay {h : Heap} {lo e size m b cap o : Nat} {L cs : List Value} (s : Sl h lo (.slice (some ⟨b, 0, none⟩) m cap) e size m L) (ho : o + cs.length ≤ L.length) : ∃ c : Array Value, h[b]? = some (.cells c e (0, 0)) ∧ o + cs.length ≤ c.size ∧
    Sl (h.setIfInBounds b (.cells (setL c.toList o cs).toArray e (0, 0))) lo (.slice (some ⟨b, 0, none⟩) m cap) e size m (setL L o cs) := by
  rcases s.2 with ⟨q, _⟩ | ⟨b', cap', q, hc, hlb, rest, hB, hr⟩
  · cases q
  · cases q
    refine ⟨_, hB, by simp; omega, by rw [setL_len]; exact s.1, .inr ⟨b, cap, rfl, hc, hlb, rest, ?_, by rw [setL_len]; exact hr⟩⟩
    rw [Array.getElem?_setIfInBounds, if_pos rfl, if_pos (getElem?_lt hB)]
    simp only [List.toList_toArray]
    rw [setL_left _ _ _ _ ho]
/-- the first k elements, with no room behind them. -/
theorem Sl.cut {h : Heap} {lo e size m k : Nat} {v : Value} {L : List Value} (s : Sl h lo v e size m L) (hk : k ≤ m) : ∃ a cap, v = .slice a m cap ∧ m ≤ cap ∧ (a = none → cap = 0) ∧ Sl h lo (.slice a k k) e size k (L.take (k * size)) := by
  rcases s.2 with ⟨rfl, h0⟩ | ⟨b, cap, rfl, hc, hlb, rest, hB, hr⟩
  · subst h0
    obtain rfl : k = 0 := by omega
    exact ⟨none, 0, rfl, Nat.le_refl _, fun _ => rfl, by simp, .inl ⟨rfl, rfl⟩⟩
  · have hkm : k * size ≤ m * size := Nat.mul_le_mul_right _ hk
    refine ⟨_, cap, rfl, hc, (fun q => nomatch q), by rw [List.length_take, s.1, Nat.min_eq_left hkm], .inr ⟨b, k, rfl, Nat.le_refl _, hlb, L.drop (k * size) ++ rest, ?_, ?_⟩⟩
    · rw [← List.append_assoc, List.take_append_drop]; exact hB
    · rw [List.length_take, List.length_append, List.length_drop, s.1]; omega
/-- bytes at a place: those there are kept but for these, and noughts stand between. -/
def putD (D : List Nat) (k : Nat) (bs : List Nat) : List Nat :=
  if bs = [] then D else (D ++ List.replicate (k + bs.length - D.length) 0).take k ++ bs ++ D.drop (k + bs.length)
theorem putD_len (D : List Nat) (k : Nat) (bs : List Nat) (hb : bs ≠ []) : (putD D k bs).length = max D.length (k + bs.length) := by
  unfold putD
  rw [if_neg hb]
  have : 0 < bs.length := List.length_pos_iff.2 hb
  simp only [List.length_append, List.length_take, List.length_drop, List.length_replicate]
  omega
theorem putD_le {D bs : List Nat} {k n : Nat} (h1 : D.length ≤ n) (h2 : k + bs.length ≤ n) : (putD D k bs).length ≤ n := by
  by_cases hb : bs = []
  · unfold putD; rw [if_pos hb]; exact h1
  · rw [putD_len _ _ _ hb]; omega
theorem setL_flatB (E bs : List Nat) (k : Nat) (h : k + bs.length ≤ E.length) : setL (flat encB E) k (flat encB bs) = flat encB (E.take k ++ bs ++ E.drop (k + bs.length)) := by
  rw [setL_eq _ _ _ (by simp only [encB_flat, List.length_map]; exact h)]
  simp only [encB_flat, List.map_append, List.map_take, List.map_drop, List.length_map]
theorem putD_eq {D bs : List Nat} {k : Nat} (hb : bs ≠ []) : (D ++ List.replicate (k + bs.length - D.length) 0).take k ++ bs ++ (D ++ List.replicate (k + bs.length - D.length) 0).drop (k + bs.length) = putD D k bs := by
  unfold putD
  rw [if_neg hb]
  congr 1
  rw [List.drop_append]
  have : List.drop (k + bs.length - D.length) (List.replicate (k + bs.length - D.length) 0) = ([] : List Nat) := by simp
  rw [this, List.append_nil]
end Go.SX
