/- Calls of functions without a body; slices.overlaps of two blocks; copies within memory of one's own. No condition. -/
import Derived.Test.YtajfhnphhdoobaaSxHeap
import Derived.Lib.Overlaps
import Derived.ChangeKeysEq
set_option linter.unusedVariables false
set_option linter.unusedSimpArgs false
namespace Go.SX
open Go.RowKit
variable {P : Program}
theorem Fn_extern {f : FuncId} {fn : Func} {e : Array Value → Sem Value} {args : List Value} {h : Heap} {R : Value → Heap → Prop} (hfn : P.funcs[f]? = some fn) (hname : (fn.name == "runtime.NumGoroutine") = false) (hb : fn.body.isNone = true)
    (h1 : Extern.findNext fn = none) (h2 : Extern.find fn = some e) (hrun : ∀ w, w.heap = h → ∃ v w', (e args.toArray).run P w = .ok v w' ∧ R v w'.heap ∧ Rest w w') : Fn P f args h R := by
  intro w hw
  obtain ⟨v, w', hr, hR, hrest⟩ := hrun w hw
  rw [run_callFunc_extern hfn hname hb h1 h2, hr]
  exact ⟨hR, hrest⟩
theorem overlaps_Fn {f : FuncId} {fn : Func} {tS tR e n : Nat} {h : Heap} {b1 o1 l1 c1 b2 o2 l2 c2 : Nat} {k1 k2 : Array Value} {e1 e2 : TypeId} (hfn : P.funcs[f]? = some fn) (hname : (fn.name == "runtime.NumGoroutine") = false) (hb : fn.body.isNone = true)
    (hx : Extern.findNext fn = none) (hy : Extern.find fn = some (Extern.SlicesOverlaps.overlaps #[tS, tS] #[tR])) (ht : P.underlying tS = some (.slice e)) (hz : szP P e = some n) (hne : b1 ≠ b2)
    (h1 : h[b1]? = some (.cells k1 e1 (0, 0))) (h2 : h[b2]? = some (.cells k2 e2 (0, 0))) (hk : k2.size ≠ 0) :
    Fn P f [.slice (some ⟨b1, o1, none⟩) l1 c1, .slice (some ⟨b2, o2, none⟩) l2 c2] h fun v h' => v = .bool false ∧ h' = h := by
  refine Fn_extern hfn hname hb hx hy ?_
  intro w hw
  subst hw
  refine ⟨_, w, Lib.run_overlaps_apart w tS tR e ht n ?_ ⟨b1, o1, none⟩ ⟨b2, o2, none⟩ l1 c1 l2 c2 hne e1 e2 k1.size k2.size (by simp [World.shape?, h1]) (by simp [World.shape?, h2]) hk (by simp [World.frozen?, h1]) (by simp [World.frozen?, h1]), ⟨rfl, rfl⟩, Rest.refl w⟩
  intro w'
  unfold szP at hz
  cases hi : P.info? e with
  | none => rw [hi] at hz; cases hz
  | some ti =>
    rw [hi] at hz
    simp at hz
    subst hz
    rw [run_sizeOf w' hi, Program.cellsOf, hi]; rfl

/-- 'setL' as three pieces. -/
theorem setL_eq : ∀ (L : List Value) (o : Nat) (vs : List Value), o + vs.length ≤ L.length → setL L o vs = L.take o ++ vs ++ L.drop (o + vs.length)
  | [], o, vs, h => by
    have h1 : vs = [] := by cases vs with | nil => rfl | cons v vs => simp at h
    subst h1; simp [setL]
  | c :: cs, 0, [], h => by simp [setL]
  | c :: cs, 0, v :: vs, h => by
    have := setL_eq cs 0 vs (by simp at h ⊢; omega)
    simp [setL, this]
  | c :: cs, o + 1, vs, h => by
    have := setL_eq cs o vs (by simp at h ⊢; omega)
    rw [Nat.add_right_comm]
    simp [setL, this]
theorem setL_zero (L E : List Value) (h : E.length ≤ L.length) : setL L 0 E = E ++ L.drop E.length := by
  rw [setL_eq L 0 E (by omega)]; simp
theorem ins_room (A D R E : List Value) (h : E.length ≤ R.length) : setL (setL (A ++ D ++ R) (A.length + E.length) D) A.length E = A ++ E ++ D ++ R.drop E.length := by
  have e0 := setL_right A (D ++ R) E.length D
  have e1 : setL (D ++ R) E.length D = (D ++ R).take E.length ++ D ++ (D ++ R).drop (E.length + D.length) := setL_eq _ _ _ (by simp; omega)
  have e2 : (D ++ R).drop (E.length + D.length) = R.drop E.length := by rw [Nat.add_comm, ← List.drop_drop, List.drop_left]
  have e3 : ((D ++ R).take E.length).length = E.length := by simp; omega
  have e4 := setL_right A ((D ++ R).take E.length ++ D ++ R.drop E.length) 0 E
  rw [Nat.add_zero] at e4
  rw [List.append_assoc A D R, e0, e1, e2, e4, setL_zero _ _ (by simp; omega)]
  have e5 := List.drop_left (l₁ := (D ++ R).take E.length) (l₂ := D ++ R.drop E.length)
  rw [e3] at e5
  rw [List.append_assoc ((D ++ R).take E.length), e5]
  simp
theorem ins_new (A D Z E : List Value) (h : E.length + D.length ≤ Z.length) : setL (setL (A ++ Z) A.length E) (A.length + E.length) D = A ++ E ++ D ++ Z.drop (E.length + D.length) := by
  have e0 := setL_right A Z 0 E
  rw [Nat.add_zero] at e0
  rw [e0, setL_right, setL_zero _ _ (by omega)]
  have e1 := setL_right E (Z.drop E.length) 0 D
  rw [Nat.add_zero] at e1
  rw [e1, setL_zero _ _ (by simp; omega), List.drop_drop]
  simp
/-- a copy into a block. -/
theorem copy_into {h : Heap} {t e size b o dl dc m : Nat} {et : TypeId} {s : Value} {c : Array Value} {cs : List Value} {K : Value → Heap → Prop} (hsl : slE P t = some (e, size)) (hstr : strOK size s = true) (hm : lenOfV s = some m)
    (hs : srcCells h (min m dl * size) s = some cs) (hB : h[b]? = some (.cells c et (0, 0))) (ho : cs.all one = true) (hlen : o + cs.length ≤ c.size)
    (hk : K (.int .i64 (min m dl : Nat)) (h.setIfInBounds b (.cells (setL c.toList o cs).toArray et (0, 0)))) : @copyK P h t (.slice (some ⟨b, o, none⟩) dl dc) s ⟨K⟩ := by
  unfold copyK copyW
  simp only [hsl, obind, hstr, hm, hs, wrS, wr, hB, Nat.add_zero, true_and]
  rw [if_pos ⟨hlen, .inl (Nat.le_refl _), ho⟩]
  exact hk
theorem zeros_add (z : Value) (a b : Nat) : zeros z (a + b) = zeros z a ++ zeros z b := by
  simp only [zeros, Builtin.zeroCells, Array.toList_map, Array.toList_range]
  rw [Nat.add_mul, List.range_add, List.map_append, List.map_map]
  congr 1
  apply List.map_congr_left
  intro i _
  simp [Function.comp, Nat.add_comm (a * z.cells.size)]
/-- append(s, make([]T, k)...) where there is no room. -/
theorem app_make {h : Heap} {t tx e size by_ sl sc o b : Nat} {z : Value} {k : Int} {old : List Value} {K : Value → Heap → Prop} (T : ElT P t e size by_ z) (hx : (P.underlying tx).map isIntD = some true) (hk0 : 0 ≤ k) (hroom : (sc : Int) < sl + k)
    (hold : srcCells h (sl * size) (.slice (some ⟨b, o, none⟩) sl sc) = some old) (hb : ((sl : Int) + k) * by_ ≤ 140737488355328)
    (hk : ∀ cap : Nat, (sl : Int) + k ≤ cap → K (.slice (some ⟨h.size, 0, none⟩) (sl + k.toNat) cap) (h.push (.cells (old ++ zeros z (cap - sl)).toArray e (0, 0)))) : @appK P h t tx (.slice (some ⟨b, o, none⟩) sl sc) (.int .i64 k) ⟨K⟩ := by
  obtain ⟨n, rfl⟩ := Int.eq_ofNat_of_zero_le hk0
  have hp := T.pos
  have hb' : (sl + n) * by_ ≤ 140737488355328 := by
    have : (((sl + n) * by_ : Nat) : Int) ≤ 140737488355328 := by rw [Int.natCast_mul, Int.natCast_add]; exact hb
    omega
  have hle : sl + n ≤ (sl + n) * by_ := Nat.le_mul_of_pos_right _ hp
  have hle2 : n * by_ ≤ (sl + n) * by_ := Nat.mul_le_mul_right _ (by omega)
  cases hd : P.underlying tx with
  | none => rw [hd] at hx; cases hx
  | some d =>
  rw [hd] at hx
  have hx : isIntD d = true := by simpa only [Option.map_some, Option.some.injEq] using hx
  unfold appK appendW
  simp only [T.sl, hd, obind, hx, if_true, T.bt, T.ze, Int.toNat_natCast, AppW]
  refine ⟨⟨by omega, by omega⟩, by omega, fun h0 => by omega, fun h0 => ⟨hp, hb', ?_⟩⟩
  have hold' : srcCells h (sl * size) (.slice (some ⟨b, o, none⟩) sl sc) = some old := hold
  rw [hold']
  simp only
  intro cap hcap
  have hz : zeros z n ++ zeros z (cap - (sl + n)) = zeros z (cap - sl) := by
    have e1 : cap - sl = n + (cap - (sl + n)) := by omega
    rw [e1, zeros_add]
  have hif : (if n * size = 0 then [] else zeros z n) = zeros z n := by
    split
    · rename_i q
      have := zeros_len T.zs n
      rw [q] at this
      exact (List.length_eq_zero_iff.1 this).symm
    · rfl
  rw [hif, List.append_assoc, hz]
  have := hk cap (by omega)
  simpa using this
end Go.SX
