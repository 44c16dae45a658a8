/- The machine's state, by value: set and told. No condition. -/
import Derived.Test.YteoiokeiddlchaaGreatHC
import Derived.Test.YteoiokeiddlchaaGreatSxArr
set_option linter.unusedVariables false
set_option linter.unusedSimpArgs false
namespace Go.SX.G
open Go Go.SX Go.Proofs
set_option maxRecDepth 100000
set_option maxHeartbeats 2000000
/-- a state by value. -/
def sv (f : Nat → Value) : Value := .agg (fnL 35 f).toArray
/-- the cells of a state. -/
def okS (f : Nat → Value) : Prop := (∀ i, i < 34 → ∃ n, f i = .int .u64 n) ∧ ∃ n, f 34 = .int .i64 n
theorem okS.one {f : Nat → Value} (ok : okS f) : (fnL 35 f).all one = true := by
  rw [List.all_eq_true]
  intro x hx
  obtain ⟨i, hi, rfl⟩ := List.mem_map.1 hx
  have hi := List.mem_range.1 hi
  by_cases q : i = 34
  · obtain ⟨n, e⟩ := ok.2; rw [q, e]; rfl
  · obtain ⟨n, e⟩ := ok.1 i (by omega); rw [e]; rfl
def hO (g : Nat → Value) : Obj := .cells (fnL 37 g).toArray 47 (0, 0)
def zeroAt (f : Nat → Value) : Nat → Value := fun i => if i = 1 then .int .u64 0 else f i
theorem okS.zero {f : Nat → Value} (ok : okS f) : okS (zeroAt f) := by
  refine ⟨fun i hi => ?_, ?_⟩
  · unfold zeroAt
    by_cases q : i = 1
    · rw [if_pos q]; exact ⟨_, rfl⟩
    · rw [if_neg q]; exact ok.1 i hi
  · unfold zeroAt; rw [if_neg (by omega)]; exact ok.2
theorem hset_c {h : Heap} {hb : Nat} {f g : Nat → Value} (H : h[hb]? = some (hO g)) (ok : okS f) :
    Fn Tryz.prog 4 [ptr hb 0, sv f] h fun x h' => x = .tuple #[] ∧ h'[hb]? = some (hO fun i => if i < 35 then zeroAt f i else g i) ∧ h.size ≤ h'.size ∧ ∀ b, b < h.size → b ≠ hb → h'[b]? = h[b]? := by
  have lh := getElem?_lt H
  have b1 : (h.push (.cells (fnL 35 (fun i => if i = 1 then Value.int .u64 0 else f i)).toArray 27))[hb]? = some (hO g) := by rw [h_pushL _ _ _ lh]; exact H
  unfold hO at b1
  obtain ⟨h2, w2, c2, z2, o2⟩ := fnL_wr (o := 0) (k := 35) (g := fun i => if i = 1 then Value.int .u64 0 else f i) b1 (by omega) ok.zero.one
  rw [h_pushL _ _ _ lh] at w2
  have l1 : cellsO 0 35 (some (.cells (fnL 35 (fun i => if i = 1 then Value.int .u64 0 else f i)).toArray 27 (0, 0))) = some (fnL 35 (fun i => if i = 1 then Value.int .u64 0 else f i)) := by rw [fnL_cells (by omega)]; simp
  have one := ok.one
  unfold sv
  refine Fn_c Tryz.func4 mixed c4 (by kernel_rfl) ?_; rw [r4]
  simp -implicitDefEqProofs (disch := first | omega | (simp only [h_szP, h_szS]; done) | (simp only [h_szP, h_szS]; omega)) only [go_sem, Nat.reduceBEq, reduceCtorEq, Nat.reduceAdd, Int.reduceEq, Int.reduceLT, Int.reduceLE, Int.reduceMul, Int.reduceAdd, Int.reduceSub, reduceIte, Nat.reduceLeDiff, Nat.reduceLT, Nat.reduceMul, Nat.reduceSub, Int.reduceToNat, s4, Tryz.underlying28, fo27_1, ar23, sz22, sh27, fo47_0, sz27, fnL_len, fnL_set, l1, w2, one]
  refine ⟨?_, by rw [z2]; simp, fun b hb' n => by rw [o2 b n, h_pushL _ _ _ hb']⟩
  rw [c2]
  refine congrArg (fun l => some (Obj.cells (List.toArray l) 47 (0, 0))) (fnL_congr fun i hi => ?_)
  by_cases q : i < 35
  · rw [if_pos (by omega), if_pos q]; rfl
  · rw [if_neg (by omega), if_neg q]
/-- a machine's state, told. -/
theorem hstate_c {h : Heap} {hb : Nat} {g : Nat → Value} (H : h[hb]? = some (hO g)) (ok : okS g) :
    Fn Tryz.prog 7 [ptr hb 0] h fun x h' => x = sv g ∧ Keeps h.size h h' := by
  have lh := getElem?_lt H
  unfold hO at H
  have one := ok.one
  have l1 : cellsO 0 35 h[hb]? = some (fnL 35 g) := by rw [H, fnL_cells (by omega)]; simp
  refine Fn_c Tryz.func7 mixed c7 (by kernel_rfl) ?_; rw [r7]
  simp -implicitDefEqProofs (disch := first | omega | (simp only [h_szP, h_szS]; done) | (simp only [h_szP, h_szS]; omega)) only [go_sem, Nat.reduceBEq, reduceCtorEq, Nat.reduceAdd, Int.reduceEq, Int.reduceLT, Int.reduceLE, Int.reduceMul, Int.reduceAdd, Int.reduceSub, reduceIte, Nat.reduceLeDiff, Nat.reduceLT, Nat.reduceMul, Nat.reduceSub, Int.reduceToNat, s7, zc27, Tryz.underlying28, sd27, sz27, fo47_0, sh27, fnL_len, l1, one, setL_35, fnL_take]
  exact ⟨rfl, Keeps.push _ _ (Nat.le_refl _)⟩
end Go.SX.G
