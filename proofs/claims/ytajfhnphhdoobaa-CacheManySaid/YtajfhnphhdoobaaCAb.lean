/- A cache: stamps, New, Len, Clear. No condition but on sizes. -/
import Derived.Test.YtajfhnphhdoobaaCA
set_option linter.unusedVariables false
set_option linter.unusedSimpArgs false
namespace Go.SX.G
open Go Go.SX Go.Proofs
set_option maxRecDepth 100000
set_option maxHeartbeats 2000000
theorem mstamp_c {h : Heap} {s : Nat} {M : MemD} (n : Nat) (r : MR h s M) : Fn Try.prog 59 [ptr s 0, .int .u64 n] h fun x h' => x = .int .u64 (stampV M.D n : Nat) ∧ h' = h := by
  have ht := r.top
  refine Fn_c Try.func59 mixed c59 (by kernel_rfl) ?_; rw [r59]
  simp -implicitDefEqProofs (disch := first | omega | (simp only [h_szP, h_szS]; done) | (simp only [h_szP, h_szS]; omega)) only [go_sem, Nat.reduceBEq, reduceCtorEq, Nat.reduceAdd, Int.reduceEq, Int.reduceLT, Int.reduceLE, Int.reduceMul, Int.reduceAdd, Int.reduceSub, reduceIte, Nat.reduceLeDiff, Nat.reduceLT, Nat.reduceMul, Nat.reduceSub, Int.reduceToNat, s59, Try.underlying23, fo78_1, sh75, ht]
  refine FnK.val (stamp_c n r.sr) ?_
  simp -implicitDefEqProofs (disch := first | omega | (simp only [h_szP, h_szS]; done) | (simp only [h_szP, h_szS]; omega)) only [go_sem, Nat.reduceBEq, reduceCtorEq, Nat.reduceAdd, Int.reduceEq, Int.reduceLT, Int.reduceLE, Int.reduceMul, Int.reduceAdd, Int.reduceSub, reduceIte, Nat.reduceLeDiff, Nat.reduceLT, Nat.reduceMul, Nat.reduceSub, Int.reduceToNat, s59, Try.underlying23, fo78_1, sh75]
theorem stamps_c {h : Heap} {s : Nat} {M : MemD} (a : Nat) (z : Int) (r : MR h s M) (ha : a < 274877906944) (hz : z = 2 ∨ z = 4) :
    Fn Try.prog 32 [ptr s 0, .int .u64 a, .int .i64 z] h fun x h' => x = .tuple #[.int .u64 (stampV M.D (a / 4096) : Nat), .int .u64 (stampV M.D (lastP a z) : Nat)] ∧ h' = h := by
  have e1 : ((a : Int) / 4096) = ((a / 4096 : Nat) : Int) := by omega
  have e2 : ((a : Int) + z - 1) / 4096 = ((lastP a z : Nat) : Int) := by
    unfold lastP
    rcases hz with rfl | rfl
    · rw [show (2 : Int).toNat = 2 from rfl]; omega
    · rw [show (4 : Int).toNat = 4 from rfl]; omega
  refine Fn_c Try.func32 mixed c32 (by kernel_rfl) ?_; rw [r32]
  simp -implicitDefEqProofs (disch := first | omega | (simp only [h_szP, h_szS]; done) | (simp only [h_szP, h_szS]; omega)) only [go_sem, Nat.reduceBEq, reduceCtorEq, Nat.reduceAdd, Int.reduceEq, Int.reduceLT, Int.reduceLE, Int.reduceMul, Int.reduceAdd, Int.reduceSub, reduceIte, Nat.reduceLeDiff, Nat.reduceLT, Nat.reduceMul, Nat.reduceSub, Int.reduceToNat, s32, Try.underlying26, Try.underlying3, e1]
  refine FnK.val (mstamp_c (a / 4096) r) ?_
  simp -implicitDefEqProofs (disch := first | omega | (simp only [h_szP, h_szS]; done) | (simp only [h_szP, h_szS]; omega)) only [go_sem, Nat.reduceBEq, reduceCtorEq, Nat.reduceAdd, Int.reduceEq, Int.reduceLT, Int.reduceLE, Int.reduceMul, Int.reduceAdd, Int.reduceSub, reduceIte, Nat.reduceLeDiff, Nat.reduceLT, Nat.reduceMul, Nat.reduceSub, Int.reduceToNat, s32, Try.underlying26, Try.underlying3, e2]
  refine FnK.val (mstamp_c (lastP a z) r) ?_
  simp -implicitDefEqProofs (disch := first | omega | (simp only [h_szP, h_szS]; done) | (simp only [h_szP, h_szS]; omega)) only [go_sem, Nat.reduceBEq, reduceCtorEq, Nat.reduceAdd, Int.reduceEq, Int.reduceLT, Int.reduceLE, Int.reduceMul, Int.reduceAdd, Int.reduceSub, reduceIte, Nat.reduceLeDiff, Nat.reduceLT, Nat.reduceMul, Nat.reduceSub, Int.reduceToNat, s32, Try.underlying26, Try.underlying3]
/-- a cache that is on: its cells. -/
structure CR (h : Heap) (c m n : Nat) (sp : Value) (es : List CE) : Prop where
  top : h[c]? = some (.cells #[.bool true, .map (some m), sp] 88 (0, 0))
  map : h[m]? = some (.map (entA .u64 (fun e : CE => (e.pc : Int)) CE.v CE.born es) n)
  ne : c ≠ m
  le : es.length ≤ 4096
  keys : es.Pairwise fun x y => x.pc ≠ y.pc
theorem CR.mono {h h' : Heap} {c m n : Nat} {sp : Value} {es : List CE} (r : CR h c m n sp es) (h1 : h'[c]? = h[c]?) (h2 : h'[m]? = h[m]?) : CR h' c m n sp es := ⟨by rw [h1]; exact r.top, by rw [h2]; exact r.map, r.ne, r.le, r.keys⟩
theorem CR.lt {h : Heap} {c m n : Nat} {sp : Value} {es : List CE} (r : CR h c m n sp es) : c < h.size ∧ m < h.size := ⟨getElem?_lt r.top, getElem?_lt r.map⟩
theorem cnew_c (h : Heap) : Fn Try.prog 11 [.bool true] h fun x h' => ∃ c m, x = ptr c 0 ∧ CR h' c m 0 (.pointer none) [] ∧ h.size ≤ c ∧ h.size ≤ m ∧ Keeps h.size h h' := by
  refine Fn_c Try.func11 mixed c11 (by kernel_rfl) ?_; rw [r11]
  simp -implicitDefEqProofs (disch := first | omega | (simp only [h_szP, h_szS]; done) | (simp only [h_szP, h_szS]; omega)) only [go_sem, Nat.reduceBEq, reduceCtorEq, Nat.reduceAdd, Int.reduceEq, Int.reduceLT, Int.reduceLE, Int.reduceMul, Int.reduceAdd, Int.reduceSub, reduceIte, Nat.reduceLeDiff, Nat.reduceLT, Nat.reduceMul, Nat.reduceSub, Int.reduceToNat, s11, zc88, sd88, pl88_0, pl88_1]
  refine ⟨h.size + 1, h.size, rfl, ⟨?_, ?_, by omega, by simp, List.Pairwise.nil⟩, by omega, by omega, ?_⟩
  · simp -implicitDefEqProofs (disch := first | omega | (simp only [h_szP, h_szS]; done) | (simp only [h_szP, h_szS]; omega)) only [go_sem, Nat.reduceBEq, reduceCtorEq, Nat.reduceAdd, Int.reduceEq, Int.reduceLT, Int.reduceLE, Int.reduceMul, Int.reduceAdd, Int.reduceSub, reduceIte, Nat.reduceLeDiff, Nat.reduceLT, Nat.reduceMul, Nat.reduceSub, Int.reduceToNat]
  · simp -implicitDefEqProofs (disch := first | omega | (simp only [h_szP, h_szS]; done) | (simp only [h_szP, h_szS]; omega)) only [go_sem, Nat.reduceBEq, reduceCtorEq, Nat.reduceAdd, Int.reduceEq, Int.reduceLT, Int.reduceLE, Int.reduceMul, Int.reduceAdd, Int.reduceSub, reduceIte, Nat.reduceLeDiff, Nat.reduceLT, Nat.reduceMul, Nat.reduceSub, Int.reduceToNat]; rfl
  · exact (Keeps.push _ _ (Nat.le_refl _)).push' (Nat.le_refl _)
theorem clen_c {h : Heap} {c m n : Nat} {sp : Value} {es : List CE} (r : CR h c m n sp es) : Fn Try.prog 13 [ptr c 0] h fun x h' => x = .int .i64 es.length ∧ h' = h := by
  have ht := r.top
  have hm := r.map
  refine Fn_c Try.func13 mixed c13 (by kernel_rfl) ?_; rw [r13]
  simp -implicitDefEqProofs (disch := first | omega | (simp only [h_szP, h_szS]; done) | (simp only [h_szP, h_szS]; omega)) only [go_sem, Nat.reduceBEq, reduceCtorEq, Nat.reduceAdd, Int.reduceEq, Int.reduceLT, Int.reduceLE, Int.reduceMul, Int.reduceAdd, Int.reduceSub, reduceIte, Nat.reduceLeDiff, Nat.reduceLT, Nat.reduceMul, Nat.reduceSub, Int.reduceToNat, s13, Try.underlying31, fo88_1, sh86, Try.underlying86, ht, hm]
  simp [entA]
theorem cclear_c {h : Heap} {c m n : Nat} {sp : Value} {es : List CE} (r : CR h c m n sp es) : Fn Try.prog 31 [ptr c 0] h fun x h' => CR h' c m n sp [] ∧ h'.size = h.size ∧ ∀ b, b ≠ m → h'[b]? = h[b]? := by
  have ht := r.top
  have hm := r.map
  have hl := r.lt
  refine Fn_c Try.func31 mixed c31 (by kernel_rfl) ?_; rw [r31]
  simp -implicitDefEqProofs (disch := first | omega | (simp only [h_szP, h_szS]; done) | (simp only [h_szP, h_szS]; omega)) only [go_sem, Nat.reduceBEq, reduceCtorEq, Nat.reduceAdd, Int.reduceEq, Int.reduceLT, Int.reduceLE, Int.reduceMul, Int.reduceAdd, Int.reduceSub, reduceIte, Nat.reduceLeDiff, Nat.reduceLT, Nat.reduceMul, Nat.reduceSub, Int.reduceToNat, s31, Try.underlying31, fo88_1, sh86, Try.underlying86, ht]
  refine clear_map (by rw [Try.underlying86]; rfl) hm ?_
  simp -implicitDefEqProofs (disch := first | omega | (simp only [h_szP, h_szS]; done) | (simp only [h_szP, h_szS]; omega)) only [go_sem, Nat.reduceBEq, reduceCtorEq, Nat.reduceAdd, Int.reduceEq, Int.reduceLT, Int.reduceLE, Int.reduceMul, Int.reduceAdd, Int.reduceSub, reduceIte, Nat.reduceLeDiff, Nat.reduceLT, Nat.reduceMul, Nat.reduceSub, Int.reduceToNat, s31, Try.underlying31, fo88_1, sh86, Try.underlying86]
  refine ⟨⟨by rw [h_setN _ _ _ _ r.ne]; exact ht, h_setS _ _ _ hl.2, r.ne, by simp, List.Pairwise.nil⟩, fun b q => h_setN _ _ _ _ q⟩
end Go.SX.G
