/- Words: their fields, and operators by fields. Printed by a program of this session. No condition but on the ranges of arguments. Words: each is decoded. Printed by a program of this session. No condition but on the ranges of arguments. Words and short ones: all are decoded. Printed by a program of this session. No condition but on the ranges of arguments. Bits are decoded. Printed by a program of this session. No condition but on the ranges of arguments. -/
import Derived.Test.YtajfhnphhdoobaaGreatDA
import Derived.Test.YtajfhnphhdoobaaGreatPlainB
set_option linter.unusedVariables false
set_option linter.unusedSimpArgs false
namespace Go.SX.G
open Go Go.SX Go.Proofs
set_option maxRecDepth 100000
set_option maxHeartbeats 8000000
theorem field_c (n f c : Int) (hf : 0 ≤ f) (hc : 0 ≤ c) (h : Heap) : Fn Tryz.prog 151 [.int .u32 n, .int .i64 f, .int .i64 c] h fun x h' => x = .int .i64 (fieldE n f c) ∧ h' = h := by
  refine Fn_c Tryz.func151 mixed c151 (by kernel_rfl) ?_; rw [r151]
  refine gs0 ?_; (try with_reducible exact trivial)
  rfl
theorem isigned_c (n w : Int) (hw : 1 ≤ w) (hw2 : w ≤ 64) (h : Heap) : Fn Tryz.prog 197 [.int .i64 n, .int .i64 w] h fun x h' => x = .int .i64 (signedE n w) ∧ h' = h := by
  refine Fn_c Tryz.func197 mixed c197 (by kernel_rfl) ?_; rw [r197]
  refine gs0 ?_; (try with_reducible exact trivial)
  refine FnK.val (wdsext_c (IntKind.u64.wrap n) w hw hw2 h) ?_
  refine gs0 ?_; (try with_reducible exact trivial)
  rfl
theorem iImm_c (n : Int) (h : Heap) : Fn Tryz.prog 201 [.int .u32 n] h fun x h' => x = .int .i64 (iImmE n) ∧ h' = h := by
  refine Fn_c Tryz.func201 mixed c201 (by kernel_rfl) ?_; rw [r201]
  refine gs0 ?_; (try with_reducible exact trivial)
  refine FnK.val (field_c n 20 12 (by omega) (by omega) _) ?_
  refine gs0 ?_; (try with_reducible exact trivial)
  refine FnK.val (isigned_c _ 12 (by omega) (by omega) _) ?_
  refine gs0 ?_; (try with_reducible exact trivial)
  rfl
theorem sImm_c (n : Int) (h : Heap) : Fn Tryz.prog 157 [.int .u32 n] h fun x h' => x = .int .i64 (sImmE n) ∧ h' = h := by
  refine Fn_c Tryz.func157 mixed c157 (by kernel_rfl) ?_; rw [r157]
  refine gs0 ?_; (try with_reducible exact trivial)
  refine FnK.val (field_c n 25 7 (by omega) (by omega) _) ?_
  refine gs0 ?_; (try with_reducible exact trivial)
  refine FnK.val (field_c n 7 5 (by omega) (by omega) _) ?_
  refine gs0 ?_; (try with_reducible exact trivial)
  refine FnK.val (isigned_c _ 12 (by omega) (by omega) _) ?_
  refine gs0 ?_; (try with_reducible exact trivial)
  rfl
theorem bImm_c (n : Int) (h : Heap) : Fn Tryz.prog 155 [.int .u32 n] h fun x h' => x = .int .i64 (bImmE n) ∧ h' = h := by
  refine Fn_c Tryz.func155 mixed c155 (by kernel_rfl) ?_; rw [r155]
  refine gs0 ?_; (try with_reducible exact trivial)
  refine FnK.val (field_c n 31 1 (by omega) (by omega) _) ?_
  refine gs0 ?_; (try with_reducible exact trivial)
  refine FnK.val (field_c n 7 1 (by omega) (by omega) _) ?_
  refine gs0 ?_; (try with_reducible exact trivial)
  refine FnK.val (field_c n 25 6 (by omega) (by omega) _) ?_
  refine gs0 ?_; (try with_reducible exact trivial)
  refine FnK.val (field_c n 8 4 (by omega) (by omega) _) ?_
  refine gs0 ?_; (try with_reducible exact trivial)
  refine FnK.val (isigned_c _ 13 (by omega) (by omega) _) ?_
  refine gs0 ?_; (try with_reducible exact trivial)
  rfl
theorem uImm_c (n : Int) (h : Heap) : Fn Tryz.prog 152 [.int .u32 n] h fun x h' => x = .int .i64 (uImmE n) ∧ h' = h := by
  refine Fn_c Tryz.func152 mixed c152 (by kernel_rfl) ?_; rw [r152]
  refine gs0 ?_; (try with_reducible exact trivial)
  refine FnK.val (field_c n 12 20 (by omega) (by omega) _) ?_
  refine gs0 ?_; (try with_reducible exact trivial)
  refine FnK.val (isigned_c _ 32 (by omega) (by omega) _) ?_
  refine gs0 ?_; (try with_reducible exact trivial)
  rfl
theorem jImm_c (n : Int) (h : Heap) : Fn Tryz.prog 153 [.int .u32 n] h fun x h' => x = .int .i64 (jImmE n) ∧ h' = h := by
  refine Fn_c Tryz.func153 mixed c153 (by kernel_rfl) ?_; rw [r153]
  refine gs0 ?_; (try with_reducible exact trivial)
  refine FnK.val (field_c n 31 1 (by omega) (by omega) _) ?_
  refine gs0 ?_; (try with_reducible exact trivial)
  refine FnK.val (field_c n 12 8 (by omega) (by omega) _) ?_
  refine gs0 ?_; (try with_reducible exact trivial)
  refine FnK.val (field_c n 20 1 (by omega) (by omega) _) ?_
  refine gs0 ?_; (try with_reducible exact trivial)
  refine FnK.val (field_c n 21 10 (by omega) (by omega) _) ?_
  refine gs0 ?_; (try with_reducible exact trivial)
  refine FnK.val (isigned_c _ 21 (by omega) (by omega) _) ?_
  refine gs0 ?_; (try with_reducible exact trivial)
  rfl
theorem branches_c (k : Int) (h8 : rngI k 8) (h : Heap) : Fn Tryz.prog 154 [.int .i64 k] h fun x h' => x = .int .i64 (branchesT k) ∧ h' = h := by
  have ix := ix8 k h8
  refine Fn_c Tryz.func154 mixed c154 (by kernel_rfl) ?_; rw [r154]
  refine gs1 @ix ?_; (try with_reducible exact trivial)
  rfl
theorem loads_c (k : Int) (h8 : rngI k 8) (h : Heap) : Fn Tryz.prog 202 [.int .i64 k] h fun x h' => x = .int .i64 (loadsT k) ∧ h' = h := by
  have ix := ix8 k h8
  refine Fn_c Tryz.func202 mixed c202 (by kernel_rfl) ?_; rw [r202]
  refine gs1 @ix ?_; (try with_reducible exact trivial)
  rfl
theorem stores_c (k : Int) (h8 : rngI k 8) (h : Heap) : Fn Tryz.prog 156 [.int .i64 k] h fun x h' => x = .int .i64 (storesT k) ∧ h' = h := by
  have ix := ix8 k h8
  refine Fn_c Tryz.func156 mixed c156 (by kernel_rfl) ?_; rw [r156]
  refine gs1 @ix ?_; (try with_reducible exact trivial)
  rfl
theorem plainImm_c (k : Int) (h8 : rngI k 8) (h : Heap) : Fn Tryz.prog 204 [.int .i64 k] h fun x h' => x = .int .i64 (plainImmT k) ∧ h' = h := by
  have ix := ix8 k h8
  refine Fn_c Tryz.func204 mixed c204 (by kernel_rfl) ?_; rw [r204]
  refine gs1 @ix ?_; (try with_reducible exact trivial)
  rfl
theorem plainReg_c (k : Int) (h8 : rngI k 8) (h : Heap) : Fn Tryz.prog 198 [.int .i64 k] h fun x h' => x = .int .i64 (plainRegT k) ∧ h' = h := by
  have ix := ix8 k h8
  refine Fn_c Tryz.func198 mixed c198 (by kernel_rfl) ?_; rw [r198]
  refine gs1 @ix ?_; (try with_reducible exact trivial)
  rfl
theorem mulReg_c (k : Int) (h8 : rngI k 8) (h : Heap) : Fn Tryz.prog 199 [.int .i64 k] h fun x h' => x = .int .i64 (mulRegT k) ∧ h' = h := by
  have ix := ix8 k h8
  refine Fn_c Tryz.func199 mixed c199 (by kernel_rfl) ?_; rw [r199]
  refine gs1 @ix ?_; (try with_reducible exact trivial)
  rfl
theorem regOp_c (s k : Int) (h8 : rngI k 8) (h : Heap) : Fn Tryz.prog 158 [.int .i64 s, .int .i64 k] h fun x h' => x = .int .i64 (regOpL s k) ∧ h' = h := by
  refine byT (c := s = 0) (fun t => ?_) fun t => byT (c := s = 1) (fun t => ?_) fun t => byT (c := s = 32) (fun t => byT (c := k = 0) (fun t => ?_) fun t => byT (c := k = 5) (fun t => ?_) fun t => ?_) fun t => ?_
  all_goals
    refine Fn_c Tryz.func158 mixed c158 (by kernel_rfl) ?_; rw [r158]
    refine ga0 ?_; (try with_reducible exact trivial)
    repeat ((first | refine FnK.val (plainReg_c _ h8 _) ?_ | refine FnK.val (mulReg_c _ h8 _) ?_); refine ga0 ?_; (try with_reducible exact trivial))
    first
    | done
    | (try unfold regOpL
       try simp only [InstR.v, if_true, if_false, true_and, *]
       first | done | rfl | (refine ⟨rfl, ?_⟩; first | rfl | done) | (first | rfl | done))
theorem reg32Op_c (s k : Int) (h8 : rngI k 8) (h : Heap) : Fn Tryz.prog 159 [.int .i64 s, .int .i64 k] h fun x h' => x = .int .i64 (reg32OpL s k) ∧ h' = h := by
  have ix := ix8 k h8
  refine byT (c := s = 0) (fun t => ?_) fun t => byT (c := s = 32) (fun t => ?_) fun t => byT (c := s = 1) (fun t => ?_) fun t => ?_
  all_goals
    refine Fn_c Tryz.func159 mixed c159 (by kernel_rfl) ?_; rw [r159]
    refine ga0 ?_; (try with_reducible exact trivial)
    first
    | done
    | (try unfold reg32OpL
       try simp only [InstR.v, if_true, if_false, true_and, *]
       first | done | rfl | (refine ⟨rfl, ?_⟩; first | rfl | done) | (first | rfl | done))
theorem amoOp_c (k : Int)  (h : Heap) : Fn Tryz.prog 200 [.int .i64 k] h fun x h' => x = .int .i64 (amoOpL k) ∧ h' = h := by
  refine byT (c := k = 2) (fun t => ?_) fun t => byT (c := k = 3) (fun t => ?_) fun t => byT (c := k = 1) (fun t => ?_) fun t => byT (c := k = 0) (fun t => ?_) fun t => byT (c := k = 4) (fun t => ?_) fun t => byT (c := k = 12) (fun t => ?_) fun t => byT (c := k = 8) (fun t => ?_) fun t => byT (c := k = 16) (fun t => ?_) fun t => byT (c := k = 20) (fun t => ?_) fun t => byT (c := k = 24) (fun t => ?_) fun t => byT (c := k = 28) (fun t => ?_) fun t => ?_
  all_goals
    refine Fn_c Tryz.func200 mixed c200 (by kernel_rfl) ?_; rw [r200]
    refine ga0 ?_; (try with_reducible exact trivial)
    first
    | done
    | (try unfold amoOpL
       try simp only [InstR.v, if_true, if_false, true_and, *]
       first | done | rfl | (refine ⟨rfl, ?_⟩; first | rfl | done) | (first | rfl | done))
end Go.SX.G
namespace Go.SX.G
open Go Go.SX Go.Proofs
set_option maxRecDepth 100000
set_option maxHeartbeats 8000000
theorem atomic_c (n : Int) (hn : rngI n 4294967296) (h : Heap) : Fn Tryz.prog 160 [.int .u32 n] h fun x h' => x = (atomicL n).v ∧ Keeps h.size h h' := by
  refine byT (c := amoOpL (fieldE n 27 5) = 0) (fun t => ?_) fun t => byT (c := fieldE n 12 3 = 2) (fun t => have u : (fieldE n 12 3 = 3) = False := eq_false (by have := of_eq_true t; omega); byT (c := amoOpL (fieldE n 27 5) = 63) (fun t => byT (c := fieldE n 20 5 = 0) (fun t => ?_) fun t => ?_) fun t => ?_) fun t => byT (c := fieldE n 12 3 = 3) (fun t => byT (c := amoOpL (fieldE n 27 5) = 63) (fun t => byT (c := fieldE n 20 5 = 0) (fun t => ?_) fun t => ?_) fun t => ?_) fun t => ?_
  all_goals
    refine Fn_c Tryz.func160 mixed c160 (by kernel_rfl) ?_; rw [r160]
    refine ga0 ?_; (try with_reducible exact trivial)
    repeat ((first | refine FnK.val (field_c n _ _ (by omega) (by omega) _) ?_ | refine FnK.val (amoOp_c _ _) ?_); refine ga0 ?_; (try with_reducible exact trivial))
    first
    | done
    | (try unfold atomicL
       try simp only [InstR.v, if_true, if_false, true_and, *]
       first | done | rfl | (refine ⟨rfl, ?_⟩; first | exact Keeps.refl' | exact Keeps.push _ _ (Nat.le_refl _) | exact (Keeps.push _ _ (Nat.le_refl _)).push' (Nat.le_refl _) | exact ((Keeps.push _ _ (Nat.le_refl _)).push' (Nat.le_refl _)).push' (Nat.le_refl _)) | (first | exact Keeps.refl' | exact Keeps.push _ _ (Nat.le_refl _) | exact (Keeps.push _ _ (Nat.le_refl _)).push' (Nat.le_refl _) | exact ((Keeps.push _ _ (Nat.le_refl _)).push' (Nat.le_refl _)).push' (Nat.le_refl _)))
theorem shift6_c (n : Int) (hn : rngI n 4294967296) (h : Heap) : Fn Tryz.prog 203 [.int .u32 n, .int .i64 28, .int .i64 29, .int .i64 30, .int .i64 6] h fun x h' => x = (shift6L n).v ∧ Keeps h.size h h' := by
  have p4 : shlI .i64 1 4 = 16 := by decide
  refine byT (c := fieldE n 12 3 = 1) (fun t => have u : (fieldE n 12 3 = 5) = False := eq_false (by have := of_eq_true t; omega); byT (c := fieldE n 26 6 = 0) (fun t => ?_) fun t => ?_) fun t => byT (c := fieldE n 12 3 = 5) (fun t => byT (c := fieldE n 26 6 = 0) (fun t => ?_) fun t => byT (c := fieldE n 26 6 = 16) (fun t => ?_) fun t => ?_) fun t => ?_
  all_goals
    refine Fn_c Tryz.func203 mixed c203 (by kernel_rfl) ?_; rw [r203]
    refine ga0 ?_; (try with_reducible exact trivial)
    repeat ((first | refine FnK.val (field_c n _ _ (by omega) (by omega) _) ?_); refine ga0 ?_; (try with_reducible exact trivial))
    first
    | done
    | (try unfold shift6L
       try simp only [InstR.v, if_true, if_false, true_and, *]
       first | done | rfl | (refine ⟨rfl, ?_⟩; first | exact Keeps.refl' | exact Keeps.push _ _ (Nat.le_refl _) | exact (Keeps.push _ _ (Nat.le_refl _)).push' (Nat.le_refl _) | exact ((Keeps.push _ _ (Nat.le_refl _)).push' (Nat.le_refl _)).push' (Nat.le_refl _)) | (first | exact Keeps.refl' | exact Keeps.push _ _ (Nat.le_refl _) | exact (Keeps.push _ _ (Nat.le_refl _)).push' (Nat.le_refl _) | exact ((Keeps.push _ _ (Nat.le_refl _)).push' (Nat.le_refl _)).push' (Nat.le_refl _)))
theorem shift5_c (n : Int) (hn : rngI n 4294967296) (h : Heap) : Fn Tryz.prog 203 [.int .u32 n, .int .i64 42, .int .i64 43, .int .i64 44, .int .i64 5] h fun x h' => x = (shift5L n).v ∧ Keeps h.size h h' := by
  have p4 : shlI .i64 1 5 = 32 := by decide
  refine byT (c := fieldE n 12 3 = 1) (fun t => have u : (fieldE n 12 3 = 5) = False := eq_false (by have := of_eq_true t; omega); byT (c := fieldE n 25 7 = 0) (fun t => ?_) fun t => ?_) fun t => byT (c := fieldE n 12 3 = 5) (fun t => byT (c := fieldE n 25 7 = 0) (fun t => ?_) fun t => byT (c := fieldE n 25 7 = 32) (fun t => ?_) fun t => ?_) fun t => ?_
  all_goals
    refine Fn_c Tryz.func203 mixed c203 (by kernel_rfl) ?_; rw [r203]
    refine ga0 ?_; (try with_reducible exact trivial)
    repeat ((first | refine FnK.val (field_c n _ _ (by omega) (by omega) _) ?_); refine ga0 ?_; (try with_reducible exact trivial))
    first
    | done
    | (try unfold shift5L
       try simp only [InstR.v, if_true, if_false, true_and, *]
       first | done | rfl | (refine ⟨rfl, ?_⟩; first | exact Keeps.refl' | exact Keeps.push _ _ (Nat.le_refl _) | exact (Keeps.push _ _ (Nat.le_refl _)).push' (Nat.le_refl _) | exact ((Keeps.push _ _ (Nat.le_refl _)).push' (Nat.le_refl _)).push' (Nat.le_refl _)) | (first | exact Keeps.refl' | exact Keeps.push _ _ (Nat.le_refl _) | exact (Keeps.push _ _ (Nat.le_refl _)).push' (Nat.le_refl _) | exact ((Keeps.push _ _ (Nat.le_refl _)).push' (Nat.le_refl _)).push' (Nat.le_refl _)))
theorem withImm_c (n : Int) (hn : rngI n 4294967296) (h : Heap) : Fn Tryz.prog 162 [.int .u32 n] h fun x h' => x = (withImmL n).v ∧ Keeps h.size h h' := by
  refine byT (c := fieldE n 0 7 = 103) (fun t => byT (c := fieldE n 12 3 = 0) (fun t => ?_) fun t => ?_) fun t => byT (c := fieldE n 0 7 = 3) (fun t => ?_) fun t => byT (c := fieldE n 0 7 = 19) (fun t => byT (c := fieldE n 12 3 = 1) (fun t => ?_) fun t => byT (c := fieldE n 12 3 = 5) (fun t => ?_) fun t => ?_) fun t => byT (c := fieldE n 0 7 = 27) (fun t => byT (c := fieldE n 12 3 = 0) (fun t => ?_) fun t => ?_) fun t => ?_
  all_goals
    refine Fn_c Tryz.func162 mixed c162 (by kernel_rfl) ?_; rw [r162]
    refine ga0 ?_; (try with_reducible exact trivial)
    repeat ((first | refine FnK.val (field_c n _ _ (by omega) (by omega) _) ?_ | refine FnK.val (iImm_c n _) ?_ | refine FnK.val (loads_c _ (f3_lt hn) _) ?_ | refine FnK.val (plainImm_c _ (f3_lt hn) _) ?_); refine ga0 ?_; (try with_reducible exact trivial))
    first
    | done
    | ((with_reducible first | refine FnK.use (shift6_c n hn _) ?_ | refine FnK.use (shift5_c n hn _) ?_)
       intro x1 h1 ⟨e1, K1⟩
       have b0 : h1[h.size]? = some (.cells #[.int .i64 0, .int .i64 0, .int .i64 0, .int .i64 0, .int .i64 0, .int .i64 0, .int .i64 0] 47 (0, 0)) := by (rw [K1.old _ (by simp)]; exact h_pushE _ _ _ rfl)
       have l0 := getElem?_lt b0
       rw [e1]
       clear e1
       refine ga1 InstR.v.eq_1 ?_; (try with_reducible exact trivial)
       try unfold withImmL
       try simp only [InstR.v, if_true, if_false, true_and, *]
       first | exact ((Keeps.push _ _ (Nat.le_refl _)).of_ext K1 (Nat.le_refl _)).set' (Nat.le_refl _) | exact ⟨rfl, ((Keeps.push _ _ (Nat.le_refl _)).of_ext K1 (Nat.le_refl _)).set' (Nat.le_refl _)⟩)
    | (try unfold withImmL
       try simp only [InstR.v, if_true, if_false, true_and, *]
       first | done | rfl | (refine ⟨rfl, ?_⟩; first | exact Keeps.refl' | exact Keeps.push _ _ (Nat.le_refl _) | exact (Keeps.push _ _ (Nat.le_refl _)).push' (Nat.le_refl _) | exact ((Keeps.push _ _ (Nat.le_refl _)).push' (Nat.le_refl _)).push' (Nat.le_refl _)) | (first | exact Keeps.refl' | exact Keeps.push _ _ (Nat.le_refl _) | exact (Keeps.push _ _ (Nat.le_refl _)).push' (Nat.le_refl _) | exact ((Keeps.push _ _ (Nat.le_refl _)).push' (Nat.le_refl _)).push' (Nat.le_refl _)))
theorem wother_c (n : Int) (hn : rngI n 4294967296) (h : Heap) : Fn Tryz.prog 161 [.int .u32 n] h fun x h' => x = (otherL n).v ∧ Keeps h.size h h' := by
  refine byT (c := n = 115) (fun t => ?_) fun t => byT (c := n = 1048691) (fun t => ?_) fun t => byT (c := fieldE n 0 7 = 15) (fun t => byT (c := fieldE n 12 3 = 0) (fun t => ?_) fun t => byT (c := fieldE n 12 3 = 1) (fun t => ?_) fun t => ?_) fun t => ?_
  all_goals
    refine Fn_c Tryz.func161 mixed c161 (by kernel_rfl) ?_; rw [r161]
    refine ga0 ?_; (try with_reducible exact trivial)
    repeat ((first | refine FnK.val (field_c n _ _ (by omega) (by omega) _) ?_); refine ga0 ?_; (try with_reducible exact trivial))
    first
    | done
    | (try unfold otherL
       try simp only [InstR.v, if_true, if_false, true_and, *]
       first | done | rfl | (refine ⟨rfl, ?_⟩; first | exact Keeps.refl' | exact Keeps.push _ _ (Nat.le_refl _) | exact (Keeps.push _ _ (Nat.le_refl _)).push' (Nat.le_refl _) | exact ((Keeps.push _ _ (Nat.le_refl _)).push' (Nat.le_refl _)).push' (Nat.le_refl _)) | (first | exact Keeps.refl' | exact Keeps.push _ _ (Nat.le_refl _) | exact (Keeps.push _ _ (Nat.le_refl _)).push' (Nat.le_refl _) | exact ((Keeps.push _ _ (Nat.le_refl _)).push' (Nat.le_refl _)).push' (Nat.le_refl _)))
end Go.SX.G
namespace Go.SX.G
open Go Go.SX Go.Proofs
set_option maxRecDepth 100000
set_option maxHeartbeats 8000000
theorem idecode_c (n : Int) (hn : rngI n 4294967296) (h : Heap) : Fn Tryz.prog 128 [.int .u32 n] h fun x h' => x = decV (wordL n) ∧ Keeps h.size h h' := by
  refine byT (c := fieldE n 0 7 = 55) (fun t => ?_) fun t => byT (c := fieldE n 0 7 = 23) (fun t => ?_) fun t => byT (c := fieldE n 0 7 = 111) (fun t => ?_) fun t => byT (c := fieldE n 0 7 = 99) (fun t => byT (c := branchesT (fieldE n 12 3) = 0) (fun t => ?_) fun t => ?_) fun t => byT (c := fieldE n 0 7 = 35) (fun t => byT (c := storesT (fieldE n 12 3) = 0) (fun t => ?_) fun t => ?_) fun t => byT (c := fieldE n 0 7 = 51) (fun t => byT (c := regOpL (fieldE n 25 7) (fieldE n 12 3) = 0) (fun t => ?_) fun t => ?_) fun t => byT (c := fieldE n 0 7 = 59) (fun t => byT (c := reg32OpL (fieldE n 25 7) (fieldE n 12 3) = 0) (fun t => ?_) fun t => ?_) fun t => byT (c := fieldE n 0 7 = 47) (fun t => byT (c := (atomicL n).op = 0) (fun t => ?_) fun t => ?_) fun t => byT (c := fieldE n 0 7 = 15) (fun t => byT (c := (otherL n).op = 0) (fun t => ?_) fun t => ?_) fun t => byT (c := fieldE n 0 7 = 115) (fun t => byT (c := (otherL n).op = 0) (fun t => ?_) fun t => ?_) fun t => byT (c := (withImmL n).op = 0) (fun t => ?_) fun t => ?_
  all_goals
    refine Fn_c Tryz.func128 mixed c128 (by kernel_rfl) ?_; rw [r128]
    refine ga0 ?_; (try with_reducible exact trivial)
    repeat ((first | refine FnK.val (field_c n _ _ (by omega) (by omega) _) ?_ | refine FnK.val (uImm_c n _) ?_ | refine FnK.val (jImm_c n _) ?_ | refine FnK.val (branches_c _ (f3_lt hn) _) ?_ | refine FnK.val (bImm_c n _) ?_ | refine FnK.val (stores_c _ (f3_lt hn) _) ?_ | refine FnK.val (sImm_c n _) ?_ | refine FnK.val (regOp_c _ _ (f3_lt hn) _) ?_ | refine FnK.val (reg32Op_c _ _ (f3_lt hn) _) ?_); refine ga0 ?_; (try with_reducible exact trivial))
    first
    | ((with_reducible first | refine FnK.use (atomic_c n hn _) ?_ | refine FnK.use (wother_c n hn _) ?_ | refine FnK.use (withImm_c n hn _) ?_)
       intro x1 h1 ⟨e1, K1⟩
       have b0 : h1[h.size]? = some (.cells #[.int .i64 0, .int .i64 0, .int .i64 0, .int .i64 0, .int .i64 0, .int .i64 0, .int .i64 0] 47 (0, 0)) := by (rw [K1.old _ (by simp <;> omega)]; refine gs0 ?_; (try with_reducible exact trivial))
       have b1 : h1[h.size + 1]? = some (.cells #[.int .i64 0, .int .i64 0, .int .i64 0, .int .i64 0, .int .i64 0, .int .i64 0, .int .i64 0] 47 (0, 0)) := by (rw [K1.old _ (by simp <;> omega)]; refine gs0 ?_; (try with_reducible exact trivial))
       have l0 := getElem?_lt b0
       have l1 := getElem?_lt b1
       rw [e1]
       clear e1
       refine ga1 InstR.v.eq_1 ?_; (try with_reducible exact trivial)
       repeat ((first | refine FnK.val (field_c n _ _ (by omega) (by omega) _) ?_ | refine FnK.val (uImm_c n _) ?_ | refine FnK.val (jImm_c n _) ?_ | refine FnK.val (branches_c _ (f3_lt hn) _) ?_ | refine FnK.val (bImm_c n _) ?_ | refine FnK.val (stores_c _ (f3_lt hn) _) ?_ | refine FnK.val (sImm_c n _) ?_ | refine FnK.val (regOp_c _ _ (f3_lt hn) _) ?_ | refine FnK.val (reg32Op_c _ _ (f3_lt hn) _) ?_); refine ga0 ?_; (try with_reducible exact trivial))
       (first | refine ⟨?_, ?_⟩ | skip)
       all_goals first | done | rfl | ((repeat (first | refine Keeps.set' ?_ (by first | exact Nat.le_refl _ | omega) | refine Keeps.push' ?_ (by first | exact Nat.le_refl _ | omega))); exact (((Keeps.push _ _ (Nat.le_refl _)).push' (Nat.le_refl _)).of_ext K1 (Nat.le_refl _))) | ((try unfold decV wordL); (try simp only [zI, InstR.v, if_true, if_false, Int.reduceEq, reduceIte, *]); first | done | rfl | ((repeat (first | refine Keeps.set' ?_ (by first | exact Nat.le_refl _ | omega) | refine Keeps.push' ?_ (by first | exact Nat.le_refl _ | omega))); exact (((Keeps.push _ _ (Nat.le_refl _)).push' (Nat.le_refl _)).of_ext K1 (Nat.le_refl _))) | (refine ⟨?_, ?_⟩ <;> first | rfl | ((repeat (first | refine Keeps.set' ?_ (by first | exact Nat.le_refl _ | omega) | refine Keeps.push' ?_ (by first | exact Nat.le_refl _ | omega))); exact (((Keeps.push _ _ (Nat.le_refl _)).push' (Nat.le_refl _)).of_ext K1 (Nat.le_refl _))))))
    | ((first | refine ⟨?_, ?_⟩ | skip)
       all_goals first | done | rfl | ((repeat (first | refine Keeps.set' ?_ (by first | exact Nat.le_refl _ | omega) | refine Keeps.push' ?_ (by first | exact Nat.le_refl _ | omega))); exact Keeps.refl') | ((try unfold decV wordL); (try simp only [zI, InstR.v, if_true, if_false, Int.reduceEq, reduceIte, *]); first | done | rfl | ((repeat (first | refine Keeps.set' ?_ (by first | exact Nat.le_refl _ | omega) | refine Keeps.push' ?_ (by first | exact Nat.le_refl _ | omega))); exact Keeps.refl') | (refine ⟨?_, ?_⟩ <;> first | rfl | ((repeat (first | refine Keeps.set' ?_ (by first | exact Nat.le_refl _ | omega) | refine Keeps.push' ?_ (by first | exact Nat.le_refl _ | omega))); exact Keeps.refl'))))
theorem expand_c (n : Int) (hn : rngI n 65536) (h : Heap) : Fn Tryz.prog 127 [.int .u16 n] h fun x h' => x = decV (expandL n) ∧ Keeps h.size h h' := by
  refine byT (c := bitI .and .u16 n 3 = 0) (fun t => byT (c := (firstL n).op = 0) (fun t => ?_) fun t => ?_) fun t => byT (c := bitI .and .u16 n 3 = 1) (fun t => byT (c := (secondL n).op = 0) (fun t => ?_) fun t => ?_) fun t => byT (c := bitI .and .u16 n 3 = 2) (fun t => byT (c := (thirdL n).op = 0) (fun t => ?_) fun t => ?_) fun t => ?_
  all_goals
    refine Fn_c Tryz.func127 mixed c127 (by kernel_rfl) ?_; rw [r127]
    refine ga0 ?_; (try with_reducible exact trivial)
    skip
    first
    | ((with_reducible first | refine FnK.use (hfirst_c n _) ?_ | refine FnK.use (second_c n hn _) ?_ | refine FnK.use (third_c n _) ?_)
       intro x1 h1 ⟨e1, K1⟩
       have b0 : h1[h.size]? = some (.cells #[.int .i64 0, .int .i64 0, .int .i64 0, .int .i64 0, .int .i64 0, .int .i64 0, .int .i64 0] 47 (0, 0)) := by (rw [K1.old _ (by simp <;> omega)]; refine gs0 ?_; (try with_reducible exact trivial))
       have b1 : h1[h.size + 1]? = some (.cells #[.int .i64 0, .int .i64 0, .int .i64 0, .int .i64 0, .int .i64 0, .int .i64 0, .int .i64 0] 47 (0, 0)) := by (rw [K1.old _ (by simp <;> omega)]; refine gs0 ?_; (try with_reducible exact trivial))
       have l0 := getElem?_lt b0
       have l1 := getElem?_lt b1
       rw [e1]
       clear e1
       refine ga1 InstR.v.eq_1 ?_; (try with_reducible exact trivial)
       (first | refine ⟨?_, ?_⟩ | skip)
       all_goals first | done | rfl | ((repeat (first | refine Keeps.set' ?_ (by first | exact Nat.le_refl _ | omega) | refine Keeps.push' ?_ (by first | exact Nat.le_refl _ | omega))); exact (((Keeps.push _ _ (Nat.le_refl _)).push' (Nat.le_refl _)).of_ext K1 (Nat.le_refl _))) | ((try unfold decV expandL pickL); (try simp only [zI, InstR.v, if_true, if_false, Int.reduceEq, reduceIte, *]); first | done | rfl | ((repeat (first | refine Keeps.set' ?_ (by first | exact Nat.le_refl _ | omega) | refine Keeps.push' ?_ (by first | exact Nat.le_refl _ | omega))); exact (((Keeps.push _ _ (Nat.le_refl _)).push' (Nat.le_refl _)).of_ext K1 (Nat.le_refl _))) | (refine ⟨?_, ?_⟩ <;> first | rfl | ((repeat (first | refine Keeps.set' ?_ (by first | exact Nat.le_refl _ | omega) | refine Keeps.push' ?_ (by first | exact Nat.le_refl _ | omega))); exact (((Keeps.push _ _ (Nat.le_refl _)).push' (Nat.le_refl _)).of_ext K1 (Nat.le_refl _))))))
    | ((first | refine ⟨?_, ?_⟩ | skip)
       all_goals first | done | rfl | ((repeat (first | refine Keeps.set' ?_ (by first | exact Nat.le_refl _ | omega) | refine Keeps.push' ?_ (by first | exact Nat.le_refl _ | omega))); exact Keeps.refl') | ((try unfold decV expandL pickL); (try simp only [zI, InstR.v, if_true, if_false, Int.reduceEq, reduceIte, *]); first | done | rfl | ((repeat (first | refine Keeps.set' ?_ (by first | exact Nat.le_refl _ | omega) | refine Keeps.push' ?_ (by first | exact Nat.le_refl _ | omega))); exact Keeps.refl') | (refine ⟨?_, ?_⟩ <;> first | rfl | ((repeat (first | refine Keeps.set' ?_ (by first | exact Nat.le_refl _ | omega) | refine Keeps.push' ?_ (by first | exact Nat.le_refl _ | omega))); exact Keeps.refl'))))
end Go.SX.G
namespace Go.SX.G
open Go Go.SX Go.Proofs
set_option maxRecDepth 100000
set_option maxHeartbeats 8000000
theorem cshort_c (n : Int) (h : Heap) : Fn Tryz.prog 126 [.int .u16 n] h fun x h' => x = .bool (!decide (bitI .and .u16 n 3 = 3)) ∧ h' = h := by
  refine Fn_c Tryz.func126 mixed c126 (by kernel_rfl) ?_; rw [r126]
  refine gs0 ?_; (try with_reducible exact trivial)
  first | done | rfl | exact ⟨rfl, rfl⟩ | (congr 1; simp)
theorem cdecode_c (n : Int) (hn : rngI n 4294967296) (h : Heap) : Fn Tryz.prog 100 [.int .u32 n] h fun x h' => x = decV (decodeL n) ∧ Keeps h.size h h' := by
  have hw : rngI (IntKind.u16.wrap n) 65536 := by
    unfold rngI
    have : IntKind.u16.wrap n = n % 65536 := by simp [IntKind.wrap, IntKind.signed, IntKind.bits]
    rw [this]; omega
  by_cases q : bitI .and .u16 (IntKind.u16.wrap n) 3 = 3
  · have e : decodeL n = wordL n := by unfold decodeL; rw [if_pos q]
    have d : (!decide (bitI .and .u16 (IntKind.u16.wrap n) 3 = 3)) = false := by simp [q]
    rw [e]
    refine Fn_c Tryz.func100 mixed c100 (by kernel_rfl) ?_; rw [r100]
    refine gs0 ?_; (try with_reducible exact trivial)
    refine FnK.val (cshort_c _ _) ?_
    rw [d]
    refine gs0 ?_; (try with_reducible exact trivial)
    refine FnK.use (idecode_c n hn _) ?_
    intro x1 h1 ⟨e1, K1⟩
    have b0 : h1[h.size]? = some (.cells #[.int .i64 0, .int .i64 0, .int .i64 0, .int .i64 0, .int .i64 0, .int .i64 0, .int .i64 0] 47 (0, 0)) := by (rw [K1.old _ (by simp <;> omega)]; refine gs0 ?_; (try with_reducible exact trivial))
    have l0 := getElem?_lt b0
    have K2 := (Keeps.push h _ (Nat.le_refl _)).of_ext K1 (Nat.le_refl _)
    rw [e1]
    unfold decV
    split
    all_goals
      refine gs3 @b0 InstR.v.eq_1 zI.eq_1 ?_; (try with_reducible exact trivial)
      first | done | (refine ⟨rfl, ?_⟩; (repeat (first | refine Keeps.set' ?_ (by first | exact Nat.le_refl _ | omega) | refine Keeps.push' ?_ (by first | exact Nat.le_refl _ | omega))); exact K2) | ((repeat (first | refine Keeps.set' ?_ (by first | exact Nat.le_refl _ | omega) | refine Keeps.push' ?_ (by first | exact Nat.le_refl _ | omega))); exact K2)
  · have e : decodeL n = expandL (IntKind.u16.wrap n) := by unfold decodeL; rw [if_neg q]
    have d : (!decide (bitI .and .u16 (IntKind.u16.wrap n) 3 = 3)) = true := by simp [q]
    rw [e]
    refine Fn_c Tryz.func100 mixed c100 (by kernel_rfl) ?_; rw [r100]
    refine gs0 ?_; (try with_reducible exact trivial)
    refine FnK.val (cshort_c _ _) ?_
    rw [d]
    refine gs0 ?_; (try with_reducible exact trivial)
    refine FnK.use (expand_c _ hw _) ?_
    intro x1 h1 ⟨e1, K1⟩
    have b0 : h1[h.size]? = some (.cells #[.int .i64 0, .int .i64 0, .int .i64 0, .int .i64 0, .int .i64 0, .int .i64 0, .int .i64 0] 47 (0, 0)) := by (rw [K1.old _ (by simp <;> omega)]; refine gs0 ?_; (try with_reducible exact trivial))
    have l0 := getElem?_lt b0
    have K2 := (Keeps.push h _ (Nat.le_refl _)).of_ext K1 (Nat.le_refl _)
    rw [e1]
    unfold decV
    split
    all_goals
      refine gs3 @b0 InstR.v.eq_1 zI.eq_1 ?_; (try with_reducible exact trivial)
      first | done | (refine ⟨rfl, ?_⟩; (repeat (first | refine Keeps.set' ?_ (by first | exact Nat.le_refl _ | omega) | refine Keeps.push' ?_ (by first | exact Nat.le_refl _ | omega))); exact K2) | ((repeat (first | refine Keeps.set' ?_ (by first | exact Nat.le_refl _ | omega) | refine Keeps.push' ?_ (by first | exact Nat.le_refl _ | omega))); exact K2)
end Go.SX.G
