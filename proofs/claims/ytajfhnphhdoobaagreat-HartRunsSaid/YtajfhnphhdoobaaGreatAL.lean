/- What operators reckon: each function of alu. Printed by a program of this session. No condition but on the ranges of arguments. What operators reckon: products and quotients. Printed by a program of this session. No condition but on the ranges of arguments. Jumps: which branches go; what loads and stores there are. Printed by a program of this session. No condition. A machine's jumps. No condition but on registers' numbers. -/
import Derived.Test.YtajfhnphhdoobaaGreatDA
import Derived.Test.YtajfhnphhdoobaaGreatPlainB
import Derived.Test.YtajfhnphhdoobaaGreatSxP
set_option linter.unusedVariables false
set_option linter.unusedSimpArgs false
namespace Go.SX.G
open Go Go.SX Go.Proofs
set_option maxRecDepth 100000
set_option maxHeartbeats 8000000
theorem andU_nn (a b : Int) : (bitI .and .u64 a b < 0) = False := by
  apply eq_false
  have : bitI .and .u64 a b = IntKind.u64.wrap ((BitVec.ofInt 64 a &&& BitVec.ofInt 64 b).toNat : Int) := rfl
  rw [this, wrap_u64]; omega
theorem truth_c (b : Bool) (h : Heap) : Fn Tryz.prog 205 [.bool b] h fun x h' => x = .int .u64 (truthE b) ∧ h' = h := by
  cases b with
  | true =>
    refine Fn_c Tryz.func205 mixed c205 (by kernel_rfl) ?_; rw [r205]
    refine gs0 ?_; (try with_reducible exact trivial)
    first | done | rfl | exact ⟨rfl, rfl⟩
  | false =>
    refine Fn_c Tryz.func205 mixed c205 (by kernel_rfl) ?_; rw [r205]
    refine gs0 ?_; (try with_reducible exact trivial)
    first | done | rfl | exact ⟨rfl, rfl⟩
theorem less_c (a b : Int) (h : Heap) : Fn Tryz.prog 163 [.int .u64 a, .int .u64 b] h fun x h' => x = .bool (lessE a b) ∧ h' = h := by
  refine Fn_c Tryz.func163 mixed c163 (by kernel_rfl) ?_; rw [r163]
  refine gs0 ?_; (try with_reducible exact trivial)
  first | done | rfl | exact ⟨rfl, rfl⟩
theorem plain_c (op a b : Int)  (h : Heap) : Fn Tryz.prog 164 [.int .i64 op, .int .u64 a, .int .u64 b] h fun x h' => x = okV (plainE op a b) ∧ h' = h := by
  refine if q : op = 1 then ?_ else if q : op = 22 then ?_ else if q : op = 31 then ?_ else if q : op = 32 then ?_ else if q : op = 25 then ?_ else if q : op = 36 then ?_ else if q : op = 26 then ?_ else if q : op = 39 then ?_ else if q : op = 27 then ?_ else if q : op = 40 then ?_ else if q : op = 23 then ?_ else if q : op = 34 then ?_ else if q : op = 24 then ?_ else if q : op = 35 then ?_ else ?_
  all_goals
    have w := andU_nn
    refine Fn_c Tryz.func164 mixed c164 (by kernel_rfl) ?_; rw [r164]
    refine ga0 ?_; (try with_reducible exact trivial)
    repeat ((first | refine FnK.val (truth_c _ _) ?_ | refine FnK.val (less_c _ _ _) ?_); refine ga0 ?_; (try with_reducible exact trivial))
    first | done | rfl | exact ⟨rfl, rfl⟩ | ((try unfold plainE okV); (try simp only [true_or, or_true, or_self, if_true, if_false, or_false, false_or, Int.reduceEq, *]); first | done | rfl | exact ⟨rfl, rfl⟩)
theorem shifts_c (op a b : Int)  (h : Heap) : Fn Tryz.prog 165 [.int .i64 op, .int .u64 a, .int .u64 b] h fun x h' => x = okV (shiftsE op a b) ∧ h' = h := by
  refine if q : op = 28 then ?_ else if q : op = 33 then ?_ else if q : op = 29 then ?_ else if q : op = 37 then ?_ else if q : op = 30 then ?_ else if q : op = 38 then ?_ else ?_
  all_goals
    have w := andU_nn
    refine Fn_c Tryz.func165 mixed c165 (by kernel_rfl) ?_; rw [r165]
    refine ga0 ?_; (try with_reducible exact trivial)
    first | done | rfl | exact ⟨rfl, rfl⟩ | ((try unfold shiftsE okV); (try simp only [true_or, or_true, or_self, if_true, if_false, or_false, false_or, Int.reduceEq, *]); first | done | rfl | exact ⟨rfl, rfl⟩)
theorem halves_c (op a b : Int)  (h : Heap) : Fn Tryz.prog 166 [.int .i64 op, .int .u64 a, .int .u64 b] h fun x h' => x = okV (halvesE op a b) ∧ h' = h := by
  refine if q : op = 41 then ?_ else if q : op = 45 then ?_ else if q : op = 46 then ?_ else if q : op = 58 then ?_ else if q : op = 42 then ?_ else if q : op = 47 then ?_ else if q : op = 43 then ?_ else if q : op = 48 then ?_ else if q : op = 44 then ?_ else if q : op = 49 then ?_ else ?_
  all_goals
    have w := andU_nn
    refine Fn_c Tryz.func166 mixed c166 (by kernel_rfl) ?_; rw [r166]
    refine ga0 ?_; (try with_reducible exact trivial)
    repeat ((first | refine FnK.val (wdsext_c _ 32 (by omega) (by omega) _) ?_); refine ga0 ?_; (try with_reducible exact trivial))
    first | done | rfl | exact ⟨rfl, rfl⟩ | ((try unfold halvesE okV); (try simp only [true_or, or_true, or_self, if_true, if_false, or_false, false_or, Int.reduceEq, *]); first | done | rfl | exact ⟨rfl, rfl⟩)
end Go.SX.G
namespace Go.SX.G
open Go Go.SX Go.Proofs
set_option maxRecDepth 100000
set_option maxHeartbeats 8000000
theorem mul64_c (x y : Int) (h : Heap) : Fn Tryz.prog 219 [.int .u64 x, .int .u64 y] h fun r h' => r = .tuple #[.int .u64 (mulhuE x y), .int .u64 (IntKind.u64.wrap (x * y))] ∧ h' = h := by
  refine Fn_c Tryz.func219 mixed c219 (by kernel_rfl) ?_; rw [r219]
  refine gs0 ?_; (try with_reducible exact trivial)
  first | done | rfl | exact ⟨rfl, rfl⟩
theorem mulhu_c (x y : Int) (h : Heap) : Fn Tryz.prog 208 [.int .u64 x, .int .u64 y] h fun r h' => r = .int .u64 (mulhuE x y) ∧ h' = h := by
  refine Fn_c Tryz.func208 mixed c208 (by kernel_rfl) ?_; rw [r208]
  refine gs0 ?_; (try with_reducible exact trivial)
  refine FnK.val (mul64_c x y _) ?_
  refine gs0 ?_; (try with_reducible exact trivial)
  first | done | rfl | exact ⟨rfl, rfl⟩
theorem minus_c (x : Int) (h : Heap) : Fn Tryz.prog 218 [.int .u64 x] h fun r h' => r = .bool (minusE x) ∧ h' = h := by
  refine Fn_c Tryz.func218 mixed c218 (by kernel_rfl) ?_; rw [r218]
  refine gs0 ?_; (try with_reducible exact trivial)
  first | done | rfl | exact ⟨rfl, rfl⟩
theorem mulhsu_c (x y : Int) (h : Heap) : Fn Tryz.prog 207 [.int .u64 x, .int .u64 y] h fun r h' => r = .int .u64 (mulhsuE x y) ∧ h' = h := by
  cases q : minusE x with
  | true =>
    refine Fn_c Tryz.func207 mixed c207 (by kernel_rfl) ?_; rw [r207]
    refine gs0 ?_; (try with_reducible exact trivial)
    refine FnK.val (mulhu_c x y _) ?_
    refine gs0 ?_; (try with_reducible exact trivial)
    refine FnK.val (minus_c x _) ?_
    rw [q]
    refine gs0 ?_; (try with_reducible exact trivial)
    unfold mulhsuE
    rw [q]
    first | done | rfl | exact ⟨rfl, rfl⟩
  | false =>
    refine Fn_c Tryz.func207 mixed c207 (by kernel_rfl) ?_; rw [r207]
    refine gs0 ?_; (try with_reducible exact trivial)
    refine FnK.val (mulhu_c x y _) ?_
    refine gs0 ?_; (try with_reducible exact trivial)
    refine FnK.val (minus_c x _) ?_
    rw [q]
    refine gs0 ?_; (try with_reducible exact trivial)
    unfold mulhsuE
    rw [q]
    first | done | rfl | exact ⟨rfl, rfl⟩
theorem mulh_c (x y : Int) (h : Heap) : Fn Tryz.prog 206 [.int .u64 x, .int .u64 y] h fun r h' => r = .int .u64 (mulhE x y) ∧ h' = h := by
  cases q : minusE y with
  | true =>
    refine Fn_c Tryz.func206 mixed c206 (by kernel_rfl) ?_; rw [r206]
    refine gs0 ?_; (try with_reducible exact trivial)
    refine FnK.val (mulhsu_c x y _) ?_
    refine gs0 ?_; (try with_reducible exact trivial)
    refine FnK.val (minus_c y _) ?_
    rw [q]
    refine gs0 ?_; (try with_reducible exact trivial)
    unfold mulhE
    rw [q]
    first | done | rfl | exact ⟨rfl, rfl⟩
  | false =>
    refine Fn_c Tryz.func206 mixed c206 (by kernel_rfl) ?_; rw [r206]
    refine gs0 ?_; (try with_reducible exact trivial)
    refine FnK.val (mulhsu_c x y _) ?_
    refine gs0 ?_; (try with_reducible exact trivial)
    refine FnK.val (minus_c y _) ?_
    rw [q]
    refine gs0 ?_; (try with_reducible exact trivial)
    unfold mulhE
    rw [q]
    first | done | rfl | exact ⟨rfl, rfl⟩
theorem divu_c (x y : Int) (h : Heap) : Fn Tryz.prog 210 [.int .u64 x, .int .u64 y] h fun r h' => r = .int .u64 (divuE x y) ∧ h' = h := by
  by_cases q : y = 0
  · have t : (y = 0) = True := eq_true q
    refine Fn_c Tryz.func210 mixed c210 (by kernel_rfl) ?_; rw [r210]
    refine gs1 @t ?_; (try with_reducible exact trivial)
    unfold divuE
    simp only [t, if_true]
  · have t : (y = 0) = False := eq_false q
    refine Fn_c Tryz.func210 mixed c210 (by kernel_rfl) ?_; rw [r210]
    refine gs1 @t ?_; (try with_reducible exact trivial)
    unfold divuE
    simp only [t, if_false]
    first | done | rfl | exact ⟨rfl, rfl⟩
theorem remu_c (x y : Int) (h : Heap) : Fn Tryz.prog 212 [.int .u64 x, .int .u64 y] h fun r h' => r = .int .u64 (remuE x y) ∧ h' = h := by
  by_cases q : y = 0
  · have t : (y = 0) = True := eq_true q
    refine Fn_c Tryz.func212 mixed c212 (by kernel_rfl) ?_; rw [r212]
    refine gs1 @t ?_; (try with_reducible exact trivial)
    unfold remuE
    simp only [t, if_true]
  · have t : (y = 0) = False := eq_false q
    refine Fn_c Tryz.func212 mixed c212 (by kernel_rfl) ?_; rw [r212]
    refine gs1 @t ?_; (try with_reducible exact trivial)
    unfold remuE
    simp only [t, if_false]
    first | done | rfl | exact ⟨rfl, rfl⟩
theorem div_c (x y : Int) (hy : u64R y) (h : Heap) : Fn Tryz.prog 209 [.int .u64 x, .int .u64 y] h fun r h' => r = .int .u64 (divE x y) ∧ h' = h := by
  by_cases q : y = 0
  · have t : (y = 0) = True := eq_true q
    refine Fn_c Tryz.func209 mixed c209 (by kernel_rfl) ?_; rw [r209]
    refine gs1 @t ?_; (try with_reducible exact trivial)
    unfold divE
    simp only [t, if_true]
  · have t : (y = 0) = False := eq_false q
    have w : (IntKind.i64.wrap y = 0) = False := eq_false (by rw [wrap_i64]; unfold u64R at hy; omega)
    by_cases q1 : x = 9223372036854775808
    · have t1 : (x = 9223372036854775808) = True := eq_true q1
      by_cases q2 : y = 18446744073709551615
      · have t2 : (y = 18446744073709551615) = True := eq_true q2
        refine Fn_c Tryz.func209 mixed c209 (by kernel_rfl) ?_; rw [r209]
        refine gs4 @t @t1 @t2 @w ?_; (try with_reducible exact trivial)
        unfold divE
        simp only [t, t1, t2, if_true, if_false]
        first | done | rfl | exact ⟨rfl, rfl⟩
      · have t2 : (y = 18446744073709551615) = False := eq_false q2
        refine Fn_c Tryz.func209 mixed c209 (by kernel_rfl) ?_; rw [r209]
        refine gs4 @t @t1 @t2 @w ?_; (try with_reducible exact trivial)
        unfold divE
        simp only [t, t1, t2, if_true, if_false]
        first | done | rfl | exact ⟨rfl, rfl⟩
    · have t1 : (x = 9223372036854775808) = False := eq_false q1
      refine Fn_c Tryz.func209 mixed c209 (by kernel_rfl) ?_; rw [r209]
      refine gs3 @t @t1 @w ?_; (try with_reducible exact trivial)
      unfold divE
      simp only [t, t1, if_true, if_false]
      first | done | rfl | exact ⟨rfl, rfl⟩
theorem rem_c (x y : Int) (hy : u64R y) (h : Heap) : Fn Tryz.prog 211 [.int .u64 x, .int .u64 y] h fun r h' => r = .int .u64 (remE x y) ∧ h' = h := by
  by_cases q : y = 0
  · have t : (y = 0) = True := eq_true q
    refine Fn_c Tryz.func211 mixed c211 (by kernel_rfl) ?_; rw [r211]
    refine gs1 @t ?_; (try with_reducible exact trivial)
    unfold remE
    simp only [t, if_true]
  · have t : (y = 0) = False := eq_false q
    have w : (IntKind.i64.wrap y = 0) = False := eq_false (by rw [wrap_i64]; unfold u64R at hy; omega)
    by_cases q1 : x = 9223372036854775808
    · have t1 : (x = 9223372036854775808) = True := eq_true q1
      by_cases q2 : y = 18446744073709551615
      · have t2 : (y = 18446744073709551615) = True := eq_true q2
        refine Fn_c Tryz.func211 mixed c211 (by kernel_rfl) ?_; rw [r211]
        refine gs4 @t @t1 @t2 @w ?_; (try with_reducible exact trivial)
        unfold remE
        simp only [t, t1, t2, if_true, if_false]
        first | done | rfl | exact ⟨rfl, rfl⟩
      · have t2 : (y = 18446744073709551615) = False := eq_false q2
        refine Fn_c Tryz.func211 mixed c211 (by kernel_rfl) ?_; rw [r211]
        refine gs4 @t @t1 @t2 @w ?_; (try with_reducible exact trivial)
        unfold remE
        simp only [t, t1, t2, if_true, if_false]
        first | done | rfl | exact ⟨rfl, rfl⟩
    · have t1 : (x = 9223372036854775808) = False := eq_false q1
      refine Fn_c Tryz.func211 mixed c211 (by kernel_rfl) ?_; rw [r211]
      refine gs3 @t @t1 @w ?_; (try with_reducible exact trivial)
      unfold remE
      simp only [t, t1, if_true, if_false]
      first | done | rfl | exact ⟨rfl, rfl⟩
theorem sext_u64 (n w : Int) : u64R (sextE n w) := by
  unfold sextE u64R; rw [wrap_u64]; omega
theorem products_c (op a b : Int) (hb : u64R b) (h : Heap) : Fn Tryz.prog 167 [.int .i64 op, .int .u64 a, .int .u64 b] h fun x h' => x = okV (productsE op a b) ∧ h' = h := by
  refine if q : op = 50 then ?_ else if q : op = 51 then ?_ else if q : op = 52 then ?_ else if q : op = 53 then ?_ else if q : op = 54 then ?_ else if q : op = 55 then ?_ else if q : op = 56 then ?_ else if q : op = 57 then ?_ else ?_
  all_goals
    have w := andU_nn
    refine Fn_c Tryz.func167 mixed c167 (by kernel_rfl) ?_; rw [r167]
    refine ga0 ?_; (try with_reducible exact trivial)
    repeat ((first | refine FnK.val (mulh_c _ _ _) ?_ | refine FnK.val (mulhsu_c _ _ _) ?_ | refine FnK.val (mulhu_c _ _ _) ?_ | refine FnK.val (div_c _ _ hb _) ?_ | refine FnK.val (divu_c _ _ _) ?_ | refine FnK.val (rem_c _ _ hb _) ?_ | refine FnK.val (remu_c _ _ _) ?_); refine ga0 ?_; (try with_reducible exact trivial))
    first | done | rfl | exact ⟨rfl, rfl⟩ | ((try unfold productsE okV); (try simp only [true_or, or_true, or_self, if_true, if_false, or_false, false_or, Int.reduceEq, *]); first | done | rfl | exact ⟨rfl, rfl⟩)
theorem quotients_c (op a b : Int)  (h : Heap) : Fn Tryz.prog 168 [.int .i64 op, .int .u64 a, .int .u64 b] h fun x h' => x = okV (quotientsE op a b) ∧ h' = h := by
  refine if q : op = 59 then ?_ else if q : op = 60 then ?_ else if q : op = 61 then ?_ else if q : op = 62 then ?_ else ?_
  all_goals
    have w := andU_nn
    refine Fn_c Tryz.func168 mixed c168 (by kernel_rfl) ?_; rw [r168]
    refine ga0 ?_; (try with_reducible exact trivial)
    repeat ((first | refine FnK.val (wdsext_c _ 32 (by omega) (by omega) _) ?_ | refine FnK.val (div_c _ _ (sext_u64 _ _) _) ?_ | refine FnK.val (divu_c _ _ _) ?_ | refine FnK.val (rem_c _ _ (sext_u64 _ _) _) ?_ | refine FnK.val (remu_c _ _ _) ?_); refine ga0 ?_; (try with_reducible exact trivial))
    first | done | rfl | exact ⟨rfl, rfl⟩ | ((try unfold quotientsE okV); (try simp only [true_or, or_true, or_self, if_true, if_false, or_false, false_or, Int.reduceEq, *]); first | done | rfl | exact ⟨rfl, rfl⟩)
theorem ado_c (op a b : Int) (hb : u64R b) (h : Heap) : Fn Tryz.prog 135 [.int .i64 op, .int .u64 a, .int .u64 b] h fun x h' => x = okV (aluE op a b) ∧ h' = h := by
  unfold aluE
  cases e0 : plainE op a b with
  | some x =>
      refine Fn_c Tryz.func135 mixed c135 (by kernel_rfl) ?_; rw [r135]
      refine gs0 ?_; (try with_reducible exact trivial)
      refine FnK.val (plain_c op a b _) ?_
      rw [e0]
      unfold okV
      refine gs0 ?_; (try with_reducible exact trivial)
      first | done | rfl | exact ⟨rfl, rfl⟩
  | none =>
    cases e1 : shiftsE op a b with
    | some x =>
        refine Fn_c Tryz.func135 mixed c135 (by kernel_rfl) ?_; rw [r135]
        refine gs0 ?_; (try with_reducible exact trivial)
        refine FnK.val (plain_c op a b _) ?_
        rw [e0]
        unfold okV
        refine gs0 ?_; (try with_reducible exact trivial)
        refine FnK.val (shifts_c op a b _) ?_
        rw [e1]
        unfold okV
        refine gs0 ?_; (try with_reducible exact trivial)
        first | done | rfl | exact ⟨rfl, rfl⟩
    | none =>
      cases e2 : halvesE op a b with
      | some x =>
          refine Fn_c Tryz.func135 mixed c135 (by kernel_rfl) ?_; rw [r135]
          refine gs0 ?_; (try with_reducible exact trivial)
          refine FnK.val (plain_c op a b _) ?_
          rw [e0]
          unfold okV
          refine gs0 ?_; (try with_reducible exact trivial)
          refine FnK.val (shifts_c op a b _) ?_
          rw [e1]
          unfold okV
          refine gs0 ?_; (try with_reducible exact trivial)
          refine FnK.val (halves_c op a b _) ?_
          rw [e2]
          unfold okV
          refine gs0 ?_; (try with_reducible exact trivial)
          first | done | rfl | exact ⟨rfl, rfl⟩
      | none =>
        cases e3 : productsE op a b with
        | some x =>
            refine Fn_c Tryz.func135 mixed c135 (by kernel_rfl) ?_; rw [r135]
            refine gs0 ?_; (try with_reducible exact trivial)
            refine FnK.val (plain_c op a b _) ?_
            rw [e0]
            unfold okV
            refine gs0 ?_; (try with_reducible exact trivial)
            refine FnK.val (shifts_c op a b _) ?_
            rw [e1]
            unfold okV
            refine gs0 ?_; (try with_reducible exact trivial)
            refine FnK.val (halves_c op a b _) ?_
            rw [e2]
            unfold okV
            refine gs0 ?_; (try with_reducible exact trivial)
            refine FnK.val (products_c op a b hb _) ?_
            rw [e3]
            unfold okV
            refine gs0 ?_; (try with_reducible exact trivial)
            first | done | rfl | exact ⟨rfl, rfl⟩
        | none =>
          cases e4 : quotientsE op a b
          all_goals
            refine Fn_c Tryz.func135 mixed c135 (by kernel_rfl) ?_; rw [r135]
            refine gs0 ?_; (try with_reducible exact trivial)
            refine FnK.val (plain_c op a b _) ?_
            rw [e0]
            unfold okV
            refine gs0 ?_; (try with_reducible exact trivial)
            refine FnK.val (shifts_c op a b _) ?_
            rw [e1]
            unfold okV
            refine gs0 ?_; (try with_reducible exact trivial)
            refine FnK.val (halves_c op a b _) ?_
            rw [e2]
            unfold okV
            refine gs0 ?_; (try with_reducible exact trivial)
            refine FnK.val (products_c op a b hb _) ?_
            rw [e3]
            unfold okV
            refine gs0 ?_; (try with_reducible exact trivial)
            refine FnK.val (quotients_c op a b _) ?_
            rw [e4]
            unfold okV
            refine gs0 ?_; (try with_reducible exact trivial)
            first | done | rfl | exact ⟨rfl, rfl⟩
end Go.SX.G
namespace Go.SX.G
open Go Go.SX Go.Proofs
set_option maxRecDepth 100000
set_option maxHeartbeats 8000000
theorem taken_c (op a b : Int) (h : Heap) : Fn Tryz.prog 131 [.int .i64 op, .int .u64 a, .int .u64 b] h fun x h' => x = .tuple #[.bool (takenE op a b).1, .bool (takenE op a b).2] ∧ h' = h := by
  refine if q : op = 5 then ?_ else if q : op = 6 then ?_ else if q : op = 7 then ?_ else if q : op = 8 then ?_ else if q : op = 9 then ?_ else if q : op = 10 then ?_ else ?_
  all_goals
    refine Fn_c Tryz.func131 mixed c131 (by kernel_rfl) ?_; rw [r131]
    refine ga0 ?_; (try with_reducible exact trivial)
    repeat ((first | refine FnK.val (less_c _ _ _) ?_); refine ga0 ?_; (try with_reducible exact trivial))
    first | done | rfl | exact ⟨rfl, rfl⟩ | ((try unfold takenE); (try simp only [if_true, if_false, Int.reduceEq, *]); first | done | rfl | exact ⟨rfl, rfl⟩)
theorem access_c (op : Int) (h : Heap) : Fn Tryz.prog 108 [.int .i64 op] h fun x h' => x = .tuple #[.int .i64 (accE op).1, .bool (accE op).2] ∧ h' = h := by
  refine if q : op = 11 then ?_ else if q : op = 18 then ?_ else if q : op = 12 then ?_ else if q : op = 19 then ?_ else if q : op = 13 then ?_ else if q : op = 20 then ?_ else if q : op = 14 then ?_ else if q : op = 21 then ?_ else if q : op = 15 then ?_ else if q : op = 16 then ?_ else if q : op = 17 then ?_ else ?_
  all_goals
    refine Fn_c Tryz.func108 mixed c108 (by kernel_rfl) ?_; rw [r108]
    refine ga0 ?_; (try with_reducible exact trivial)
    first | done | rfl | exact ⟨rfl, rfl⟩ | ((try unfold accE); (try simp only [if_true, if_false, Int.reduceEq, *]); first | done | rfl | exact ⟨rfl, rfl⟩)
end Go.SX.G
namespace Go.SX.G
open Go Go.SX Go.Proofs
set_option maxRecDepth 100000
set_option maxHeartbeats 8000000
/-- a state's block. -/
abbrev sO (f : Nat → Value) : Obj := .cells (fnL 35 f).toArray 63 (0, 0)
theorem toN32 {r : Int} (h : rngI r 32) : ∃ n : Nat, r = n ∧ n < 32 := ⟨r.toNat, by have := h.1; omega, by have := h.1; have := h.2; omega⟩
theorem xCell {h : Heap} {tb : Nat} {t : HS} (H : h[tb]? = some (sO t.cell)) (r : Nat) (hr : r < 32) : cellO (1 + r) h[tb]? = some (.int .u64 (t.get r)) := by
  rw [H, fnL_cell (by omega), t.cellX r hr]; rfl
theorem pcCell {h : Heap} {tb : Nat} {t : HS} (H : h[tb]? = some (sO t.cell)) : cellO 0 h[tb]? = some (.int .u64 t.pc) := by
  rw [H, fnL_cell (by omega), t.cell0]
/-- a register is set. -/
theorem xSet {h : Heap} {tb : Nat} {t : HS} (H : h[tb]? = some (sO t.cell)) (r : Nat) (v : Int) (hr : r < 32) : ∃ h', wrO h tb (1 + r) [.int .u64 v] h[tb]? = some h' ∧ h'[tb]? = some (sO (t.set r v).cell) ∧ h'.size = h.size ∧ ∀ c, c ≠ tb → h'[c]? = h[c]? := by
  obtain ⟨h', w, c, z, o⟩ := fnL_one (o := 1 + r) (v := .int .u64 v) H (by omega) rfl
  rw [HS.cell_set t r v hr] at c
  exact ⟨h', w, c, z, o⟩
theorem jump_g {h : Heap} {tb : Nat} (t : HS) (i : InstR) (H : h[tb]? = some (sO t.cell)) (ok : i.ok) :
    Fn Tryz.prog 107 [ptr tb 0, i.v] h fun x h' => x = .tuple #[.int .u64 (jumpF t i).to, .bool (jumpF t i).ok] ∧ h'[tb]? = some (sO (jumpF t i).t.cell) ∧ h.size ≤ h'.size ∧ ∀ b, b < h.size → b ≠ tb → h'[b]? = h[b]? := by
  have lt := getElem?_lt H
  obtain ⟨rd, hrd, lrd⟩ := toN32 ok.rd
  obtain ⟨r1, hr1, lr1⟩ := toN32 ok.rs1
  obtain ⟨r2, hr2, lr2⟩ := toN32 ok.rs2
  have c0 := pcCell H
  have c1 := xCell H r1 lr1
  have c2 := xCell H r2 lr2
  have d1 : decide ((rd : Int) < 32) = true := decide_eq_true (by omega)
  have d2 : decide ((rd : Int) < 0) = false := decide_eq_false (by omega)
  have d3 : decide ((r1 : Int) < 32) = true := decide_eq_true (by omega)
  have d4 : decide ((r1 : Int) < 0) = false := decide_eq_false (by omega)
  have d5 : decide ((r2 : Int) < 32) = true := decide_eq_true (by omega)
  have d6 : decide ((r2 : Int) < 0) = false := decide_eq_false (by omega)
  obtain ⟨X, eX⟩ : ∃ X, X = h.push (.cells #[.int .i64 i.op, .int .i64 rd, .int .i64 r1, .int .i64 r2, .int .i64 i.imm, .int .i64 i.order, .int .i64 i.size] 47) := ⟨_, rfl⟩
  have HX : X[tb]? = some (sO t.cell) := by rw [eX, h_pushL _ _ _ lt]; exact H
  have zX : X.size = h.size + 1 := by rw [eX]; simp
  have oX : ∀ b, b < h.size → X[b]? = h[b]? := fun b q => by rw [eX, h_pushL _ _ _ q]
  have iX : X[h.size]? = some (.cells #[.int .i64 i.op, .int .i64 rd, .int .i64 r1, .int .i64 r2, .int .i64 i.imm, .int .i64 i.order, .int .i64 i.size] 47 (0, 0)) := by rw [eX]; exact h_pushE _ _ _ rfl
  obtain ⟨h2, w2, H2, z2, o2⟩ := xSet HX rd (IntKind.u64.wrap (t.pc + IntKind.u64.wrap i.size)) lrd
  have i2 := (o2 h.size (by omega)).trans iX
  have l2 := getElem?_lt i2
  have c02 := pcCell H2
  have c0X := pcCell HX
  rw [eX, h_pushL _ _ _ lt] at w2
  by_cases q3 : i.op = 3
  · have t3 : (i.op = 3) = True := eq_true q3
    refine Fn_c Tryz.func107 mixed c107 (by kernel_rfl) ?_; rw [r107]
    simp -implicitDefEqProofs (disch := first | omega | (simp only [h_szP, h_szS]; done) | (simp only [h_szP, h_szS]; omega)) only [go_sem, Nat.reduceBEq, reduceCtorEq, Nat.reduceAdd, Int.reduceEq, Int.reduceLT, Int.reduceLE, Int.reduceMul, Int.reduceAdd, Int.reduceSub, reduceIte, Nat.reduceLeDiff, Nat.reduceLT, Nat.reduceMul, Nat.reduceSub, Int.reduceToNat, InstR.v, hrd, hr1, hr2, c0, c1, c2, d1, d2, d3, d4, d5, d6, t3, Nat.mul_one, w2, i2, c02]
    unfold jumpF
    rw [if_pos q3, hrd]
    exact ⟨rfl, H2, by omega, fun b hb n => by rw [o2 b n, oX b hb]⟩
  · have t3 : (i.op = 3) = False := eq_false q3
    by_cases q4 : i.op = 4
    · have t4 : (i.op = 4) = True := eq_true q4
      refine Fn_c Tryz.func107 mixed c107 (by kernel_rfl) ?_; rw [r107]
      simp -implicitDefEqProofs (disch := first | omega | (simp only [h_szP, h_szS]; done) | (simp only [h_szP, h_szS]; omega)) only [go_sem, Nat.reduceBEq, reduceCtorEq, Nat.reduceAdd, Int.reduceEq, Int.reduceLT, Int.reduceLE, Int.reduceMul, Int.reduceAdd, Int.reduceSub, reduceIte, Nat.reduceLeDiff, Nat.reduceLT, Nat.reduceMul, Nat.reduceSub, Int.reduceToNat, InstR.v, hrd, hr1, hr2, c0, c1, c2, d1, d2, d3, d4, d5, d6, t3, t4, Nat.mul_one, w2, i2, c02]
      unfold jumpF
      rw [if_neg q3, if_pos q4, hrd, hr1]
      exact ⟨rfl, H2, by omega, fun b hb n => by rw [o2 b n, oX b hb]⟩
    · have t4 : (i.op = 4) = False := eq_false q4
      have tk := taken_c i.op (t.get r1) (t.get r2)
      cases qt : (takenE i.op (t.get r1) (t.get r2)).1 with
      | true =>
        refine Fn_c Tryz.func107 mixed c107 (by kernel_rfl) ?_; rw [r107]
        simp -implicitDefEqProofs (disch := first | omega | (simp only [h_szP, h_szS]; done) | (simp only [h_szP, h_szS]; omega)) only [go_sem, Nat.reduceBEq, reduceCtorEq, Nat.reduceAdd, Int.reduceEq, Int.reduceLT, Int.reduceLE, Int.reduceMul, Int.reduceAdd, Int.reduceSub, reduceIte, Nat.reduceLeDiff, Nat.reduceLT, Nat.reduceMul, Nat.reduceSub, Int.reduceToNat, InstR.v, hrd, hr1, hr2, c0, c1, c2, d1, d2, d3, d4, d5, d6, t3, t4, Nat.mul_one]
        refine FnK.val (tk _) ?_
        rw [qt]
        rw [← eX]
        refine gs2 @iX @c0X ?_; (try with_reducible exact trivial)
        unfold jumpF
        rw [if_neg q3, if_neg q4, hr1, hr2, if_pos qt]
        exact ⟨rfl, HX, by omega, fun b hb n => oX b hb⟩
      | false =>
        refine Fn_c Tryz.func107 mixed c107 (by kernel_rfl) ?_; rw [r107]
        simp -implicitDefEqProofs (disch := first | omega | (simp only [h_szP, h_szS]; done) | (simp only [h_szP, h_szS]; omega)) only [go_sem, Nat.reduceBEq, reduceCtorEq, Nat.reduceAdd, Int.reduceEq, Int.reduceLT, Int.reduceLE, Int.reduceMul, Int.reduceAdd, Int.reduceSub, reduceIte, Nat.reduceLeDiff, Nat.reduceLT, Nat.reduceMul, Nat.reduceSub, Int.reduceToNat, InstR.v, hrd, hr1, hr2, c0, c1, c2, d1, d2, d3, d4, d5, d6, t3, t4, Nat.mul_one]
        refine FnK.val (tk _) ?_
        rw [qt]
        rw [← eX]
        refine gs2 @iX @c0X ?_; (try with_reducible exact trivial)
        unfold jumpF
        rw [if_neg q3, if_neg q4, hr1, hr2, if_neg (by rw [qt]; simp)]
        exact ⟨rfl, HX, by omega, fun b hb n => oX b hb⟩
end Go.SX.G
