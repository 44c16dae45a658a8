/- Short instructions: their fields. Printed by a program of this session. No condition but on the ranges of arguments. Short instructions: each is expanded. Printed by a program of this session. No condition but on the ranges of arguments. -/
import Derived.Test.YtajfhnphhdoobaaGreatGen
import Derived.Test.YtajfhnphhdoobaaGreatSxP
import Derived.Test.YtajfhnphhdoobaaGreatPlainB
set_option linter.unusedVariables false
set_option linter.unusedSimpArgs false
namespace Go.SX.G
open Go Go.SX Go.Proofs
set_option maxRecDepth 100000
set_option maxHeartbeats 8000000
theorem bits_c (n f c t : Int) (hf : 0 ≤ f) (hc : 0 ≤ c) (ht : 0 ≤ t) (h : Heap) : Fn Tryz.prog 185 [.int .u16 n, .int .i64 f, .int .i64 c, .int .i64 t] h fun x h' => x = .int .i64 (bitsE n f c t) ∧ h' = h := by
  refine Fn_c Tryz.func185 mixed c185 (by kernel_rfl) ?_; rw [r185]
  refine gs0 ?_; (try with_reducible exact trivial)
  rfl
theorem wdsext_c (n w : Int) (hw : 1 ≤ w) (hw2 : w ≤ 64) (h : Heap) : Fn Tryz.prog 134 [.int .u64 n, .int .i64 w] h fun x h' => x = .int .u64 (sextE n w) ∧ h' = h := by
  have d1 : (w < 1) = False := eq_false (by omega)
  have d2 : (64 < w) = False := eq_false (by omega)
  refine Fn_c Tryz.func134 mixed c134 (by kernel_rfl) ?_; rw [r134]
  refine gs2 @d1 @d2 ?_; (try with_reducible exact trivial)
  rfl
theorem signed_c (n w : Int) (hw : 1 ≤ w) (hw2 : w ≤ 64) (h : Heap) : Fn Tryz.prog 217 [.int .i64 n, .int .i64 w] h fun x h' => x = .int .i64 (signedE n w) ∧ h' = h := by
  refine Fn_c Tryz.func217 mixed c217 (by kernel_rfl) ?_; rw [r217]
  refine gs0 ?_; (try with_reducible exact trivial)
  refine FnK.val (wdsext_c (IntKind.u64.wrap n) w hw hw2 h) ?_
  refine gs0 ?_; (try with_reducible exact trivial)
  rfl
theorem reg_c (n f : Int) (hf : 0 ≤ f) (h : Heap) : Fn Tryz.prog 184 [.int .u16 n, .int .i64 f] h fun x h' => x = .int .i64 (regE n f) ∧ h' = h := by
  refine Fn_c Tryz.func184 mixed c184 (by kernel_rfl) ?_; rw [r184]
  refine gs0 ?_; (try with_reducible exact trivial)
  refine FnK.val (bits_c n f 3 0 hf (by omega) (by omega) h) ?_
  refine gs0 ?_; (try with_reducible exact trivial)
  rfl
theorem pa8_0 : place Tryz.prog 198 0 = some (0, 1) := by kernel_rfl
theorem pa8_1 : place Tryz.prog 198 1 = some (1, 1) := by kernel_rfl
theorem pa8_2 : place Tryz.prog 198 2 = some (2, 1) := by kernel_rfl
theorem pa8_3 : place Tryz.prog 198 3 = some (3, 1) := by kernel_rfl
theorem pa8_4 : place Tryz.prog 198 4 = some (4, 1) := by kernel_rfl
theorem pa8_5 : place Tryz.prog 198 5 = some (5, 1) := by kernel_rfl
theorem pa8_6 : place Tryz.prog 198 6 = some (6, 1) := by kernel_rfl
theorem pa8_7 : place Tryz.prog 198 7 = some (7, 1) := by kernel_rfl
attribute [go_sem] pa8_0 pa8_1 pa8_2 pa8_3 pa8_4 pa8_5 pa8_6 pa8_7
theorem ix8 (k : Int) (h8 : rngI k 8) (a0 a1 a2 a3 a4 a5 a6 a7 : Int) : idxV Tryz.prog 198 (.agg #[.int .i64 a0, .int .i64 a1, .int .i64 a2, .int .i64 a3, .int .i64 a4, .int .i64 a5, .int .i64 a6, .int .i64 a7]) (.int .i64 k) = some (.int .i64 (tab8 a0 a1 a2 a3 a4 a5 a6 a7 k)) := by
  have ar : arE Tryz.prog 198 = some (8, 3, 1) := by kernel_rfl
  have hk : k = 0 ∨ k = 1 ∨ k = 2 ∨ k = 3 ∨ k = 4 ∨ k = 5 ∨ k = 6 ∨ k = 7 := by unfold rngI at h8; omega
  rcases hk with rfl | rfl | rfl | rfl | rfl | rfl | rfl | rfl
  all_goals
    unfold idxV
    simp only [ar, Option.bind_some]
    rw [if_pos (by omega)]
    unfold partV
    rw [sh3]
    rfl
theorem rd_c (n : Int) (h : Heap) : Fn Tryz.prog 188 [.int .u16 n] h fun x h' => x = .int .i64 (rdE n) ∧ h' = h := by
  refine Fn_c Tryz.func188 mixed c188 (by kernel_rfl) ?_; rw [r188]
  refine gs0 ?_; (try with_reducible exact trivial)
  refine FnK.val (bits_c n 7 5 0 (by omega) (by omega) (by omega) _) ?_
  refine gs0 ?_; (try with_reducible exact trivial)
  rfl
theorem rs2_c (n : Int) (h : Heap) : Fn Tryz.prog 196 [.int .u16 n] h fun x h' => x = .int .i64 (rs2E n) ∧ h' = h := by
  refine Fn_c Tryz.func196 mixed c196 (by kernel_rfl) ?_; rw [r196]
  refine gs0 ?_; (try with_reducible exact trivial)
  refine FnK.val (bits_c n 2 5 0 (by omega) (by omega) (by omega) _) ?_
  refine gs0 ?_; (try with_reducible exact trivial)
  rfl
theorem six_c (n : Int) (h : Heap) : Fn Tryz.prog 194 [.int .u16 n] h fun x h' => x = .int .i64 (sixE n) ∧ h' = h := by
  refine Fn_c Tryz.func194 mixed c194 (by kernel_rfl) ?_; rw [r194]
  refine gs0 ?_; (try with_reducible exact trivial)
  refine FnK.val (bits_c n 12 1 5 (by omega) (by omega) (by omega) _) ?_
  refine gs0 ?_; (try with_reducible exact trivial)
  refine FnK.val (bits_c n 2 5 0 (by omega) (by omega) (by omega) _) ?_
  refine gs0 ?_; (try with_reducible exact trivial)
  rfl
theorem short_c (n : Int) (h : Heap) : Fn Tryz.prog 189 [.int .u16 n] h fun x h' => x = .int .i64 (shortE n) ∧ h' = h := by
  refine Fn_c Tryz.func189 mixed c189 (by kernel_rfl) ?_; rw [r189]
  refine gs0 ?_; (try with_reducible exact trivial)
  refine FnK.val (six_c n _) ?_
  refine gs0 ?_; (try with_reducible exact trivial)
  refine FnK.val (signed_c _ 6 (by omega) (by omega) _) ?_
  refine gs0 ?_; (try with_reducible exact trivial)
  rfl
theorem words_c (n : Int) (h : Heap) : Fn Tryz.prog 186 [.int .u16 n] h fun x h' => x = .int .i64 (wordsE n) ∧ h' = h := by
  refine Fn_c Tryz.func186 mixed c186 (by kernel_rfl) ?_; rw [r186]
  refine gs0 ?_; (try with_reducible exact trivial)
  refine FnK.val (bits_c n 5 1 6 (by omega) (by omega) (by omega) _) ?_
  refine gs0 ?_; (try with_reducible exact trivial)
  refine FnK.val (bits_c n 10 3 3 (by omega) (by omega) (by omega) _) ?_
  refine gs0 ?_; (try with_reducible exact trivial)
  refine FnK.val (bits_c n 6 1 2 (by omega) (by omega) (by omega) _) ?_
  refine gs0 ?_; (try with_reducible exact trivial)
  rfl
theorem doubles_c (n : Int) (h : Heap) : Fn Tryz.prog 187 [.int .u16 n] h fun x h' => x = .int .i64 (doublesE n) ∧ h' = h := by
  refine Fn_c Tryz.func187 mixed c187 (by kernel_rfl) ?_; rw [r187]
  refine gs0 ?_; (try with_reducible exact trivial)
  refine FnK.val (bits_c n 5 2 6 (by omega) (by omega) (by omega) _) ?_
  refine gs0 ?_; (try with_reducible exact trivial)
  refine FnK.val (bits_c n 10 3 3 (by omega) (by omega) (by omega) _) ?_
  refine gs0 ?_; (try with_reducible exact trivial)
  rfl
theorem hjump_c (n : Int) (h : Heap) : Fn Tryz.prog 192 [.int .u16 n] h fun x h' => x = .int .i64 (jumpE n) ∧ h' = h := by
  refine Fn_c Tryz.func192 mixed c192 (by kernel_rfl) ?_; rw [r192]
  refine gs0 ?_; (try with_reducible exact trivial)
  refine FnK.val (bits_c n 12 1 11 (by omega) (by omega) (by omega) _) ?_
  refine gs0 ?_; (try with_reducible exact trivial)
  refine FnK.val (bits_c n 8 1 10 (by omega) (by omega) (by omega) _) ?_
  refine gs0 ?_; (try with_reducible exact trivial)
  refine FnK.val (bits_c n 9 2 8 (by omega) (by omega) (by omega) _) ?_
  refine gs0 ?_; (try with_reducible exact trivial)
  refine FnK.val (bits_c n 6 1 7 (by omega) (by omega) (by omega) _) ?_
  refine gs0 ?_; (try with_reducible exact trivial)
  refine FnK.val (bits_c n 7 1 6 (by omega) (by omega) (by omega) _) ?_
  refine gs0 ?_; (try with_reducible exact trivial)
  refine FnK.val (bits_c n 2 1 5 (by omega) (by omega) (by omega) _) ?_
  refine gs0 ?_; (try with_reducible exact trivial)
  refine FnK.val (bits_c n 11 1 4 (by omega) (by omega) (by omega) _) ?_
  refine gs0 ?_; (try with_reducible exact trivial)
  refine FnK.val (bits_c n 3 3 1 (by omega) (by omega) (by omega) _) ?_
  refine gs0 ?_; (try with_reducible exact trivial)
  refine FnK.val (signed_c _ 12 (by omega) (by omega) _) ?_
  refine gs0 ?_; (try with_reducible exact trivial)
  rfl
theorem branch_c (n : Int) (h : Heap) : Fn Tryz.prog 193 [.int .u16 n] h fun x h' => x = .int .i64 (branchE n) ∧ h' = h := by
  refine Fn_c Tryz.func193 mixed c193 (by kernel_rfl) ?_; rw [r193]
  refine gs0 ?_; (try with_reducible exact trivial)
  refine FnK.val (bits_c n 12 1 8 (by omega) (by omega) (by omega) _) ?_
  refine gs0 ?_; (try with_reducible exact trivial)
  refine FnK.val (bits_c n 5 2 6 (by omega) (by omega) (by omega) _) ?_
  refine gs0 ?_; (try with_reducible exact trivial)
  refine FnK.val (bits_c n 2 1 5 (by omega) (by omega) (by omega) _) ?_
  refine gs0 ?_; (try with_reducible exact trivial)
  refine FnK.val (bits_c n 10 2 3 (by omega) (by omega) (by omega) _) ?_
  refine gs0 ?_; (try with_reducible exact trivial)
  refine FnK.val (bits_c n 3 2 1 (by omega) (by omega) (by omega) _) ?_
  refine gs0 ?_; (try with_reducible exact trivial)
  refine FnK.val (signed_c _ 9 (by omega) (by omega) _) ?_
  refine gs0 ?_; (try with_reducible exact trivial)
  rfl
end Go.SX.G
namespace Go.SX.G
open Go Go.SX Go.Proofs
set_option maxRecDepth 100000
set_option maxHeartbeats 8000000
theorem hfirst_c (n : Int)  (h : Heap) : Fn Tryz.prog 148 [.int .u16 n] h fun x h' => x = (firstL n).v ∧ Keeps h.size h h' := by
  refine byT (c := bitsE n 13 3 0 = 0) (fun t => byT (c := 0 < bitI .or .i64 (bitI .or .i64 (bitI .or .i64 (bitsE n 7 4 6) (bitsE n 11 2 4)) (bitsE n 5 1 3)) (bitsE n 6 1 2)) (fun t => ?_) fun t => ?_) fun t => byT (c := bitsE n 13 3 0 = 2) (fun t => ?_) fun t => byT (c := bitsE n 13 3 0 = 3) (fun t => ?_) fun t => byT (c := bitsE n 13 3 0 = 6) (fun t => ?_) fun t => byT (c := bitsE n 13 3 0 = 7) (fun t => ?_) fun t => ?_
  all_goals
    refine Fn_c Tryz.func148 mixed c148 (by kernel_rfl) ?_; rw [r148]
    refine ga0 ?_; (try with_reducible exact trivial)
    repeat ((first | refine FnK.val (reg_c n _ (by omega) _) ?_ | refine FnK.val (bits_c n _ _ _ (by omega) (by omega) (by omega) _) ?_ | refine FnK.val (words_c n _) ?_ | refine FnK.val (doubles_c n _) ?_); refine ga0 ?_; (try with_reducible exact trivial))
    first
    | done
    | (try unfold firstL
       try simp only [InstR.v, if_true, if_false, true_and, *]
       first | done | rfl | (refine ⟨rfl, ?_⟩; first | exact Keeps.refl' | exact Keeps.push _ _ (Nat.le_refl _) | exact (Keeps.push _ _ (Nat.le_refl _)).push' (Nat.le_refl _) | exact ((Keeps.push _ _ (Nat.le_refl _)).push' (Nat.le_refl _)).push' (Nat.le_refl _)) | (first | exact Keeps.refl' | exact Keeps.push _ _ (Nat.le_refl _) | exact (Keeps.push _ _ (Nat.le_refl _)).push' (Nat.le_refl _) | exact ((Keeps.push _ _ (Nat.le_refl _)).push' (Nat.le_refl _)).push' (Nat.le_refl _)))
theorem lui_c (n : Int)  (h : Heap) : Fn Tryz.prog 190 [.int .u16 n] h fun x h' => x = (luiL n).v ∧ Keeps h.size h h' := by
  refine byT (c := rdE n = 2) (fun t => byT (c := signedE (bitI .or .i64 (bitI .or .i64 (bitI .or .i64 (bitI .or .i64 (bitsE n 12 1 9) (bitsE n 3 2 7)) (bitsE n 5 1 6)) (bitsE n 2 1 5)) (bitsE n 6 1 4)) 10 = 0) (fun t => ?_) fun t => ?_) fun t => byT (c := shlI .i64 (shortE n) 12 = 0) (fun t => ?_) fun t => ?_
  all_goals
    refine Fn_c Tryz.func190 mixed c190 (by kernel_rfl) ?_; rw [r190]
    refine ga0 ?_; (try with_reducible exact trivial)
    repeat ((first | refine FnK.val (rd_c n _) ?_ | refine FnK.val (bits_c n _ _ _ (by omega) (by omega) (by omega) _) ?_ | refine FnK.val (signed_c _ _ (by omega) (by omega) _) ?_ | refine FnK.val (short_c n _) ?_); refine ga0 ?_; (try with_reducible exact trivial))
    first
    | done
    | (try unfold luiL
       try simp only [InstR.v, if_true, if_false, true_and, *]
       first | done | rfl | (refine ⟨rfl, ?_⟩; first | exact Keeps.refl' | exact Keeps.push _ _ (Nat.le_refl _) | exact (Keeps.push _ _ (Nat.le_refl _)).push' (Nat.le_refl _) | exact ((Keeps.push _ _ (Nat.le_refl _)).push' (Nat.le_refl _)).push' (Nat.le_refl _)) | (first | exact Keeps.refl' | exact Keeps.push _ _ (Nat.le_refl _) | exact (Keeps.push _ _ (Nat.le_refl _)).push' (Nat.le_refl _) | exact ((Keeps.push _ _ (Nat.le_refl _)).push' (Nat.le_refl _)).push' (Nat.le_refl _)))
theorem reckon_c (n : Int) (hn : rngI n 65536) (h : Heap) : Fn Tryz.prog 191 [.int .u16 n] h fun x h' => x = (reckonL n).v ∧ Keeps h.size h h' := by
  have ix := ix8 _ (eight_idx n hn)
  refine byT (c := bitsE n 10 2 0 = 0) (fun t => ?_) fun t => byT (c := bitsE n 10 2 0 = 1) (fun t => ?_) fun t => byT (c := bitsE n 10 2 0 = 2) (fun t => ?_) fun t => byT (c := tab8 32 36 39 40 46 45 0 0 (bitI .or .i64 (bitsE n 12 1 2) (bitsE n 5 2 0)) = 0) (fun t => ?_) fun t => ?_
  all_goals
    refine Fn_c Tryz.func191 mixed c191 (by kernel_rfl) ?_; rw [r191]
    refine ga0 ?_; (try with_reducible exact trivial)
    repeat ((first | refine FnK.val (reg_c n _ (by omega) _) ?_ | refine FnK.val (bits_c n _ _ _ (by omega) (by omega) (by omega) _) ?_ | refine FnK.val (six_c n _) ?_ | refine FnK.val (short_c n _) ?_); refine ga0 ?_; (try with_reducible exact trivial))
    first
    | done
    | (try unfold reckonL
       try simp only [InstR.v, if_true, if_false, true_and, *]
       first | done | rfl | (refine ⟨rfl, ?_⟩; first | exact Keeps.refl' | exact Keeps.push _ _ (Nat.le_refl _) | exact (Keeps.push _ _ (Nat.le_refl _)).push' (Nat.le_refl _) | exact ((Keeps.push _ _ (Nat.le_refl _)).push' (Nat.le_refl _)).push' (Nat.le_refl _)) | (first | exact Keeps.refl' | exact Keeps.push _ _ (Nat.le_refl _) | exact (Keeps.push _ _ (Nat.le_refl _)).push' (Nat.le_refl _) | exact ((Keeps.push _ _ (Nat.le_refl _)).push' (Nat.le_refl _)).push' (Nat.le_refl _)))
theorem second_c (n : Int) (hn : rngI n 65536) (h : Heap) : Fn Tryz.prog 149 [.int .u16 n] h fun x h' => x = (secondL n).v ∧ Keeps h.size h h' := by
  refine byT (c := bitsE n 13 3 0 = 0) (fun t => ?_) fun t => byT (c := bitsE n 13 3 0 = 1) (fun t => byT (c := 0 < rdE n) (fun t => ?_) fun t => ?_) fun t => byT (c := bitsE n 13 3 0 = 2) (fun t => ?_) fun t => byT (c := bitsE n 13 3 0 = 3) (fun t => ?_) fun t => byT (c := bitsE n 13 3 0 = 4) (fun t => ?_) fun t => byT (c := bitsE n 13 3 0 = 5) (fun t => ?_) fun t => byT (c := bitsE n 13 3 0 = 6) (fun t => ?_) fun t => ?_
  all_goals
    refine Fn_c Tryz.func149 mixed c149 (by kernel_rfl) ?_; rw [r149]
    refine ga0 ?_; (try with_reducible exact trivial)
    repeat ((first | refine FnK.val (rd_c n _) ?_ | refine FnK.val (bits_c n _ _ _ (by omega) (by omega) (by omega) _) ?_ | refine FnK.val (short_c n _) ?_ | refine FnK.val (hjump_c n _) ?_ | refine FnK.val (branch_c n _) ?_ | refine FnK.val (reg_c n _ (by omega) _) ?_); refine ga0 ?_; (try with_reducible exact trivial))
    first
    | done
    | ((with_reducible first | refine FnK.use (lui_c n _) ?_ | refine FnK.use (reckon_c n hn _) ?_)
       intro x1 h1 ⟨e1, K1⟩
       have b0 : h1[h.size]? = some (.cells #[.int .i64 0, .int .i64 0, .int .i64 0, .int .i64 0, .int .i64 0, .int .i64 0, .int .i64 0] 47 (0, 0)) := by (rw [K1.old _ (by simp)]; exact h_pushE _ _ _ rfl)
       have l0 := getElem?_lt b0
       rw [e1]
       clear e1
       refine ga1 InstR.v.eq_1 ?_; (try with_reducible exact trivial)
       try unfold secondL
       try simp only [InstR.v, if_true, if_false, true_and, *]
       first | exact ((Keeps.push _ _ (Nat.le_refl _)).of_ext K1 (Nat.le_refl _)).set' (Nat.le_refl _) | exact ⟨rfl, ((Keeps.push _ _ (Nat.le_refl _)).of_ext K1 (Nat.le_refl _)).set' (Nat.le_refl _)⟩)
    | (try unfold secondL
       try simp only [InstR.v, if_true, if_false, true_and, *]
       first | done | rfl | (refine ⟨rfl, ?_⟩; first | exact Keeps.refl' | exact Keeps.push _ _ (Nat.le_refl _) | exact (Keeps.push _ _ (Nat.le_refl _)).push' (Nat.le_refl _) | exact ((Keeps.push _ _ (Nat.le_refl _)).push' (Nat.le_refl _)).push' (Nat.le_refl _)) | (first | exact Keeps.refl' | exact Keeps.push _ _ (Nat.le_refl _) | exact (Keeps.push _ _ (Nat.le_refl _)).push' (Nat.le_refl _) | exact ((Keeps.push _ _ (Nat.le_refl _)).push' (Nat.le_refl _)).push' (Nat.le_refl _)))
theorem moves_c (n : Int)  (h : Heap) : Fn Tryz.prog 195 [.int .u16 n] h fun x h' => x = (movesL n).v ∧ Keeps h.size h h' := by
  refine byT (c := 0 < rs2E n) (fun t => ?_) fun t => byT (c := 0 < rdE n) (fun t => ?_) fun t => byT (c := 0 < bitsE n 12 1 0) (fun t => ?_) fun t => ?_
  all_goals
    refine Fn_c Tryz.func195 mixed c195 (by kernel_rfl) ?_; rw [r195]
    refine ga0 ?_; (try with_reducible exact trivial)
    repeat ((first | refine FnK.val (rd_c n _) ?_ | refine FnK.val (rs2_c n _) ?_ | refine FnK.val (bits_c n _ _ _ (by omega) (by omega) (by omega) _) ?_); refine ga0 ?_; (try with_reducible exact trivial))
    first
    | done
    | (try unfold movesL
       try simp only [InstR.v, if_true, if_false, true_and, *]
       first | done | rfl | (refine ⟨rfl, ?_⟩; first | exact Keeps.refl' | exact Keeps.push _ _ (Nat.le_refl _) | exact (Keeps.push _ _ (Nat.le_refl _)).push' (Nat.le_refl _) | exact ((Keeps.push _ _ (Nat.le_refl _)).push' (Nat.le_refl _)).push' (Nat.le_refl _)) | (first | exact Keeps.refl' | exact Keeps.push _ _ (Nat.le_refl _) | exact (Keeps.push _ _ (Nat.le_refl _)).push' (Nat.le_refl _) | exact ((Keeps.push _ _ (Nat.le_refl _)).push' (Nat.le_refl _)).push' (Nat.le_refl _)))
theorem third_c (n : Int)  (h : Heap) : Fn Tryz.prog 150 [.int .u16 n] h fun x h' => x = (thirdL n).v ∧ Keeps h.size h h' := by
  refine byT (c := bitsE n 13 3 0 = 0) (fun t => ?_) fun t => byT (c := bitsE n 13 3 0 = 2) (fun t => byT (c := 0 < rdE n) (fun t => ?_) fun t => ?_) fun t => byT (c := bitsE n 13 3 0 = 3) (fun t => byT (c := 0 < rdE n) (fun t => ?_) fun t => ?_) fun t => byT (c := bitsE n 13 3 0 = 4) (fun t => ?_) fun t => byT (c := bitsE n 13 3 0 = 6) (fun t => ?_) fun t => byT (c := bitsE n 13 3 0 = 7) (fun t => ?_) fun t => ?_
  all_goals
    refine Fn_c Tryz.func150 mixed c150 (by kernel_rfl) ?_; rw [r150]
    refine ga0 ?_; (try with_reducible exact trivial)
    repeat ((first | refine FnK.val (rd_c n _) ?_ | refine FnK.val (rs2_c n _) ?_ | refine FnK.val (six_c n _) ?_ | refine FnK.val (bits_c n _ _ _ (by omega) (by omega) (by omega) _) ?_); refine ga0 ?_; (try with_reducible exact trivial))
    first
    | done
    | ((refine FnK.use (moves_c n _) ?_)
       intro x1 h1 ⟨e1, K1⟩
       have b0 : h1[h.size]? = some (.cells #[.int .i64 0, .int .i64 0, .int .i64 0, .int .i64 0, .int .i64 0, .int .i64 0, .int .i64 0] 47 (0, 0)) := by (rw [K1.old _ (by simp)]; exact h_pushE _ _ _ rfl)
       have l0 := getElem?_lt b0
       rw [e1]
       clear e1
       refine ga1 InstR.v.eq_1 ?_; (try with_reducible exact trivial)
       try unfold thirdL
       try simp only [InstR.v, if_true, if_false, true_and, *]
       first | exact ((Keeps.push _ _ (Nat.le_refl _)).of_ext K1 (Nat.le_refl _)).set' (Nat.le_refl _) | exact ⟨rfl, ((Keeps.push _ _ (Nat.le_refl _)).of_ext K1 (Nat.le_refl _)).set' (Nat.le_refl _)⟩)
    | (try unfold thirdL
       try simp only [InstR.v, if_true, if_false, true_and, *]
       first | done | rfl | (refine ⟨rfl, ?_⟩; first | exact Keeps.refl' | exact Keeps.push _ _ (Nat.le_refl _) | exact (Keeps.push _ _ (Nat.le_refl _)).push' (Nat.le_refl _) | exact ((Keeps.push _ _ (Nat.le_refl _)).push' (Nat.le_refl _)).push' (Nat.le_refl _)) | (first | exact Keeps.refl' | exact Keeps.push _ _ (Nat.le_refl _) | exact (Keeps.push _ _ (Nat.le_refl _)).push' (Nat.le_refl _) | exact ((Keeps.push _ _ (Nat.le_refl _)).push' (Nat.le_refl _)).push' (Nat.le_refl _)))
end Go.SX.G
