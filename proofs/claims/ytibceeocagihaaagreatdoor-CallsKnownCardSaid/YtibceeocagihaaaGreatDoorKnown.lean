/- CallsKnown, the walk. No condition. -/
import Derived.Test.YtibceeocagihaaaGreatDoorGen
import Derived.Test.YtibceeocagihaaaGreatDoorSxHeap
set_option linter.unusedVariables false
set_option linter.unusedSimpArgs false
namespace Go.SX.G
open Go Go.SX Go.Proofs
set_option maxRecDepth 100000
set_option maxHeartbeats 4000000
def encW (x : Nat) : List Value := [.int .u64 (x : Int)]
theorem encW_len (x : Nat) : (encW x).length = 1 := rfl
def knownL : List Nat := [17, 23, 24, 25, 29, 34, 35, 36, 37, 38, 276, 45, 46, 48, 49, 50, 52, 53, 56, 57, 59, 61, 62, 63, 64, 65, 66, 67, 68, 78, 79, 80, 93, 94, 96, 178, 172, 173, 174, 175, 176, 177, 101, 102, 103, 113, 169, 124, 129, 130, 131, 132, 133, 134, 135, 136, 139, 160, 163, 261, 166, 214, 215, 226, 222, 278]
theorem knownL_lt : ∀ x ∈ knownL, x < 18446744073709551616 := by decide
theorem not_known {n : Nat} (h : n ∉ knownL) : (((n : Int) = 17) = False) ∧ (((n : Int) = 23) = False) ∧ (((n : Int) = 24) = False) ∧ (((n : Int) = 25) = False) ∧ (((n : Int) = 29) = False) ∧ (((n : Int) = 34) = False) ∧ (((n : Int) = 35) = False) ∧ (((n : Int) = 36) = False) ∧ (((n : Int) = 37) = False) ∧ (((n : Int) = 38) = False) ∧ (((n : Int) = 276) = False) ∧ (((n : Int) = 45) = False) ∧ (((n : Int) = 46) = False) ∧ (((n : Int) = 48) = False) ∧ (((n : Int) = 49) = False) ∧ (((n : Int) = 50) = False) ∧ (((n : Int) = 52) = False) ∧ (((n : Int) = 53) = False) ∧ (((n : Int) = 56) = False) ∧ (((n : Int) = 57) = False) ∧ (((n : Int) = 59) = False) ∧ (((n : Int) = 61) = False) ∧ (((n : Int) = 62) = False) ∧ (((n : Int) = 63) = False) ∧ (((n : Int) = 64) = False) ∧ (((n : Int) = 65) = False) ∧ (((n : Int) = 66) = False) ∧ (((n : Int) = 67) = False) ∧ (((n : Int) = 68) = False) ∧ (((n : Int) = 78) = False) ∧ (((n : Int) = 79) = False) ∧ (((n : Int) = 80) = False) ∧ (((n : Int) = 93) = False) ∧ (((n : Int) = 94) = False) ∧ (((n : Int) = 96) = False) ∧ (((n : Int) = 178) = False) ∧ (((n : Int) = 172) = False) ∧ (((n : Int) = 173) = False) ∧ (((n : Int) = 174) = False) ∧ (((n : Int) = 175) = False) ∧ (((n : Int) = 176) = False) ∧ (((n : Int) = 177) = False) ∧ (((n : Int) = 101) = False) ∧ (((n : Int) = 102) = False) ∧ (((n : Int) = 103) = False) ∧ (((n : Int) = 113) = False) ∧ (((n : Int) = 169) = False) ∧ (((n : Int) = 124) = False) ∧ (((n : Int) = 129) = False) ∧ (((n : Int) = 130) = False) ∧ (((n : Int) = 131) = False) ∧ (((n : Int) = 132) = False) ∧ (((n : Int) = 133) = False) ∧ (((n : Int) = 134) = False) ∧ (((n : Int) = 135) = False) ∧ (((n : Int) = 136) = False) ∧ (((n : Int) = 139) = False) ∧ (((n : Int) = 160) = False) ∧ (((n : Int) = 163) = False) ∧ (((n : Int) = 261) = False) ∧ (((n : Int) = 166) = False) ∧ (((n : Int) = 214) = False) ∧ (((n : Int) = 215) = False) ∧ (((n : Int) = 226) = False) ∧ (((n : Int) = 222) = False) ∧ (((n : Int) = 278) = False) := by
  have k : ∀ m ∈ knownL, ((n : Int) = m) = False := fun m hm => eq_false fun e => h (by
    have e2 : n = m := by omega
    exact e2 ▸ hm)
  exact ⟨k 17 (by decide), k 23 (by decide), k 24 (by decide), k 25 (by decide), k 29 (by decide), k 34 (by decide), k 35 (by decide), k 36 (by decide), k 37 (by decide), k 38 (by decide), k 276 (by decide), k 45 (by decide), k 46 (by decide), k 48 (by decide), k 49 (by decide), k 50 (by decide), k 52 (by decide), k 53 (by decide), k 56 (by decide), k 57 (by decide), k 59 (by decide), k 61 (by decide), k 62 (by decide), k 63 (by decide), k 64 (by decide), k 65 (by decide), k 66 (by decide), k 67 (by decide), k 68 (by decide), k 78 (by decide), k 79 (by decide), k 80 (by decide), k 93 (by decide), k 94 (by decide), k 96 (by decide), k 178 (by decide), k 172 (by decide), k 173 (by decide), k 174 (by decide), k 175 (by decide), k 176 (by decide), k 177 (by decide), k 101 (by decide), k 102 (by decide), k 103 (by decide), k 113 (by decide), k 169 (by decide), k 124 (by decide), k 129 (by decide), k 130 (by decide), k 131 (by decide), k 132 (by decide), k 133 (by decide), k 134 (by decide), k 135 (by decide), k 136 (by decide), k 139 (by decide), k 160 (by decide), k 163 (by decide), k 261 (by decide), k 166 (by decide), k 214 (by decide), k 215 (by decide), k 226 (by decide), k 222 (by decide), k 278 (by decide)⟩
theorem bs_known (fr : Fr) (h : Heap) (K : Value → Heap → Prop) : eop Tryz.prog fr h (.buildSlice 86 66 #[(0, .const (.int .u64 17)), (1, .const (.int .u64 23)), (2, .const (.int .u64 24)), (3, .const (.int .u64 25)), (4, .const (.int .u64 29)), (5, .const (.int .u64 34)), (6, .const (.int .u64 35)), (7, .const (.int .u64 36)), (8, .const (.int .u64 37)), (9, .const (.int .u64 38)), (10, .const (.int .u64 276)), (11, .const (.int .u64 45)), (12, .const (.int .u64 46)), (13, .const (.int .u64 48)), (14, .const (.int .u64 49)), (15, .const (.int .u64 50)), (16, .const (.int .u64 52)), (17, .const (.int .u64 53)), (18, .const (.int .u64 56)), (19, .const (.int .u64 57)), (20, .const (.int .u64 59)), (21, .const (.int .u64 61)), (22, .const (.int .u64 62)), (23, .const (.int .u64 63)), (24, .const (.int .u64 64)), (25, .const (.int .u64 65)), (26, .const (.int .u64 66)), (27, .const (.int .u64 67)), (28, .const (.int .u64 68)), (29, .const (.int .u64 78)), (30, .const (.int .u64 79)), (31, .const (.int .u64 80)), (32, .const (.int .u64 93)), (33, .const (.int .u64 94)), (34, .const (.int .u64 96)), (35, .const (.int .u64 178)), (36, .const (.int .u64 172)), (37, .const (.int .u64 173)), (38, .const (.int .u64 174)), (39, .const (.int .u64 175)), (40, .const (.int .u64 176)), (41, .const (.int .u64 177)), (42, .const (.int .u64 101)), (43, .const (.int .u64 102)), (44, .const (.int .u64 103)), (45, .const (.int .u64 113)), (46, .const (.int .u64 169)), (47, .const (.int .u64 124)), (48, .const (.int .u64 129)), (49, .const (.int .u64 130)), (50, .const (.int .u64 131)), (51, .const (.int .u64 132)), (52, .const (.int .u64 133)), (53, .const (.int .u64 134)), (54, .const (.int .u64 135)), (55, .const (.int .u64 136)), (56, .const (.int .u64 139)), (57, .const (.int .u64 160)), (58, .const (.int .u64 163)), (59, .const (.int .u64 261)), (60, .const (.int .u64 166)), (61, .const (.int .u64 214)), (62, .const (.int .u64 215)), (63, .const (.int .u64 226)), (64, .const (.int .u64 222)), (65, .const (.int .u64 278))]) K =
    K (.slice (some ⟨h.size, 0, none⟩) 66 66) (h.push (.cells (flat encW knownL).toArray 22 (0, 0))) := by
  have e1 : eop Tryz.prog fr h (.buildSlice 86 66 #[(0, .const (.int .u64 17)), (1, .const (.int .u64 23)), (2, .const (.int .u64 24)), (3, .const (.int .u64 25)), (4, .const (.int .u64 29)), (5, .const (.int .u64 34)), (6, .const (.int .u64 35)), (7, .const (.int .u64 36)), (8, .const (.int .u64 37)), (9, .const (.int .u64 38)), (10, .const (.int .u64 276)), (11, .const (.int .u64 45)), (12, .const (.int .u64 46)), (13, .const (.int .u64 48)), (14, .const (.int .u64 49)), (15, .const (.int .u64 50)), (16, .const (.int .u64 52)), (17, .const (.int .u64 53)), (18, .const (.int .u64 56)), (19, .const (.int .u64 57)), (20, .const (.int .u64 59)), (21, .const (.int .u64 61)), (22, .const (.int .u64 62)), (23, .const (.int .u64 63)), (24, .const (.int .u64 64)), (25, .const (.int .u64 65)), (26, .const (.int .u64 66)), (27, .const (.int .u64 67)), (28, .const (.int .u64 68)), (29, .const (.int .u64 78)), (30, .const (.int .u64 79)), (31, .const (.int .u64 80)), (32, .const (.int .u64 93)), (33, .const (.int .u64 94)), (34, .const (.int .u64 96)), (35, .const (.int .u64 178)), (36, .const (.int .u64 172)), (37, .const (.int .u64 173)), (38, .const (.int .u64 174)), (39, .const (.int .u64 175)), (40, .const (.int .u64 176)), (41, .const (.int .u64 177)), (42, .const (.int .u64 101)), (43, .const (.int .u64 102)), (44, .const (.int .u64 103)), (45, .const (.int .u64 113)), (46, .const (.int .u64 169)), (47, .const (.int .u64 124)), (48, .const (.int .u64 129)), (49, .const (.int .u64 130)), (50, .const (.int .u64 131)), (51, .const (.int .u64 132)), (52, .const (.int .u64 133)), (53, .const (.int .u64 134)), (54, .const (.int .u64 135)), (55, .const (.int .u64 136)), (56, .const (.int .u64 139)), (57, .const (.int .u64 160)), (58, .const (.int .u64 163)), (59, .const (.int .u64 261)), (60, .const (.int .u64 166)), (61, .const (.int .u64 214)), (62, .const (.int .u64 215)), (63, .const (.int .u64 226)), (64, .const (.int .u64 222)), (65, .const (.int .u64 278))]) K = obind (slE Tryz.prog 86) fun es => 66 * es.2 ≤ 16777216 ∧ obind (zeroP Tryz.prog es.1) fun z =>
      obind (fillL (if 66 * es.2 = 0 then [] else mkCells z (66 * es.2)) ((knownL.zipIdx.map fun p => (p.2, Value.int .u64 (p.1 : Int))).map fun p => (p.1 * es.2, es.2, p.2))) fun cs => K (.slice (some ⟨h.size, 0, none⟩) 66 66) (h.push (.cells cs.toArray es.1 (0, 0))) := rfl
  have e2 : fillL (if 66 * 1 = 0 then [] else mkCells (Value.int .u64 0) (66 * 1)) ((knownL.zipIdx.map fun p => (p.2, Value.int .u64 (p.1 : Int))).map fun p => (p.1 * 1, 1, p.2)) = some (flat encW knownL) := by kernel_rfl
  rw [e1, sl86]
  show (66 * 1 ≤ 16777216 ∧ obind (zeroP Tryz.prog 22) _) = _
  rw [ze22]
  show (66 * 1 ≤ 16777216 ∧ obind (fillL (if 66 * 1 = 0 then [] else mkCells (Value.int .u64 0) (66 * 1)) ((knownL.zipIdx.map fun p => (p.2, Value.int .u64 (p.1 : Int))).map fun p => (p.1 * 1, 1, p.2))) _) = _
  rw [e2]
  exact propext ⟨fun q => q.2, fun q => ⟨by decide, q⟩⟩
theorem known_c (h : Heap) (n : Nat) (hn : n < 18446744073709551616) : Fn Tryz.prog 21 [.int .u64 n] h fun x h' => x = .bool (decide (n ∈ knownL)) ∧ Keeps h.size h h' := by
  have hb := fun fr K => bs_known fr h K
  obtain ⟨B, hB⟩ : ∃ B : Obj, B = .cells (flat encW knownL).toArray 22 (0, 0) := ⟨_, rfl⟩
  rw [← hB] at hb
  have hlen : knownL.length = 66 := by decide
  have V : Vs (h.push B) (.slice (some ⟨h.size, 0, none⟩) 66 66) encW 1 knownL :=
    (Ss.mk (lo := 0) (e := 22) encW_len (xs := knownL) [] (by rw [h_pushE _ _ _ rfl, hB]) (by simp) hlen.symm (Nat.le_refl _) (by simp [flat_len encW_len, hlen]) (Nat.zero_le _)).vs
  refine Fn_c Tryz.func21 mixed c21 (by kernel_rfl) ?_; rw [r21]
  simp -implicitDefEqProofs (disch := first | omega | (simp only [h_szP, h_szS]; done) | (simp only [h_szP, h_szS]; omega)) only [go_sem, Nat.reduceBEq, reduceCtorEq, Nat.reduceAdd, Int.reduceEq, Int.reduceLT, Int.reduceLE, Int.reduceMul, Int.reduceAdd, Int.reduceSub, reduceIte, Nat.reduceLeDiff, Nat.reduceLT, Nat.reduceMul, Nat.reduceSub, Int.reduceToNat, s21, sl86, ze22, by22, sz22, Tryz.underlying86, Tryz.underlying3, sh22, Tryz.underlying22, ↓hb]
  obtain ⟨I, hI⟩ : ∃ I : Nat → Fr → Heap → Prop, I = fun k fr hh => ∃ i : Nat, i + k = 66 ∧ hh = h.push B ∧ (∀ j (hj : j < i) (hj2 : j < knownL.length), knownL[j] ≠ n) ∧
      fr = (((fr0.up 4 (.int .i64 i)).up 3 (.slice (some ⟨h.size, 0, none⟩) 66 66)).up 0 (.int .u64 n)) := ⟨_, rfl⟩
  refine LoopK.use I 66 (by rw [hI]; exact ⟨0, rfl, rfl, fun j hj => by omega, rfl⟩) ?_
  intro k fr hh hK
  rw [hI] at hK
  obtain ⟨i, hk, e0, hno, hf⟩ := hK
  subst hf
  subst e0
  have K0 : Keeps h.size h (h.push B) := Keeps.push _ _ (Nat.le_refl _)
  by_cases hi : i < 66
  · have hd : decide ((i : Int) < 66) = true := decide_eq_true (by omega)
    have hE : cellO (0 + i * 1) (some B) = some (.int .u64 (knownL[i]'(by omega) : Nat)) := by
      have := V.field encW_len (i := i) (j := 0) (by omega) (by omega)
      rw [h_pushE _ _ _ rfl] at this
      simpa [encW] using this
    have hxl := knownL_lt _ (List.getElem_mem (show i < knownL.length by omega))
    rw [Nat.zero_add, Nat.mul_one] at hE
    by_cases q : knownL[i]'(by omega) = n
    · have hm : n ∈ knownL := q ▸ List.getElem_mem _
      rw [decide_eq_true hm]
      have hd2 : (((knownL[i]'(by omega) : Nat) : Int) = n) = True := eq_true (by omega)
      simp -implicitDefEqProofs (disch := first | omega | (simp only [h_szP, h_szS]; done) | (simp only [h_szP, h_szS]; omega)) only [go_sem, Nat.reduceBEq, reduceCtorEq, Nat.reduceAdd, Int.reduceEq, Int.reduceLT, Int.reduceLE, Int.reduceMul, Int.reduceAdd, Int.reduceSub, reduceIte, Nat.reduceLeDiff, Nat.reduceLT, Nat.reduceMul, Nat.reduceSub, Int.reduceToNat, s21, sl86, ze22, by22, sz22, Tryz.underlying86, Tryz.underlying3, sh22, Tryz.underlying22, hd, hE, hd2, Nat.mul_one, Nat.zero_add]
      exact K0
    · have hd2 : (((knownL[i]'(by omega) : Nat) : Int) = n) = False := eq_false (by omega)
      simp -implicitDefEqProofs (disch := first | omega | (simp only [h_szP, h_szS]; done) | (simp only [h_szP, h_szS]; omega)) only [go_sem, Nat.reduceBEq, reduceCtorEq, Nat.reduceAdd, Int.reduceEq, Int.reduceLT, Int.reduceLE, Int.reduceMul, Int.reduceAdd, Int.reduceSub, reduceIte, Nat.reduceLeDiff, Nat.reduceLT, Nat.reduceMul, Nat.reduceSub, Int.reduceToNat, s21, sl86, ze22, by22, sz22, Tryz.underlying86, Tryz.underlying3, sh22, Tryz.underlying22, hd, hE, hd2, Nat.mul_one, Nat.zero_add]
      refine ⟨k - 1, by omega, ?_⟩
      rw [hI]
      refine ⟨i + 1, by omega, rfl, fun j hj hj2 => ?_, rfl⟩
      by_cases e : j = i
      · subst e; exact q
      · exact hno j (by omega) hj2
  · have hd : decide ((i : Int) < 66) = false := decide_eq_false (by omega)
    have hm : n ∉ knownL := fun hm => by
      obtain ⟨j, hj, e⟩ := List.getElem_of_mem hm
      exact hno j (by omega) hj e
    rw [decide_eq_false hm]
    simp -implicitDefEqProofs (disch := first | omega | (simp only [h_szP, h_szS]; done) | (simp only [h_szP, h_szS]; omega)) only [go_sem, Nat.reduceBEq, reduceCtorEq, Nat.reduceAdd, Int.reduceEq, Int.reduceLT, Int.reduceLE, Int.reduceMul, Int.reduceAdd, Int.reduceSub, reduceIte, Nat.reduceLeDiff, Nat.reduceLT, Nat.reduceMul, Nat.reduceSub, Int.reduceToNat, s21, sl86, ze22, by22, sz22, Tryz.underlying86, Tryz.underlying3, sh22, Tryz.underlying22, hd]
    exact K0
theorem kn_c (h : Heap) (n : Nat) (hn : n < 18446744073709551616) : Fn Tryz.prog 20 [.int .u64 n] h fun x h' => x = .bool (decide (n ∈ knownL)) ∧ h' = h := by
  by_cases hm : n ∈ knownL
  · rw [decide_eq_true hm]
    clear hn
    revert n
    simp only [knownL, List.forall_mem_cons, List.not_mem_nil, false_implies, implies_true, and_true]
    refine ⟨?_, ?_, ?_, ?_, ?_, ?_, ?_, ?_, ?_, ?_, ?_, ?_, ?_, ?_, ?_, ?_, ?_, ?_, ?_, ?_, ?_, ?_, ?_, ?_, ?_, ?_, ?_, ?_, ?_, ?_, ?_, ?_, ?_, ?_, ?_, ?_, ?_, ?_, ?_, ?_, ?_, ?_, ?_, ?_, ?_, ?_, ?_, ?_, ?_, ?_, ?_, ?_, ?_, ?_, ?_, ?_, ?_, ?_, ?_, ?_, ?_, ?_, ?_, ?_, ?_, ?_⟩
    all_goals
      refine Fn_c Tryz.func20 mixed c20 (by kernel_rfl) ?_; rw [r20]
      simp -implicitDefEqProofs (maxSteps := 4000000) (disch := first | omega | (simp only [h_szP, h_szS]; done) | (simp only [h_szP, h_szS]; omega)) only [go_sem, Nat.reduceBEq, reduceCtorEq, Nat.reduceAdd, Int.reduceEq, Int.reduceLT, Int.reduceLE, Int.reduceMul, Int.reduceAdd, Int.reduceSub, reduceIte, Nat.reduceLeDiff, Nat.reduceLT, Nat.reduceMul, Nat.reduceSub, Int.reduceToNat, s20, Tryz.underlying22]
  · rw [decide_eq_false hm]
    have k := not_known hm
    refine Fn_c Tryz.func20 mixed c20 (by kernel_rfl) ?_; rw [r20]
    simp -implicitDefEqProofs (maxSteps := 4000000) (disch := first | omega | (simp only [h_szP, h_szS]; done) | (simp only [h_szP, h_szS]; omega)) only [go_sem, Nat.reduceBEq, reduceCtorEq, Nat.reduceAdd, Int.reduceEq, Int.reduceLT, Int.reduceLE, Int.reduceMul, Int.reduceAdd, Int.reduceSub, reduceIte, Nat.reduceLeDiff, Nat.reduceLT, Nat.reduceMul, Nat.reduceSub, Int.reduceToNat, s20, Tryz.underlying22, k]
    intro h1
    congr 1
    refine decide_eq_false fun h2 => ?_
    have h3 : n = 174 ∨ n = 175 ∨ n = 176 ∨ n = 177 := by omega
    rcases h3 with q | q | q | q <;> subst q <;> exact hm (by decide)
theorem donil_c (h : Heap) : Fn Tryz.prog 18 [.pointer none] h fun x h' => h' = h := by
  refine Fn_c Tryz.func18 mixed c18 (by kernel_rfl) ?_; rw [r18]
  simp -implicitDefEqProofs (disch := first | omega | (simp only [h_szP, h_szS]; done) | (simp only [h_szP, h_szS]; omega)) only [go_sem, Nat.reduceBEq, reduceCtorEq, Nat.reduceAdd, Int.reduceEq, Int.reduceLT, Int.reduceLE, Int.reduceMul, Int.reduceAdd, Int.reduceSub, reduceIte, Nat.reduceLeDiff, Nat.reduceLT, Nat.reduceMul, Nat.reduceSub, Int.reduceToNat, s18, Tryz.underlying23, fo57_1, sh51, zc83, sz83, fo83_1, Tryz.underlying79, ar79, sh32, zc89, sd89, pl89_0, pl89_1, sh22, fo83_0, Tryz.underlying22, sz22, sh83, Tryz.underlying59, Tryz.underlying3, fo89_1, zc34, sd34, pl34_0, pl34_1, pl34_2, fo89_2, sh87, Tryz.underlying87, fo89_0, sh23, fo94_0, sh3, fo94_1, sh27]
theorem answers25_c (h : Heap) : Fn Tryz.prog 19 [] h fun x h' => x = .bool true ∧ h' = h := by
  have k1 := kn_c h 93 (by omega)
  have k2 := kn_c h 1 (by omega)
  rw [decide_eq_true (show 93 ∈ knownL by decide)] at k1
  rw [decide_eq_false (show 1 ∉ knownL by decide)] at k2
  refine Fn_c Tryz.func19 mixed c19 (by kernel_rfl) ?_; rw [r19]
  simp -implicitDefEqProofs (disch := first | omega | (simp only [h_szP, h_szS]; done) | (simp only [h_szP, h_szS]; omega)) only [go_sem, Nat.reduceBEq, reduceCtorEq, Nat.reduceAdd, Int.reduceEq, Int.reduceLT, Int.reduceLE, Int.reduceMul, Int.reduceAdd, Int.reduceSub, reduceIte, Nat.reduceLeDiff, Nat.reduceLT, Nat.reduceMul, Nat.reduceSub, Int.reduceToNat, s19]
  refine FnK.val k1 ?_
  simp -implicitDefEqProofs (disch := first | omega | (simp only [h_szP, h_szS]; done) | (simp only [h_szP, h_szS]; omega)) only [go_sem, Nat.reduceBEq, reduceCtorEq, Nat.reduceAdd, Int.reduceEq, Int.reduceLT, Int.reduceLE, Int.reduceMul, Int.reduceAdd, Int.reduceSub, reduceIte, Nat.reduceLeDiff, Nat.reduceLT, Nat.reduceMul, Nat.reduceSub, Int.reduceToNat, s19]
  refine FnK.val k2 ?_
  simp -implicitDefEqProofs (disch := first | omega | (simp only [h_szP, h_szS]; done) | (simp only [h_szP, h_szS]; omega)) only [go_sem, Nat.reduceBEq, reduceCtorEq, Nat.reduceAdd, Int.reduceEq, Int.reduceLT, Int.reduceLE, Int.reduceMul, Int.reduceAdd, Int.reduceSub, reduceIte, Nat.reduceLeDiff, Nat.reduceLT, Nat.reduceMul, Nat.reduceSub, Int.reduceToNat, s19]
theorem callsknown_c {h : Heap} (n : Nat) (hn : n < 18446744073709551616) : Fn Tryz.prog 4 [.int .u64 n] h fun r h' => r = .bool true ∧ ∀ b, b < h.size → h'[b]? = h[b]? := by
  refine Fn_c Tryz.func4 mixed c4 (by kernel_rfl) ?_; rw [r4]
  simp -implicitDefEqProofs (disch := first | omega | (simp only [h_szP, h_szS]; done) | (simp only [h_szP, h_szS]; omega)) only [go_sem, Nat.reduceBEq, reduceCtorEq, Nat.reduceAdd, Int.reduceEq, Int.reduceLT, Int.reduceLE, Int.reduceMul, Int.reduceAdd, Int.reduceSub, reduceIte, Nat.reduceLeDiff, Nat.reduceLT, Nat.reduceMul, Nat.reduceSub, Int.reduceToNat, s4, Tryz.underlying4]
  refine FnK.use (donil_c h) ?_
  intro x h1 e1
  have e2 := e1.symm
  subst e2
  simp -implicitDefEqProofs (disch := first | omega | (simp only [h_szP, h_szS]; done) | (simp only [h_szP, h_szS]; omega)) only [go_sem, Nat.reduceBEq, reduceCtorEq, Nat.reduceAdd, Int.reduceEq, Int.reduceLT, Int.reduceLE, Int.reduceMul, Int.reduceAdd, Int.reduceSub, reduceIte, Nat.reduceLeDiff, Nat.reduceLT, Nat.reduceMul, Nat.reduceSub, Int.reduceToNat, s4, Tryz.underlying4]
  refine FnK.val (answers25_c _) ?_
  simp -implicitDefEqProofs (disch := first | omega | (simp only [h_szP, h_szS]; done) | (simp only [h_szP, h_szS]; omega)) only [go_sem, Nat.reduceBEq, reduceCtorEq, Nat.reduceAdd, Int.reduceEq, Int.reduceLT, Int.reduceLE, Int.reduceMul, Int.reduceAdd, Int.reduceSub, reduceIte, Nat.reduceLeDiff, Nat.reduceLT, Nat.reduceMul, Nat.reduceSub, Int.reduceToNat, s4, Tryz.underlying4]
  refine FnK.val (kn_c _ n hn) ?_
  simp -implicitDefEqProofs (disch := first | omega | (simp only [h_szP, h_szS]; done) | (simp only [h_szP, h_szS]; omega)) only [go_sem, Nat.reduceBEq, reduceCtorEq, Nat.reduceAdd, Int.reduceEq, Int.reduceLT, Int.reduceLE, Int.reduceMul, Int.reduceAdd, Int.reduceSub, reduceIte, Nat.reduceLeDiff, Nat.reduceLT, Nat.reduceMul, Nat.reduceSub, Int.reduceToNat, s4, Tryz.underlying4]
  refine FnK.use (known_c _ n hn) ?_
  intro x h2 ⟨e2, K2⟩
  rw [e2]
  simp -implicitDefEqProofs (disch := first | omega | (simp only [h_szP, h_szS]; done) | (simp only [h_szP, h_szS]; omega)) only [go_sem, Nat.reduceBEq, reduceCtorEq, Nat.reduceAdd, Int.reduceEq, Int.reduceLT, Int.reduceLE, Int.reduceMul, Int.reduceAdd, Int.reduceSub, reduceIte, Nat.reduceLeDiff, Nat.reduceLT, Nat.reduceMul, Nat.reduceSub, Int.reduceToNat, s4, Tryz.underlying4]
  exact ⟨by simp, fun b hb => K2.old b hb⟩
end Go.SX.G
