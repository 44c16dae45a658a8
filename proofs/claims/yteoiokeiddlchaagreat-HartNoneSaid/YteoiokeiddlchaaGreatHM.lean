/- HartNone, the walk. No condition. -/
import Derived.Test.YteoiokeiddlchaaGreatHG
import Derived.Test.YteoiokeiddlchaaGreatHF
import Derived.Test.YteoiokeiddlchaaGreatHD
set_option linter.unusedVariables false
set_option linter.unusedSimpArgs false
namespace Go.SX.G
open Go Go.SX Go.Proofs
set_option maxRecDepth 100000
set_option maxHeartbeats 8000000
theorem eqEl_refl {P : Program} {E : Value → Value → Option Bool} {e : TypeId} {n : Nat} {xs : Array Value} : ∀ (k i : Nat), (∀ j, i ≤ j → j < i + k → ∃ v, partV P e xs (j * n) = some v ∧ E v v = some true) → eqEl P E e n xs xs k i = some true
  | 0, i, h => rfl
  | k + 1, i, h => by
    obtain ⟨v, h1, h2⟩ := h i (Nat.le_refl _) (by omega)
    have h3 := eqEl_refl (E := E) k (i + 1) fun j h4 h5 => h j (by omega) (by omega)
    simp only [eqEl, h1, Option.bind_some, h2, h3, Bool.and_self]
theorem eqFs_ok {P : Program} {E : TypeId → Value → Value → Option Bool} {xs : Array Value} {f : Field} {fs : List Field} {a : Value} (hn : f.name ≠ "_") (h1 : partV P f.type xs f.offset = some a) (h2 : E f.type a a = some true) (h3 : eqFs P E xs xs fs = some true) : eqFs P E xs xs (f :: fs) = some true := by
  simp only [eqFs, if_neg hn, h1, Option.bind_some, h2, h3, Bool.and_self]
theorem hset_n (h : Heap) (f : Nat → Value) (ok : okS f) : Fn Tryz.prog 4 [.pointer none, sv f] h fun x h' => x = .tuple #[] ∧ Keeps h.size h h' := by
  unfold sv
  refine Fn_c Tryz.func4 mixed c4 (by kernel_rfl) ?_; rw [r4]
  simp -implicitDefEqProofs (disch := first | omega | (simp only [h_szP, h_szS]; done) | (simp only [h_szP, h_szS]; omega)) only [go_sem, Nat.reduceBEq, reduceCtorEq, Nat.reduceAdd, Int.reduceEq, Int.reduceLT, Int.reduceLE, Int.reduceMul, Int.reduceAdd, Int.reduceSub, reduceIte, Nat.reduceLeDiff, Nat.reduceLT, Nat.reduceMul, Nat.reduceSub, Int.reduceToNat, s4, Tryz.underlying28, fo27_1, ar23, sz22, sh27, fo47_0, sz27]
  exact Keeps.push _ _ (Nat.le_refl _)
theorem hrun_n (h : Heap) (n : Int) : Fn Tryz.prog 5 [.pointer none, .int .i64 n] h fun x h' => x = .tuple #[.agg #[.int .i64 3, .int .i64 0, .int .u64 0], .int .i64 0] ∧ Keeps h.size h h' := by
  refine Fn_c Tryz.func5 mixed c5 (by kernel_rfl) ?_; rw [r5]
  simp -implicitDefEqProofs (disch := first | omega | (simp only [h_szP, h_szS]; done) | (simp only [h_szP, h_szS]; omega)) only [go_sem, Nat.reduceBEq, reduceCtorEq, Nat.reduceAdd, Int.reduceEq, Int.reduceLT, Int.reduceLE, Int.reduceMul, Int.reduceAdd, Int.reduceSub, reduceIte, Nat.reduceLeDiff, Nat.reduceLT, Nat.reduceMul, Nat.reduceSub, Int.reduceToNat, s5, zc33, Tryz.underlying28, sd33, pl33_0, sz33, Tryz.underlying3, fo33_0, sh3, sh33]
  first | exact Keeps.push _ _ (Nat.le_refl _) | skip
theorem hstep_n (h : Heap) : Fn Tryz.prog 9 [.pointer none] h fun x h' => x = .agg #[.int .i64 3, .int .i64 0, .int .u64 0] ∧ Keeps h.size h h' := by
  refine Fn_k Tryz.func9 mixed c9 (by kernel_rfl) ?_; rw [r9]
  simp -implicitDefEqProofs (disch := first | omega | (simp only [h_szP, h_szS]; done) | (simp only [h_szP, h_szS]; omega)) only [go_sem, Nat.reduceBEq, reduceCtorEq, Nat.reduceAdd, Int.reduceEq, Int.reduceLT, Int.reduceLE, Int.reduceMul, Int.reduceAdd, Int.reduceSub, reduceIte, Nat.reduceLeDiff, Nat.reduceLT, Nat.reduceMul, Nat.reduceSub, Int.reduceToNat, s9, zc33, Tryz.underlying28, sd33, pl33_0, sz33, fo47_0, sh27, zc27, sz27, fo47_2, sh45, fo47_1, sh42, fo27_0, sh22, zc63, sz63, fo33_0, sh3, Tryz.underlying3, sh63, zc25, sd25, fo27_2, sz25, sh33]
  exact Keeps.push _ _ (Nat.le_refl _)
theorem hspace_n (h : Heap) : Fn Tryz.prog 10 [.pointer none] h fun x h' => x = .pointer none ∧ h' = h := by
  refine Fn_c Tryz.func10 mixed c10 (by kernel_rfl) ?_; rw [r10]
  simp -implicitDefEqProofs (disch := first | omega | (simp only [h_szP, h_szS]; done) | (simp only [h_szP, h_szS]; omega)) only [go_sem, Nat.reduceBEq, reduceCtorEq, Nat.reduceAdd, Int.reduceEq, Int.reduceLT, Int.reduceLE, Int.reduceMul, Int.reduceAdd, Int.reduceSub, reduceIte, Nat.reduceLeDiff, Nat.reduceLT, Nat.reduceMul, Nat.reduceSub, Int.reduceToNat, s10, Tryz.underlying28, fo47_1, sh42]
theorem hstate_n (h : Heap) : Fn Tryz.prog 7 [.pointer none] h fun x h' => x = .agg (List.toArray (Value.int .u64 0 :: Value.int .u64 0 :: Value.int .u64 0 :: Value.int .u64 0 :: Value.int .u64 0 :: Value.int .u64 0 :: Value.int .u64 0 :: Value.int .u64 0 :: Value.int .u64 0 :: Value.int .u64 0 :: Value.int .u64 0 :: Value.int .u64 0 :: Value.int .u64 0 :: Value.int .u64 0 :: Value.int .u64 0 :: Value.int .u64 0 :: Value.int .u64 0 :: Value.int .u64 0 :: Value.int .u64 0 :: Value.int .u64 0 :: Value.int .u64 0 :: Value.int .u64 0 :: Value.int .u64 0 :: Value.int .u64 0 :: Value.int .u64 0 :: Value.int .u64 0 :: Value.int .u64 0 :: Value.int .u64 0 :: Value.int .u64 0 :: Value.int .u64 0 :: Value.int .u64 0 :: Value.int .u64 0 :: Value.int .u64 0 :: Value.int .u64 0 :: Value.int .i64 0 :: [])) ∧ Keeps h.size h h' := by
  refine Fn_c Tryz.func7 mixed c7 (by kernel_rfl) ?_; rw [r7]
  simp -implicitDefEqProofs (disch := first | omega | (simp only [h_szP, h_szS]; done) | (simp only [h_szP, h_szS]; omega)) only [go_sem, Nat.reduceBEq, reduceCtorEq, Nat.reduceAdd, Int.reduceEq, Int.reduceLT, Int.reduceLE, Int.reduceMul, Int.reduceAdd, Int.reduceSub, reduceIte, Nat.reduceLeDiff, Nat.reduceLT, Nat.reduceMul, Nat.reduceSub, Int.reduceToNat, s7, zc27, Tryz.underlying28, sd27, sz27, fo47_0, sh27]
  exact Keeps.push _ _ (Nat.le_refl _)
theorem eqZ (x y : Operand) : binV Tryz.prog .eql 27 x y (.agg (List.toArray (Value.int .u64 0 :: Value.int .u64 0 :: Value.int .u64 0 :: Value.int .u64 0 :: Value.int .u64 0 :: Value.int .u64 0 :: Value.int .u64 0 :: Value.int .u64 0 :: Value.int .u64 0 :: Value.int .u64 0 :: Value.int .u64 0 :: Value.int .u64 0 :: Value.int .u64 0 :: Value.int .u64 0 :: Value.int .u64 0 :: Value.int .u64 0 :: Value.int .u64 0 :: Value.int .u64 0 :: Value.int .u64 0 :: Value.int .u64 0 :: Value.int .u64 0 :: Value.int .u64 0 :: Value.int .u64 0 :: Value.int .u64 0 :: Value.int .u64 0 :: Value.int .u64 0 :: Value.int .u64 0 :: Value.int .u64 0 :: Value.int .u64 0 :: Value.int .u64 0 :: Value.int .u64 0 :: Value.int .u64 0 :: Value.int .u64 0 :: Value.int .u64 0 :: Value.int .i64 0 :: []))) (.agg (List.toArray (Value.int .u64 0 :: Value.int .u64 0 :: Value.int .u64 0 :: Value.int .u64 0 :: Value.int .u64 0 :: Value.int .u64 0 :: Value.int .u64 0 :: Value.int .u64 0 :: Value.int .u64 0 :: Value.int .u64 0 :: Value.int .u64 0 :: Value.int .u64 0 :: Value.int .u64 0 :: Value.int .u64 0 :: Value.int .u64 0 :: Value.int .u64 0 :: Value.int .u64 0 :: Value.int .u64 0 :: Value.int .u64 0 :: Value.int .u64 0 :: Value.int .u64 0 :: Value.int .u64 0 :: Value.int .u64 0 :: Value.int .u64 0 :: Value.int .u64 0 :: Value.int .u64 0 :: Value.int .u64 0 :: Value.int .u64 0 :: Value.int .u64 0 :: Value.int .u64 0 :: Value.int .u64 0 :: Value.int .u64 0 :: Value.int .u64 0 :: Value.int .u64 0 :: Value.int .i64 0 :: []))) = some (.bool true) := by
  have : (fun x y : Operand => binV Tryz.prog .eql 27 x y (.agg (List.toArray (Value.int .u64 0 :: Value.int .u64 0 :: Value.int .u64 0 :: Value.int .u64 0 :: Value.int .u64 0 :: Value.int .u64 0 :: Value.int .u64 0 :: Value.int .u64 0 :: Value.int .u64 0 :: Value.int .u64 0 :: Value.int .u64 0 :: Value.int .u64 0 :: Value.int .u64 0 :: Value.int .u64 0 :: Value.int .u64 0 :: Value.int .u64 0 :: Value.int .u64 0 :: Value.int .u64 0 :: Value.int .u64 0 :: Value.int .u64 0 :: Value.int .u64 0 :: Value.int .u64 0 :: Value.int .u64 0 :: Value.int .u64 0 :: Value.int .u64 0 :: Value.int .u64 0 :: Value.int .u64 0 :: Value.int .u64 0 :: Value.int .u64 0 :: Value.int .u64 0 :: Value.int .u64 0 :: Value.int .u64 0 :: Value.int .u64 0 :: Value.int .u64 0 :: Value.int .i64 0 :: []))) (.agg (List.toArray (Value.int .u64 0 :: Value.int .u64 0 :: Value.int .u64 0 :: Value.int .u64 0 :: Value.int .u64 0 :: Value.int .u64 0 :: Value.int .u64 0 :: Value.int .u64 0 :: Value.int .u64 0 :: Value.int .u64 0 :: Value.int .u64 0 :: Value.int .u64 0 :: Value.int .u64 0 :: Value.int .u64 0 :: Value.int .u64 0 :: Value.int .u64 0 :: Value.int .u64 0 :: Value.int .u64 0 :: Value.int .u64 0 :: Value.int .u64 0 :: Value.int .u64 0 :: Value.int .u64 0 :: Value.int .u64 0 :: Value.int .u64 0 :: Value.int .u64 0 :: Value.int .u64 0 :: Value.int .u64 0 :: Value.int .u64 0 :: Value.int .u64 0 :: Value.int .u64 0 :: Value.int .u64 0 :: Value.int .u64 0 :: Value.int .u64 0 :: Value.int .u64 0 :: Value.int .i64 0 :: [])))) = fun _ _ => some (.bool true) := by kernel_rfl
  exact congrFun (congrFun this x) y
theorem eqS (x y : Operand) {f : Nat → Value} (ok : okS f) : binV Tryz.prog .eql 27 x y (.agg (fnL 35 f).toArray) (.agg (fnL 35 f).toArray) = some (.bool true) := by
  have q : quietEq Tryz.prog 27 x y (.agg (fnL 35 f).toArray) (.agg (fnL 35 f).toArray) = true := by
    show (!Tryz.prog.eqGuardType Tryz.prog.depth 27) = true
    kernel_rfl
  have hb : binV Tryz.prog .eql 27 x y (.agg (fnL 35 f).toArray) (.agg (fnL 35 f).toArray) = (eqIn Tryz.prog 8 27 (.agg (fnL 35 f).toArray) (.agg (fnL 35 f).toArray)).map .bool := by
    show (if quietEq Tryz.prog 27 x y (.agg (fnL 35 f).toArray) (.agg (fnL 35 f).toArray) = true then _ else _) = _
    rw [if_pos q]
  have st : Tryz.prog.stoodInHeld 27 = false := by kernel_rfl
  have cellU : ∀ (cs : Array Value) (o : Nat) (v : Value), cs[o]? = some v → partV Tryz.prog 22 cs o = some v := fun cs o v hv => by
    unfold partV
    rw [sh22]
    exact hv
  have eqU : ∀ (d : Nat) (n : Int), eqIn Tryz.prog (d + 1) 22 (.int .u64 n) (.int .u64 n) = some true := fun d n => by
    simp [eqIn, Tryz.underlying22]
  rw [hb]
  unfold eqIn
  rw [Tryz.underlying27]
  simp only [st]
  have ext : ∀ o k j, j < k → o + k ≤ 35 → ((fnL 35 f).toArray.extract o (o + k))[j]? = some (f (o + j)) := fun o k j hj ho => by
    rw [Array.getElem?_extract, if_pos (by simp [fnL_len]; omega), List.getElem?_toArray, fnL_get _ _ _ (by omega)]
  have top : ∀ j, j < 35 → (fnL 35 f).toArray[j]? = some (f j) := fun j hj => by rw [List.getElem?_toArray, fnL_get _ _ _ hj]
  have key : eqFs Tryz.prog (eqIn Tryz.prog 7) (fnL 35 f).toArray (fnL 35 f).toArray
          [{ name := "PC", type := 22, offset := 0, embedded := false, tag := "", pkgPath := "", byteOffset := 0 },
            { name := "X", type := 23, offset := 1, embedded := false, tag := "", pkgPath := "", byteOffset := 8 },
            { name := "Hold", type := 25, offset := 33, embedded := false, tag := "", pkgPath := "",
              byteOffset := 264 }] = some true := by
    refine eqFs_ok (by decide) (cellU _ _ _ (top 0 (by omega))) ?_ (eqFs_ok (a := .agg ((fnL 35 f).toArray.extract 1 (1 + 32))) (by decide) ?_ ?_ (eqFs_ok (a := .agg ((fnL 35 f).toArray.extract 33 (33 + 2))) (by decide) ?_ ?_ rfl))
    · obtain ⟨n, e⟩ := ok.1 0 (by omega)
      rw [e]; exact eqU _ _
    · have s : shP Tryz.prog 23 = some (.agg 32) := by kernel_rfl
      unfold partV
      rw [s]
    · show eqIn Tryz.prog 7 23 _ _ = some true
      unfold eqIn
      rw [Tryz.underlying23]
      have z : szP Tryz.prog 22 = some 1 := by kernel_rfl
      simp only [z, Option.bind_some]
      refine eqEl_refl 32 0 fun j _ hj => ?_
      obtain ⟨n, e⟩ := ok.1 (1 + j) (by omega)
      refine ⟨f (1 + j), cellU _ _ _ (by rw [Nat.mul_one]; exact ext 1 32 j (by omega) (by omega)), ?_⟩
      rw [e]; exact eqU _ _
    · have s : shP Tryz.prog 25 = some (.agg 2) := by kernel_rfl
      unfold partV
      rw [s]
    · show eqIn Tryz.prog 7 25 _ _ = some true
      have st2 : Tryz.prog.stoodInHeld 25 = false := by kernel_rfl
      have un : Tryz.prog.underlying 25 = some (.struct (Tryz.prog.fieldsOf 25)) := by kernel_rfl
      have fl : (Tryz.prog.fieldsOf 25).toList.map (fun f => (f.name, f.type, f.offset)) = [("Addr", 22, 0), ("Size", 3, 1)] := by kernel_rfl
      unfold eqIn
      rw [un]
      simp only [st2]
      obtain ⟨f0, f1, e01⟩ : ∃ f0 f1, (Tryz.prog.fieldsOf 25).toList = [f0, f1] := by
        match h : (Tryz.prog.fieldsOf 25).toList with
        | [a, b] => exact ⟨a, b, rfl⟩
        | [] => rw [h] at fl; simp at fl
        | [a] => rw [h] at fl; simp at fl
        | a :: b :: c :: d => rw [h] at fl; simp at fl
      rw [e01] at fl ⊢
      simp only [List.map_cons, List.map_nil, List.cons.injEq, Prod.mk.injEq, and_true] at fl
      obtain ⟨⟨n0, t0, o0⟩, n1, t1, o1⟩ := fl
      have s3 : shP Tryz.prog 3 = some .one := by kernel_rfl
      refine eqFs_ok (a := f 33) (by rw [n0]; decide) ?_ ?_ (eqFs_ok (a := f 34) (by rw [n1]; decide) ?_ ?_ rfl)
      · rw [t0, o0]; exact cellU _ _ _ (ext 33 2 0 (by omega) (by omega))
      · obtain ⟨n, e⟩ := ok.1 33 (by omega)
        rw [t0, e]; exact eqU _ _
      · rw [t1, o1]
        unfold partV
        rw [s3]
        exact ext 33 2 1 (by omega) (by omega)
      · obtain ⟨n, e⟩ := ok.2
        rw [t1, e]
        simp [eqIn, Tryz.underlying3]
  rw [key]
  rfl
end Go.SX.G
