/- A tree that is made, and a file in it. No condition. -/
import Derived.Test.YthippanonfbboaaDoorNodeB
import Derived.Test.YthippanonfbboaaDoorPagePlain
import Derived.Lib.Bytealg
set_option linter.unusedVariables false
set_option linter.unusedSimpArgs false
namespace Go.SX.G
open Go Go.SX Go.Proofs
set_option maxRecDepth 100000
set_option maxHeartbeats 1000000
def mpO (xs : List (Int × Value × Nat)) (c : Nat) : Obj := .map (entA .i64 (fun x : Int × Value × Nat => x.1) (fun x => x.2.1) (fun x => x.2.2) xs) c
/-- a tree of a root, of the program. -/
structure Tr (h : Heap) (t q f : Nat) : Prop where
  t : h[t]? = some (.cells #[.map (some q)] 72 (0, 0))
  q : h[q]? = some (mpO [(1, ptr f 0, 0)] 1)
  f : h[f]? = some (.cells #[.int .i64 2, .int .i64 493, .slice none 0 0, .slice none 0 0, .int .i64 1, .int .i64 0, .int .i64 0] 69 (0, 0))
theorem Tr.ext {h h' : Heap} {t q f : Nat} (R : Tr h t q f) (k : Keeps h.size h h') : Tr h' t q f := ⟨k.at R.t (getElem?_lt R.t), k.at R.q (getElem?_lt R.q), k.at R.f (getElem?_lt R.f)⟩
theorem nnew_c (h : Heap) : Fn Tryd.prog 7 [.slice none 0 0] h fun x h' => (∃ t q f, x = .tuple #[ptr t 0, .int .i64 0] ∧ Tr h' t q f ∧ h.size ≤ t ∧ h.size ≤ q ∧ h.size ≤ f) ∧ Keeps h.size h h' := by
  refine Fn_c Tryd.func7 mixed c7 (by kernel_rfl) ?_; rw [r7]
  simp -implicitDefEqProofs (disch := first | omega | (simp only [h_szP, h_szS]; done) | (simp only [h_szP, h_szS]; omega)) only [go_sem, Nat.reduceBEq, reduceCtorEq, Nat.reduceAdd, Int.reduceEq, Int.reduceLT, Int.reduceLE, Int.reduceMul, Int.reduceAdd, Int.reduceSub, reduceIte, Nat.reduceLeDiff, Nat.reduceLT, Nat.reduceMul, Nat.reduceSub, Int.reduceToNat, s7, zc69, sd69, pl69_0, pl69_1, pl69_4, Tryd.underlying70, Tryd.underlying3, zc72, sd72, pl72_0, Tryd.underlying66, sl66, ze74, by74, sz74, sh74, zc74, Tryd.underlying26, ins_up]
  have hq0 : ((h.push (.map #[] 0)).push (.cells #[.int .i64 2, .int .i64 493, .slice none 0 0, .slice none 0 0, .int .i64 1, .int .i64 0, .int .i64 0] 69))[h.size]? = some (mpO [] 0) := by
    rw [h_pushL _ _ _ (by simp)]; exact h_pushE _ _ _ rfl
  refine mup_none Tryd.underlying70 Tryd.underlying3 hq0 (fun x hx => by cases hx) (1, ptr (h.size + 1) 0, 0) rfl ?_
  obtain ⟨h1, e1⟩ : ∃ h1, h1 = ((h.push (.map #[] 0)).push (.cells #[.int .i64 2, .int .i64 493, .slice none 0 0, .slice none 0 0, .int .i64 1, .int .i64 0, .int .i64 0] 69)).setIfInBounds h.size (mpO [(1, ptr (h.size + 1) 0, 0)] 1) := ⟨_, rfl⟩
  have e1' : ((h.push (.map #[] 0)).push (.cells #[.int .i64 2, .int .i64 493, .slice none 0 0, .slice none 0 0, .int .i64 1, .int .i64 0, .int .i64 0] 69)).setIfInBounds h.size (.map (entA .i64 (fun x : Int × Value × Nat => x.1) (fun x => x.2.1) (fun x => x.2.2) ([] ++ [(1, ptr (h.size + 1) 0, 0)])) (0 + 1)) = h1 := e1.symm
  rw [e1']
  have sz1 : h1.size = h.size + 2 := by rw [e1]; simp
  refine LoopK.use (fun k fr hh => hh = h1.push (.cells #[.map (some h.size)] 72) ∧ fr = ((((fr0.up 16 (.int .i64 0)).up 15 (.int .i64 0)).up 14 (.slice none 0 0)).up 4 (ptr h1.size 0))) 0 ⟨rfl, rfl⟩ ?_
  intro k fr hh ⟨e0, hf⟩
  subst hf
  rw [e0]
  simp -implicitDefEqProofs (disch := first | omega | (simp only [h_szP, h_szS]; done) | (simp only [h_szP, h_szS]; omega)) only [go_sem, Nat.reduceBEq, reduceCtorEq, Nat.reduceAdd, Int.reduceEq, Int.reduceLT, Int.reduceLE, Int.reduceMul, Int.reduceAdd, Int.reduceSub, reduceIte, Nat.reduceLeDiff, Nat.reduceLT, Nat.reduceMul, Nat.reduceSub, Int.reduceToNat, s7, zc69, sd69, pl69_0, pl69_1, pl69_4, Tryd.underlying70, Tryd.underlying3, zc72, sd72, pl72_0, Tryd.underlying66, sl66, ze74, by74, sz74, sh74, zc74, Tryd.underlying26]
  refine ⟨⟨h1.size, h.size, h.size + 1, rfl, ⟨h_pushE _ _ _ rfl, ?_, ?_⟩, by omega, Nat.le_refl _, by omega⟩, ?_⟩
  · rw [h_pushL _ _ _ (by omega), e1, h_setS _ _ _ (by simp; omega)]
  · rw [h_pushL _ _ _ (by omega), e1, h_setN _ _ _ _ (by omega)]; exact h_pushE _ _ _ (by simp)
  · refine Keeps.push' ?_ (Nat.le_refl _)
    rw [e1]
    exact ((Keeps.push _ _ (Nat.le_refl _)).push' (Nat.le_refl _)).set' (Nat.le_refl _)
theorem ixs_c (s : ByteArray) (c : Int) (h : Heap) : Fn Tryd.prog 85 [.string s, .int .u8 c] h fun v h' => v = .int .i64 (Lib.indexByte s.data.toList c.toNat.toUInt8) ∧ h' = h := by
  refine Fn_extern Tryd.func85 (by kernel_rfl) (by kernel_rfl) (by kernel_rfl) (e := Extern.BytealgIndexByte.indexByte) (by kernel_rfl) ?_
  intro w hw
  subst hw
  exact ⟨_, w, Lib.run_indexByteString s c w, ⟨rfl, rfl⟩, Rest.refl w⟩
theorem ixb_c (s : ByteArray) (c : Int) (h : Heap) : Fn Tryd.prog 58 [.string s, .int .u8 c] h fun v h' => v = .int .i64 (Lib.indexByte s.data.toList c.toNat.toUInt8) ∧ h' = h := by
  refine Fn_c Tryd.func58 mixed c58 (by kernel_rfl) ?_; rw [r58]
  simp -implicitDefEqProofs (disch := first | omega | (simp only [h_szP, h_szS]; done) | (simp only [h_szP, h_szS]; omega)) only [go_sem, Nat.reduceBEq, reduceCtorEq, Nat.reduceAdd, Int.reduceEq, Int.reduceLT, Int.reduceLE, Int.reduceMul, Int.reduceAdd, Int.reduceSub, reduceIte, Nat.reduceLeDiff, Nat.reduceLT, Nat.reduceMul, Nat.reduceSub, Int.reduceToNat, s58]
  have q : Fn Tryd.prog 81 [.string s, .int .u8 c] h fun v h' => v = .int .i64 (Lib.indexByte s.data.toList c.toNat.toUInt8) ∧ h' = h := by
    refine Fn_c Tryd.func81 mixed c81 (by kernel_rfl) ?_; rw [r81]
    simp -implicitDefEqProofs (disch := first | omega | (simp only [h_szP, h_szS]; done) | (simp only [h_szP, h_szS]; omega)) only [go_sem, Nat.reduceBEq, reduceCtorEq, Nat.reduceAdd, Int.reduceEq, Int.reduceLT, Int.reduceLE, Int.reduceMul, Int.reduceAdd, Int.reduceSub, reduceIte, Nat.reduceLeDiff, Nat.reduceLT, Nat.reduceMul, Nat.reduceSub, Int.reduceToNat, s81]
    refine FnK.val (ixs_c s c h) ?_
    simp -implicitDefEqProofs (disch := first | omega | (simp only [h_szP, h_szS]; done) | (simp only [h_szP, h_szS]; omega)) only [go_sem, Nat.reduceBEq, reduceCtorEq, Nat.reduceAdd, Int.reduceEq, Int.reduceLT, Int.reduceLE, Int.reduceMul, Int.reduceAdd, Int.reduceSub, reduceIte, Nat.reduceLeDiff, Nat.reduceLT, Nat.reduceMul, Nat.reduceSub, Int.reduceToNat, s81]
  refine FnK.val q ?_
  simp -implicitDefEqProofs (disch := first | omega | (simp only [h_szP, h_szS]; done) | (simp only [h_szP, h_szS]; omega)) only [go_sem, Nat.reduceBEq, reduceCtorEq, Nat.reduceAdd, Int.reduceEq, Int.reduceLT, Int.reduceLE, Int.reduceMul, Int.reduceAdd, Int.reduceSub, reduceIte, Nat.reduceLeDiff, Nat.reduceLT, Nat.reduceMul, Nat.reduceSub, Int.reduceToNat, s58]
def aB : ByteArray := ⟨#[97]⟩
theorem goodname_a (h : Heap) : Fn Tryd.prog 22 [.string ⟨#[97]⟩] h fun v h' => v = .bool true ∧ h' = h := by
  have n1 : ((⟨#[97]⟩ : ByteArray) == ⟨#[]⟩) = false := by decide
  have n2 : ((⟨#[97]⟩ : ByteArray) == ⟨#[46]⟩) = false := by decide
  have n3 : ((⟨#[97]⟩ : ByteArray) == ⟨#[46, 46]⟩) = false := by decide
  have n4 : ((⟨#[97]⟩ : ByteArray)).size = 1 := rfl
  have i0 : Lib.indexByte (⟨#[97]⟩ : ByteArray).data.toList (0 : Int).toNat.toUInt8 = -1 := by decide
  have i1 : Lib.indexByte (⟨#[97]⟩ : ByteArray).data.toList (47 : Int).toNat.toUInt8 = -1 := by decide
  refine Fn_c Tryd.func22 mixed c22 (by kernel_rfl) ?_; rw [r22]
  simp -implicitDefEqProofs (disch := first | omega | (simp only [h_szP, h_szS]; done) | (simp only [h_szP, h_szS]; omega)) only [go_sem, Nat.reduceBEq, reduceCtorEq, Nat.reduceAdd, Int.reduceEq, Int.reduceLT, Int.reduceLE, Int.reduceMul, Int.reduceAdd, Int.reduceSub, reduceIte, Nat.reduceLeDiff, Nat.reduceLT, Nat.reduceMul, Nat.reduceSub, Int.reduceToNat, s22, Tryd.underlying9, Tryd.underlying3, s_neq, n1, n2, n3, n4]
  refine FnK.val (ixb_c _ 0 h) ?_
  rw [i0]
  simp -implicitDefEqProofs (disch := first | omega | (simp only [h_szP, h_szS]; done) | (simp only [h_szP, h_szS]; omega)) only [go_sem, Nat.reduceBEq, reduceCtorEq, Nat.reduceAdd, Int.reduceEq, Int.reduceLT, Int.reduceLE, Int.reduceMul, Int.reduceAdd, Int.reduceSub, reduceIte, Nat.reduceLeDiff, Nat.reduceLT, Nat.reduceMul, Nat.reduceSub, Int.reduceToNat, s22, Tryd.underlying9, Tryd.underlying3]
  refine FnK.val (ixb_c _ 47 h) ?_
  rw [i1]
  simp -implicitDefEqProofs (disch := first | omega | (simp only [h_szP, h_szS]; done) | (simp only [h_szP, h_szS]; omega)) only [go_sem, Nat.reduceBEq, reduceCtorEq, Nat.reduceAdd, Int.reduceEq, Int.reduceLT, Int.reduceLE, Int.reduceMul, Int.reduceAdd, Int.reduceSub, reduceIte, Nat.reduceLeDiff, Nat.reduceLT, Nat.reduceMul, Nat.reduceSub, Int.reduceToNat, s22, Tryd.underlying9, Tryd.underlying3]
end Go.SX.G
