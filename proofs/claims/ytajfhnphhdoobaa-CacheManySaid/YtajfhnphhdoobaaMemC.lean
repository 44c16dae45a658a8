/- The space: lay, where, Map. No condition but on sizes. -/
import Derived.Test.YtajfhnphhdoobaaMemB
set_option linter.unusedVariables false
set_option linter.unusedSimpArgs false
namespace Go.SX.G
open Go Go.SX Go.Proofs
set_option maxRecDepth 100000
set_option maxHeartbeats 2000000
/-- what 'lay' comes to. -/
inductive Laid (h h' : Heap) (s : Nat) (x : Value) (M : MemD) (a e p : Nat) : Prop
  | no (c : 256 < (joL (wiL M.rs ⟨a, e, p⟩)).length ∨ M.most < pagesL (joL (wiL M.rs ⟨a, e, p⟩))) (ex : x = .int .i64 12) (k : Keeps h.size h h')
  | yes (c1 : (joL (wiL M.rs ⟨a, e, p⟩)).length ≤ 256) (c2 : pagesL (joL (wiL M.rs ⟨a, e, p⟩)) ≤ M.most) (ex : x = .int .i64 0) (M' : MemD) (r : MR h' s M') (rs : M'.rs = joL (wiL M.rs ⟨a, e, p⟩)) (byte : ∀ y, memAt M' y = if a ≤ y ∧ y < e then 0 else memAt M y)
      (most : M'.most = M.most) (base : M'.base = M.base) (fin : M'.fin = M.fin) (fx : Fx (mfoot s M) (mfoot s M') h h') (sr : Sr M.D M'.D ((e - a) / 4096) (touched a e))
theorem lay_c {h : Heap} {s : Nat} {M : MemD} (a e p : Nat) (r : MR h s M) (hs : spanB a e = true) (hp : p ≤ 7) :
    Fn Try.prog 27 [ptr s 0, .int .u64 a, .int .u64 e, .int .i64 p] h fun x h' => Laid h h' s x M a e p := by
  have ht := r.top
  have hlt := getElem?_lt ht
  obtain ⟨s1, s2, s3, s4⟩ := spanB_iff.1 hs
  have hmp := mapped_at ⟨a, e, p⟩ r.wf hs hp
  obtain ⟨rs2, hrs2⟩ : ∃ rs2, rs2 = joL (wiL M.rs ⟨a, e, p⟩) := ⟨_, rfl⟩
  rw [← hrs2] at hmp
  have hlen := r.len
  refine Fn_c Try.func27 mixed c27 (by kernel_rfl) ?_; rw [r27]
  simp -implicitDefEqProofs (disch := first | omega | (simp only [h_szP, h_szS]; done) | (simp only [h_szP, h_szS]; omega)) only [go_sem, Nat.reduceBEq, reduceCtorEq, Nat.reduceAdd, Int.reduceEq, Int.reduceLT, Int.reduceLE, Int.reduceMul, Int.reduceAdd, Int.reduceSub, reduceIte, Nat.reduceLeDiff, Nat.reduceLT, Nat.reduceMul, Nat.reduceSub, Int.reduceToNat, s27, fo78_0, sh73, Try.underlying27, fo78_2, sh3, Try.underlying3, sz73, fo78_1, sh75, ht]
  refine FnK.use (rcopy_c r.lr (by omega)) ?_
  intro x1 h1 hx1
  obtain ⟨l', bl', e1, L1, hl', hbl', K1⟩ := hx1
  rw [e1]
  simp -implicitDefEqProofs (disch := first | omega | (simp only [h_szP, h_szS]; done) | (simp only [h_szP, h_szS]; omega)) only [go_sem, Nat.reduceBEq, reduceCtorEq, Nat.reduceAdd, Int.reduceEq, Int.reduceLT, Int.reduceLE, Int.reduceMul, Int.reduceAdd, Int.reduceSub, reduceIte, Nat.reduceLeDiff, Nat.reduceLT, Nat.reduceMul, Nat.reduceSub, Int.reduceToNat, s27, fo78_0, sh73, Try.underlying27, fo78_2, sh3, Try.underlying3, sz73, fo78_1, sh75]
  refine FnK.use (rmap_c a e p L1 (by omega) hs hp) ?_
  intro x2 h2 hx2
  cases hx2 with
  | no n ex k =>
    rw [ex]
    simp -implicitDefEqProofs (disch := first | omega | (simp only [h_szP, h_szS]; done) | (simp only [h_szP, h_szS]; omega)) only [go_sem, Nat.reduceBEq, reduceCtorEq, Nat.reduceAdd, Int.reduceEq, Int.reduceLT, Int.reduceLE, Int.reduceMul, Int.reduceAdd, Int.reduceSub, reduceIte, Nat.reduceLeDiff, Nat.reduceLT, Nat.reduceMul, Nat.reduceSub, Int.reduceToNat, s27, fo78_0, sh73, Try.underlying27, fo78_2, sh3, Try.underlying3, sz73, fo78_1, sh75]
    exact .no (.inl n) rfl (K1.of_ext k (Nat.le_refl _))
  | yes n ex bl2 L2 fresh2 size2 old2 =>
    rw [ex]
    have hk1 := K1.size
    have hl1 := L1.lt
    have ht2 : h2[s]? = some (.cells #[ptr M.l 0, ptr M.p 0, .int .i64 M.most, .int .u64 M.base, .int .u64 M.fin] 78 (0, 0)) := by rw [old2 s (by omega) (by omega), K1.old s hlt]; exact ht
    have hwf2 := hmp.1
    have K2 : Keeps h.size h h2 := ⟨by omega, fun b hb => by rw [old2 b (by omega) (by omega), K1.old b hb]⟩
    rw [← hrs2] at L2 n
    have hpg := rpages_c L2 (by omega) (fun q hq => by have := hwf2.each q hq; omega)
    -- behind the two orders
    have tail : ∀ h3, Keeps h2.size h2 h3 → pagesL rs2 ≤ M.most → Fn Try.prog 52 [ptr M.p 0, .int .u64 a, .int .u64 e] (h3.setIfInBounds s (.cells #[ptr l' 0, ptr M.p 0, .int .i64 M.most, .int .u64 M.base, .int .u64 M.fin] 78)) fun _ h' => Laid h h' s (.int .i64 0) M a e p := by
      intro h3 K3 hpm
      have hk3 := K3.size
      have hs3 : s < h3.size := by omega
      have R3 : SR (h3.setIfInBounds s (.cells #[ptr l' 0, ptr M.p 0, .int .i64 M.most, .int .u64 M.base, .int .u64 M.fin] 78)) M.p M.D := by
        refine r.sr.mono fun b f => ?_
        rw [h_setN _ _ _ _ (fun q => r.ds.2.2 (by rw [← q]; exact f)), K3.old b (by have := r.sr.lt f; omega), K2.old b (r.sr.lt f)]
      refine (clear_c a e R3 s1 s2 s3 s4).mono ?_
      intro x5 h5 hx5
      obtain ⟨D', C⟩ := hx5
      have hsz5 := C.size
      simp only [Array.size_setIfInBounds] at hsz5
      have hold5 : ∀ b, b < h3.size → b ≠ s → ¬ foot M.p M.D b → h5[b]? = h3[b]? := fun b hb hne hf => by rw [C.old b (by simpa using hb) hf, h_setN _ _ _ _ hne]
      have hnf : ∀ b, h.size ≤ b → ¬ foot M.p M.D b := fun b hb f => by have := r.sr.lt f; omega
      have hL2 := L2.lt
      have L5 : LR h5 l' bl2 rs2 := by
        refine L2.mono ?_ fun b hb => ?_
        · rw [hold5 l' (by omega) (by omega) (hnf _ hl'), K3.old _ hL2]
        · have := fresh2 b hb
          have := L2.blt hb
          rw [hold5 b (by omega) (by omega) (hnf _ (by omega)), K3.old _ (L2.blt hb)]
      have ht5 : h5[s]? = some (.cells #[ptr l' 0, ptr M.p 0, .int .i64 M.most, .int .u64 M.base, .int .u64 M.fin] 78 (0, 0)) := by
        rw [C.old s (by simpa using hs3) r.ds.2.2]; exact h_setS _ _ _ hs3
      refine .yes (by rw [← hrs2]; exact n) (by rw [← hrs2]; exact hpm) rfl { M with l := l', bl := bl2, rs := rs2, D := D' } ⟨ht5, L5, C.rep, hwf2, n, ⟨by show s ≠ l'; omega, fun q => ?_, fun f => r.ds.2.2 (C.ft _ f)⟩, ⟨fun q => ?_, fun f => hnf _ hl' (C.ft _ f)⟩, fun b hb f => ?_, r.num⟩ (by rw [← hrs2]) (fun y => C.byte y) rfl rfl rfl ⟨by omega, fun b f => ?_, fun b hb hf => ?_⟩ C.sr
      · have := fresh2 s q; omega
      · have := fresh2 l' q; omega
      · have := fresh2 b hb; exact hnf b (by omega) (C.ft _ f)
      · rcases f with f | f | f | f
        · exact .inl (.inl f)
        · right; rw [f]; exact hl'
        · have := fresh2 b f; right; omega
        · exact .inl (.inr (.inr (.inr (C.ft _ f))))
      · rw [hold5 b (by omega) (fun q => hf (.inl q)) (fun q => hf (.inr (.inr (.inr q)))), K3.old b (by omega), K2.old b hb]
    simp -implicitDefEqProofs (disch := first | omega | (simp only [h_szP, h_szS]; done) | (simp only [h_szP, h_szS]; omega)) only [go_sem, Nat.reduceBEq, reduceCtorEq, Nat.reduceAdd, Int.reduceEq, Int.reduceLT, Int.reduceLE, Int.reduceMul, Int.reduceAdd, Int.reduceSub, reduceIte, Nat.reduceLeDiff, Nat.reduceLT, Nat.reduceMul, Nat.reduceSub, Int.reduceToNat, s27, fo78_0, sh73, Try.underlying27, fo78_2, sh3, Try.underlying3, sz73, fo78_1, sh75, ht2]
    refine ⟨?_, ?_⟩
    · refine FnK.use hpg ?_
      intro x3 h3 hx3
      obtain ⟨e3, K3⟩ := hx3
      rw [e3]
      have ht3 := K3.at ht2 (getElem?_lt ht2)
      have hs3 := getElem?_lt ht3
      simp -implicitDefEqProofs (disch := first | omega | (simp only [h_szP, h_szS]; done) | (simp only [h_szP, h_szS]; omega)) only [go_sem, Nat.reduceBEq, reduceCtorEq, Nat.reduceAdd, Int.reduceEq, Int.reduceLT, Int.reduceLE, Int.reduceMul, Int.reduceAdd, Int.reduceSub, reduceIte, Nat.reduceLeDiff, Nat.reduceLT, Nat.reduceMul, Nat.reduceSub, Int.reduceToNat, s27, fo78_0, sh73, Try.underlying27, fo78_2, sh3, Try.underlying3, sz73, fo78_1, sh75, ht3]
      refine ⟨fun q => ?_, fun q => ?_⟩
      · exact .no (.inr (by rw [← hrs2]; omega)) rfl (K2.of_ext K3 (Nat.le_refl _))
      · refine FnK.use (tail h3 K3 (by omega)) ?_
        intro x h' hh
        simp -implicitDefEqProofs (disch := first | omega | (simp only [h_szP, h_szS]; done) | (simp only [h_szP, h_szS]; omega)) only [go_sem, Nat.reduceBEq, reduceCtorEq, Nat.reduceAdd, Int.reduceEq, Int.reduceLT, Int.reduceLE, Int.reduceMul, Int.reduceAdd, Int.reduceSub, reduceIte, Nat.reduceLeDiff, Nat.reduceLT, Nat.reduceMul, Nat.reduceSub, Int.reduceToNat, s27, fo78_0, sh73, Try.underlying27, fo78_2, sh3, Try.underlying3, sz73, fo78_1, sh75]
        exact hh
    · refine FnK.use hpg ?_
      intro x3 h3 hx3
      obtain ⟨e3, K3⟩ := hx3
      rw [e3]
      have ht3 := K3.at ht2 (getElem?_lt ht2)
      have hs3 := getElem?_lt ht3
      simp -implicitDefEqProofs (disch := first | omega | (simp only [h_szP, h_szS]; done) | (simp only [h_szP, h_szS]; omega)) only [go_sem, Nat.reduceBEq, reduceCtorEq, Nat.reduceAdd, Int.reduceEq, Int.reduceLT, Int.reduceLE, Int.reduceMul, Int.reduceAdd, Int.reduceSub, reduceIte, Nat.reduceLeDiff, Nat.reduceLT, Nat.reduceMul, Nat.reduceSub, Int.reduceToNat, s27, fo78_0, sh73, Try.underlying27, fo78_2, sh3, Try.underlying3, sz73, fo78_1, sh75, ht3]
      refine ⟨fun q => ?_, fun q => ?_⟩
      · exact .no (.inr (by rw [← hrs2]; omega)) rfl (K2.of_ext K3 (Nat.le_refl _))
      · refine FnK.use (tail h3 K3 (by omega)) ?_
        intro x h' hh
        simp -implicitDefEqProofs (disch := first | omega | (simp only [h_szP, h_szS]; done) | (simp only [h_szP, h_szS]; omega)) only [go_sem, Nat.reduceBEq, reduceCtorEq, Nat.reduceAdd, Int.reduceEq, Int.reduceLT, Int.reduceLE, Int.reduceMul, Int.reduceAdd, Int.reduceSub, reduceIte, Nat.reduceLeDiff, Nat.reduceLT, Nat.reduceMul, Nat.reduceSub, Int.reduceToNat, s27, fo78_0, sh73, Try.underlying27, fo78_2, sh3, Try.underlying3, sz73, fo78_1, sh75]
        exact hh
end Go.SX.G
