/- Pages of bytes: reading. No condition but on sizes. -/
import Derived.Test.YtajfhnphhdoobaaRegB
import Derived.Test.YtajfhnphhdoobaaSxExt
import Derived.Test.YtajfhnphhdoobaaSxMap
import Derived.Test.YtajfhnphhdoobaaPagePlain
set_option linter.unusedVariables false
set_option linter.unusedSimpArgs false
namespace Go.SX.G
open Go Go.SX Go.Proofs
set_option maxRecDepth 100000
set_option maxHeartbeats 1000000
theorem elB : ElT Try.prog 22 5 1 1 (.int .u8 0) := ⟨sl22, by5, by decide, ze5, rfl, by rw [Try.underlying22]; rfl⟩
/-- a store of pages at a block. -/
structure SR (h : Heap) (p : Nat) (D : StoreD) : Prop where
  top : h[p]? = some (.cells #[.map (some D.lm), .map (some D.sm), .int .u64 D.clock, .int .u64 D.all] 121 (0, 0))
  lmap : h[D.lm]? = some (.map (leafE D.es) D.c1)
  smap : h[D.sm]? = some (.map (stpE D.ss) D.c2)
  leaf : ∀ l ∈ D.es, h[l.blk]? = some (.cells (flat encB l.dat).toArray 132 (0, 0)) ∧ l.dat.length = 4096 ∧ l.no < 67108864 ∧ l.born < D.c1 ∧ ∀ x ∈ l.dat, x < 256
  nos : D.es.Pairwise fun a b => a.no ≠ b.no
  blks : D.es.Pairwise fun a b => a.blk ≠ b.blk
  borns : D.es.Pairwise fun a b => a.born ≠ b.born
  snos : D.ss.Pairwise fun a b => a.no ≠ b.no
  lmsm : D.lm ≠ D.sm
  sborn : ∀ s ∈ D.ss, s.born < D.c2
  sborns : D.ss.Pairwise fun a b => a.born ≠ b.born
  clk : D.clock < 18446744073709551616 ∧ D.all < 18446744073709551616
/-- its blocks. -/
def foot (p : Nat) (D : StoreD) (b : Nat) : Prop := b = p ∨ b = D.lm ∨ b = D.sm ∨ ∃ l ∈ D.es, b = l.blk
theorem SR.mono {h h' : Heap} {p : Nat} {D : StoreD} (r : SR h p D) (k : ∀ b, foot p D b → h'[b]? = h[b]?) : SR h' p D :=
  ⟨by rw [k p (.inl rfl)]; exact r.top, by rw [k _ (.inr (.inl rfl))]; exact r.lmap, by rw [k _ (.inr (.inr (.inl rfl)))]; exact r.smap,
    fun l hl => ⟨by rw [k _ (.inr (.inr (.inr ⟨l, hl, rfl⟩)))]; exact (r.leaf l hl).1, (r.leaf l hl).2⟩, r.nos, r.blks, r.borns, r.snos, r.lmsm, r.sborn, r.sborns, r.clk⟩
theorem SR.lt {h : Heap} {p : Nat} {D : StoreD} (r : SR h p D) {b : Nat} (f : foot p D b) : b < h.size := by
  rcases f with rfl | rfl | rfl | ⟨l, hl, rfl⟩
  · exact getElem?_lt r.top
  · exact getElem?_lt r.lmap
  · exact getElem?_lt r.smap
  · exact getElem?_lt (r.leaf l hl).1
theorem SR.ext {h h' : Heap} {p : Nat} {D : StoreD} (r : SR h p D) (k : Keeps h.size h h') : SR h' p D := r.mono fun b f => k.old b (r.lt f)
theorem part_c (h : Heap) (a n : Nat) (ha : a < 18446744073709551616) (hn : n < 9223372036854775808) : Fn Try.prog 55 [.int .u64 a, .int .i64 n] h fun x h' => x = .tuple #[.int .i64 (a % 4096 : Nat), .int .i64 (min n (4096 - a % 4096) : Nat)] ∧ h' = h := by
  have e1 : (if (4096 : Int) - (a : Int) % 4096 < n then (4096 : Int) - (a : Int) % 4096 else n) = ((min n (4096 - a % 4096) : Nat) : Int) := by split <;> omega
  refine Fn_c Try.func55 mixed c55 (by kernel_rfl) ?_; rw [r55]
  simp -implicitDefEqProofs (disch := first | omega | (simp only [h_szP, h_szS]; done) | (simp only [h_szP, h_szS]; omega)) only [go_sem, Nat.reduceBEq, reduceCtorEq, Nat.reduceAdd, Int.reduceEq, Int.reduceLT, Int.reduceLE, Int.reduceMul, Int.reduceAdd, Int.reduceSub, reduceIte, Nat.reduceLeDiff, Nat.reduceLT, Nat.reduceMul, Nat.reduceSub, Int.reduceToNat, s55, Try.underlying26, Try.underlying3, e1]
  rfl
theorem pnew_c (h : Heap) : Fn Try.prog 24 [] h fun x h' => x = ptr (h.size + 2) 0 ∧ h' = ((h.push (.map #[] 0)).push (.map #[] 0)).push (.cells #[.map (some h.size), .map (some (h.size + 1)), .int .u64 0, .int .u64 0] 121 (0, 0)) := by
  refine Fn_c Try.func24 mixed c24 (by kernel_rfl) ?_; rw [r24]
  simp -implicitDefEqProofs (disch := first | omega | (simp only [h_szP, h_szS]; done) | (simp only [h_szP, h_szS]; omega)) only [go_sem, Nat.reduceBEq, reduceCtorEq, Nat.reduceAdd, Int.reduceEq, Int.reduceLT, Int.reduceLE, Int.reduceMul, Int.reduceAdd, Int.reduceSub, reduceIte, Nat.reduceLeDiff, Nat.reduceLT, Nat.reduceMul, Nat.reduceSub, Int.reduceToNat, s24, zc121, sd121, pl121_0, pl121_1]
theorem read_c {h : Heap} {p : Nat} {D : StoreD} (addr n : Nat) (r : SR h p D) (ha : addr < 18446744073709551616) (h1 : 1 ≤ n) (h2 : n ≤ 4194304) :
    Fn Try.prog 39 [ptr p 0, .int .u64 addr, .int .i64 n] h fun x h' => Ss h' h.size x 5 encB 1 (getL D.es addr n n) ∧ Keeps h.size h h' := by
  have hp := r.lt (.inl rfl)
  have hlm := r.lt (.inr (.inl rfl))
  have hd1 : decide ((n : Int) < 1) = false := decide_eq_false (by omega)
  have hd2 : decide ((4194304 : Int) < n) = false := decide_eq_false (by omega)
  refine Fn_c Try.func39 mixed c39 (by kernel_rfl) ?_; rw [r39]
  simp -implicitDefEqProofs (disch := first | omega | (simp only [h_szP, h_szS]; done) | (simp only [h_szP, h_szS]; omega)) only [go_sem, Nat.reduceBEq, reduceCtorEq, Nat.reduceAdd, Int.reduceEq, Int.reduceLT, Int.reduceLE, Int.reduceMul, Int.reduceAdd, Int.reduceSub, reduceIte, Nat.reduceLeDiff, Nat.reduceLT, Nat.reduceMul, Nat.reduceSub, Int.reduceToNat, s39, Try.underlying75, Try.underlying3, sl22, ze5, by5, sz5, Try.underlying22, Try.underlying26, fo121_0, sh118, Try.underlying118, ze129, Try.underlying132, ar132, hd1, hd2]
  refine mks_one (by_ := 1) (n := n) sl22 by5 ze5 rfl (by omega) (by omega) ?_
  simp -implicitDefEqProofs (disch := first | omega | (simp only [h_szP, h_szS]; done) | (simp only [h_szP, h_szS]; omega)) only [go_sem, Nat.reduceBEq, reduceCtorEq, Nat.reduceAdd, Int.reduceEq, Int.reduceLT, Int.reduceLE, Int.reduceMul, Int.reduceAdd, Int.reduceSub, reduceIte, Nat.reduceLeDiff, Nat.reduceLT, Nat.reduceMul, Nat.reduceSub, Int.reduceToNat, s39, Try.underlying75, Try.underlying3, sl22, ze5, by5, sz5, Try.underlying22, Try.underlying26, fo121_0, sh118, Try.underlying118, ze129, Try.underlying132, ar132]
  refine LoopK.use (fun k fr hh => ∃ (c : Nat) (base : Addr), c + k = n ∧ (c < n → base = ⟨h.size, c, none⟩) ∧ (c = 0 ∨ addr + c < 18446744073709551616) ∧
      hh[h.size]? = some (.cells (flat encB (getL D.es addr n c)).toArray 5 (0, 0)) ∧ Keeps h.size h hh ∧
      fr = ((((fr0.up 8 (.slice (some base) (n - c) (n - c))).up 7 (.slice (some ⟨h.size, 0, none⟩) n n)).up 1 (.int .u64 ((addr + c : Nat) : Int))).up 0 (ptr p 0))) n ?_ ?_
  · refine ⟨0, ⟨h.size, 0, none⟩, by omega, fun _ => rfl, .inl rfl, ?_, Keeps.push _ _ (Nat.le_refl _), ?_⟩
    · rw [getL_zero, encB_rep]; simp
    · simp
  · intro k fr hh hI
    obtain ⟨c, base, hk, hbase, hcl, hB, K1, hf⟩ := hI
    subst hf
    by_cases hc : c < n ∧ addr + c < 274877906944
    · obtain ⟨hc, hat⟩ := hc
      have hb := hbase hc
      subst hb
      have ht1 := K1.at r.top hp
      have ht2 := K1.at r.lmap hlm
      have hdn : decide ((0 : Int) < ((n - c : Nat) : Int)) = true := decide_eq_true (by omega)
      have hda : decide (((addr + c : Nat) : Int) < 274877906944) = true := decide_eq_true (by omega)
      simp -implicitDefEqProofs (disch := first | omega | (simp only [h_szP, h_szS]; done) | (simp only [h_szP, h_szS]; omega)) only [go_sem, Nat.reduceBEq, reduceCtorEq, Nat.reduceAdd, Int.reduceEq, Int.reduceLT, Int.reduceLE, Int.reduceMul, Int.reduceAdd, Int.reduceSub, reduceIte, Nat.reduceLeDiff, Nat.reduceLT, Nat.reduceMul, Nat.reduceSub, Int.reduceToNat, s39, Try.underlying75, Try.underlying3, sl22, ze5, by5, sz5, Try.underlying22, Try.underlying26, fo121_0, sh118, Try.underlying118, ze129, Try.underlying132, ar132, hdn, hda]
      refine FnK.val (part_c hh (addr + c) (n - c) (by omega) (by omega)) ?_
      obtain ⟨sz, hsz⟩ : ∃ sz, sz = min (n - c) (4096 - (addr + c) % 4096) := ⟨_, rfl⟩
      rw [← hsz]
      simp -implicitDefEqProofs (disch := first | omega | (simp only [h_szP, h_szS]; done) | (simp only [h_szP, h_szS]; omega)) only [go_sem, Nat.reduceBEq, reduceCtorEq, Nat.reduceAdd, Int.reduceEq, Int.reduceLT, Int.reduceLE, Int.reduceMul, Int.reduceAdd, Int.reduceSub, reduceIte, Nat.reduceLeDiff, Nat.reduceLT, Nat.reduceMul, Nat.reduceSub, Int.reduceToNat, s39, Try.underlying75, Try.underlying3, sl22, ze5, by5, sz5, Try.underlying22, Try.underlying26, fo121_0, sh118, Try.underlying118, ze129, Try.underlying132, ar132, ht1]
      have hfin : ∀ hh' : Heap, hh'[h.size]? = some (.cells (flat encB (getL D.es addr n (c + sz))).toArray 5 (0, 0)) → Keeps h.size h hh' → ∃ k' : Nat, k' < k ∧ ∃ (c' : Nat) (base : Addr), c' + k' = n ∧ (c' < n → base = ⟨h.size, c', none⟩) ∧ (c' = 0 ∨ addr + c' < 18446744073709551616) ∧
          hh'[h.size]? = some (.cells (flat encB (getL D.es addr n c')).toArray 5 (0, 0)) ∧ Keeps h.size h hh' ∧
          ((((fr0.up 8 (.slice (if n - c = sz then some ⟨h.size, c, none⟩ else some ⟨h.size, c + sz * 1, none⟩) (n - c - sz) (n - c - sz))).up 7 (.slice (some ⟨h.size, 0, none⟩) n n)).up 1 (.int .u64 ((addr + c : Nat) + (sz : Int)))).up 0 (ptr p 0)) =
          ((((fr0.up 8 (.slice (some base) (n - c') (n - c'))).up 7 (.slice (some ⟨h.size, 0, none⟩) n n)).up 1 (.int .u64 ((addr + c' : Nat) : Int))).up 0 (ptr p 0)) := by
        intro hh' hB' K'
        refine ⟨k - sz, by omega, c + sz, ⟨h.size, if n - c = sz then c else c + sz, none⟩, by omega, fun q => by rw [if_neg (by omega)], .inr (by omega), hB', K', ?_⟩
        rw [show n - (c + sz) = n - c - sz by omega, show ((addr + (c + sz) : Nat) : Int) = (addr + c : Nat) + (sz : Int) by omega, Nat.mul_one]
        split <;> rfl
      rcases fnd_cases (kf := fun l : Leaf => (l.no : Int)) (((addr + c : Nat) : Int) / 4096) D.es with hn | ⟨j, hj, e1, e2⟩
      · refine obK.use _ (look_none Try.underlying118 Try.underlying26 ze129 ht2 hn true) ?_
        simp -implicitDefEqProofs (disch := first | omega | (simp only [h_szP, h_szS]; done) | (simp only [h_szP, h_szS]; omega)) only [go_sem, Nat.reduceBEq, reduceCtorEq, Nat.reduceAdd, Int.reduceEq, Int.reduceLT, Int.reduceLE, Int.reduceMul, Int.reduceAdd, Int.reduceSub, reduceIte, Nat.reduceLeDiff, Nat.reduceLT, Nat.reduceMul, Nat.reduceSub, Int.reduceToNat, s39, Try.underlying75, Try.underlying3, sl22, ze5, by5, sz5, Try.underlying22, Try.underlying26, fo121_0, sh118, Try.underlying118, ze129, Try.underlying132, ar132]
        exact hfin hh (by rw [← getL_skip (by omega) (by simpa using hn)]; exact hB) K1
      · refine obK.use _ (look_some Try.underlying118 Try.underlying26 ht2 hj e1 e2 true) ?_
        simp -implicitDefEqProofs (disch := first | omega | (simp only [h_szP, h_szS]; done) | (simp only [h_szP, h_szS]; omega)) only [go_sem, Nat.reduceBEq, reduceCtorEq, Nat.reduceAdd, Int.reduceEq, Int.reduceLT, Int.reduceLE, Int.reduceMul, Int.reduceAdd, Int.reduceSub, reduceIte, Nat.reduceLeDiff, Nat.reduceLT, Nat.reduceMul, Nat.reduceSub, Int.reduceToNat, s39, Try.underlying75, Try.underlying3, sl22, ze5, by5, sz5, Try.underlying22, Try.underlying26, fo121_0, sh118, Try.underlying118, ze129, Try.underlying132, ar132]
        have hlf := r.leaf D.es[j] (List.getElem_mem hj)
        have hlb := K1.at hlf.1 (getElem?_lt hlf.1)
        have hz := getL_more (es := D.es) (addr := addr) (n := n) (c := c) (k := sz) (by omega) hj (by omega) (by omega) (fun i hi => by have := e2 i hi; omega) hlf.2.1
        have hcl : (flat encB ((D.es[j].dat.drop ((addr + c) % 4096)).take sz)).length = sz := by
          rw [flat_len encB_len, List.length_take, List.length_drop, hlf.2.1]; omega
        refine copy_into (cs := flat encB ((D.es[j].dat.drop ((addr + c) % 4096)).take sz)) sl22 rfl rfl ?_ hB (flat_all encB_one _) ?_ ?_
        · have e3 : min (4096 - (addr + c) % 4096) sz * 1 = sz := by omega
          rw [e3]
          simp only [srcCells, cells?, hlb]
          rw [if_pos (by simp [flat_len encB_len, hlf.2.1]; omega), encB_flat, encB_flat, List.map_take, List.map_drop, Nat.mul_one]
        · rw [hcl]; simp [encB_flat, getL_len]; omega
        · simp -implicitDefEqProofs (disch := first | omega | (simp only [h_szP, h_szS]; done) | (simp only [h_szP, h_szS]; omega)) only [go_sem, Nat.reduceBEq, reduceCtorEq, Nat.reduceAdd, Int.reduceEq, Int.reduceLT, Int.reduceLE, Int.reduceMul, Int.reduceAdd, Int.reduceSub, reduceIte, Nat.reduceLeDiff, Nat.reduceLT, Nat.reduceMul, Nat.reduceSub, Int.reduceToNat, s39, Try.underlying75, Try.underlying3, sl22, ze5, by5, sz5, Try.underlying22, Try.underlying26, fo121_0, sh118, Try.underlying118, ze129, Try.underlying132, ar132]
          rw [hz]
          exact hfin _ (h_setS _ _ _ (getElem?_lt hB)) (K1.set' (Nat.le_refl _))
    · have hd : decide ((0 : Int) < ((n - c : Nat) : Int)) = decide (c < n) := by congr 1; apply propext; omega
      have hdone : getL D.es addr n c = getL D.es addr n n := by
        rcases Nat.lt_or_ge c n with q | q
        · exact getL_far (fun l hl => (r.leaf l hl).2.2.1) (by omega)
        · have : c = n := by omega
          rw [this]
      rw [hdone] at hB
      have hfin : Ss hh h.size (.slice (some ⟨h.size, 0, none⟩) n n) 5 encB 1 (getL D.es addr n n) := by
        refine Ss.mk encB_len [] hB (by simp) (getL_len _ _ _ _).symm (Nat.le_refl _) ?_ (Nat.le_refl _)
        simp [encB_flat, getL_len]
      rcases Nat.lt_or_ge c n with q | q
      · have hb := hbase q
        subst hb
        have hdn : decide ((0 : Int) < ((n - c : Nat) : Int)) = true := decide_eq_true (by omega)
        have hda : decide (((addr + c : Nat) : Int) < 274877906944) = false := decide_eq_false (by omega)
        simp -implicitDefEqProofs (disch := first | omega | (simp only [h_szP, h_szS]; done) | (simp only [h_szP, h_szS]; omega)) only [go_sem, Nat.reduceBEq, reduceCtorEq, Nat.reduceAdd, Int.reduceEq, Int.reduceLT, Int.reduceLE, Int.reduceMul, Int.reduceAdd, Int.reduceSub, reduceIte, Nat.reduceLeDiff, Nat.reduceLT, Nat.reduceMul, Nat.reduceSub, Int.reduceToNat, s39, Try.underlying75, Try.underlying3, sl22, ze5, by5, sz5, Try.underlying22, Try.underlying26, fo121_0, sh118, Try.underlying118, ze129, Try.underlying132, ar132, hdn, hda]
        exact ⟨hfin, K1⟩
      · have hdn : decide ((0 : Int) < ((n - c : Nat) : Int)) = false := decide_eq_false (by omega)
        simp -implicitDefEqProofs (disch := first | omega | (simp only [h_szP, h_szS]; done) | (simp only [h_szP, h_szS]; omega)) only [go_sem, Nat.reduceBEq, reduceCtorEq, Nat.reduceAdd, Int.reduceEq, Int.reduceLT, Int.reduceLE, Int.reduceMul, Int.reduceAdd, Int.reduceSub, reduceIte, Nat.reduceLeDiff, Nat.reduceLT, Nat.reduceMul, Nat.reduceSub, Int.reduceToNat, s39, Try.underlying75, Try.underlying3, sl22, ze5, by5, sz5, Try.underlying22, Try.underlying26, fo121_0, sh118, Try.underlying118, ze129, Try.underlying132, ar132, hdn]
        exact ⟨hfin, K1⟩
end Go.SX.G
