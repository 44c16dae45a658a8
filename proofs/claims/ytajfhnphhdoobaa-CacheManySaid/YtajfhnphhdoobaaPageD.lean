/- Pages of bytes: Write, the walk. No condition but on sizes. -/
import Derived.Test.YtajfhnphhdoobaaPageC
set_option linter.unusedVariables false
set_option linter.unusedSimpArgs false
namespace Go.SX.G
open Go Go.SX Go.Proofs
set_option maxRecDepth 100000
set_option maxHeartbeats 2000000
theorem write_c {h : Heap} {p : Nat} {D : StoreD} {v : Value} {bs : List Nat} (addr : Nat) (r : SR h p D) (ha : addr < 18446744073709551616) (hn : bs.length ≤ 4194304) (hv : Vs h v encB 1 bs) (hd : ∀ b, blk v = some b → ¬ foot p D b) (hlt : ∀ x ∈ bs, x < 256) :
    Fn Try.prog 29 [ptr p 0, .int .u64 addr, v] h fun x h' => ∃ D', Wr h h' p D D' addr (addr + bs.length) (fun a => bs.getD (a - addr) 0) := by
  obtain ⟨a0, cap0, e1, hcap⟩ := hv.shape
  subst e1
  have hd2 : decide ((4194304 : Int) < bs.length) = false := decide_eq_false (by omega)
  refine Fn_c Try.func29 mixed c29 (by kernel_rfl) ?_; rw [r29]
  simp -implicitDefEqProofs (disch := first | omega | (simp only [h_szP, h_szS]; done) | (simp only [h_szP, h_szS]; omega)) only [go_sem, Nat.reduceBEq, reduceCtorEq, Nat.reduceAdd, Int.reduceEq, Int.reduceLT, Int.reduceLE, Int.reduceMul, Int.reduceAdd, Int.reduceSub, reduceIte, Nat.reduceLeDiff, Nat.reduceLT, Nat.reduceMul, Nat.reduceSub, Int.reduceToNat, s29, Try.underlying75, Try.underlying22, sl22, ze5, by5, sz5, Try.underlying3, Try.underlying26, fo121_0, sh118, Try.underlying118, ze129, zc132, sd132, Try.underlying132, ar132, hd2]
  refine LoopK.use (fun k fr hh => ∃ (c : Nat) (base : Option Addr) (D' : StoreD) (cc : Nat), c + k = bs.length ∧ (∀ b o, a0 = some ⟨b, o, none⟩ → c < bs.length → base = some ⟨b, o + c, none⟩) ∧ (c = 0 ∨ addr + c < 18446744073709551616) ∧ bs.length - c ≤ cc ∧ (a0.isSome = true → cc = cap0 - c) ∧
      Wr h hh p D D' addr (addr + c) (fun a => bs.getD (a - addr) 0) ∧
      fr = (((fr0.up 2 (.slice base (bs.length - c) cc)).up 1 (.int .u64 ((addr + c : Nat) : Int))).up 0 (ptr p 0))) bs.length ?_ ?_
  · exact ⟨0, a0, D, cap0, by omega, fun b o e _ => by rw [e]; rfl, .inl rfl, by omega, fun _ => rfl, Wr.refl r _ _, rfl⟩
  · intro k fr hh hI
    obtain ⟨c, base, D', cc, hk, hbase, hcl, hcc, hcc2, W, hf⟩ := hI
    subst hf
    by_cases hc : c < bs.length ∧ addr + c < 274877906944
    · obtain ⟨hc, hat⟩ := hc
      obtain ⟨vb, vo, cap', e1, hcap', hvb⟩ := hv.open hc
      simp only [Value.slice.injEq, true_and] at e1
      obtain ⟨e1, e2⟩ := e1
      subst e1
      subst e2
      have hb := hbase vb vo rfl hc
      subst hb
      have hcc3 := hcc2 rfl
      subst hcc3
      have hdn : decide ((0 : Int) < ((bs.length - c : Nat) : Int)) = true := decide_eq_true (by omega)
      have hda : decide (((addr + c : Nat) : Int) < 274877906944) = true := decide_eq_true (by omega)
      have R := W.rep
      have ht1 := R.top
      have hp1 := R.lt (.inl rfl)
      have hlm1 := R.lt (.inr (.inl rfl))
      simp -implicitDefEqProofs (disch := first | omega | (simp only [h_szP, h_szS]; done) | (simp only [h_szP, h_szS]; omega)) only [go_sem, Nat.reduceBEq, reduceCtorEq, Nat.reduceAdd, Int.reduceEq, Int.reduceLT, Int.reduceLE, Int.reduceMul, Int.reduceAdd, Int.reduceSub, reduceIte, Nat.reduceLeDiff, Nat.reduceLT, Nat.reduceMul, Nat.reduceSub, Int.reduceToNat, s29, Try.underlying75, Try.underlying22, sl22, ze5, by5, sz5, Try.underlying3, Try.underlying26, fo121_0, sh118, Try.underlying118, ze129, zc132, sd132, Try.underlying132, ar132, hdn, hda]
      refine FnK.val (part_c hh (addr + c) (bs.length - c) (by omega) (by omega)) ?_
      obtain ⟨sz, hsz⟩ : ∃ sz, sz = min (bs.length - c) (4096 - (addr + c) % 4096) := ⟨_, rfl⟩
      rw [← hsz]
      simp -implicitDefEqProofs (disch := first | omega | (simp only [h_szP, h_szS]; done) | (simp only [h_szP, h_szS]; omega)) only [go_sem, Nat.reduceBEq, reduceCtorEq, Nat.reduceAdd, Int.reduceEq, Int.reduceLT, Int.reduceLE, Int.reduceMul, Int.reduceAdd, Int.reduceSub, reduceIte, Nat.reduceLeDiff, Nat.reduceLT, Nat.reduceMul, Nat.reduceSub, Int.reduceToNat, s29, Try.underlying75, Try.underlying22, sl22, ze5, by5, sz5, Try.underlying3, Try.underlying26, fo121_0, sh118, Try.underlying118, ze129, zc132, sd132, Try.underlying132, ar132, ht1]
      have hvh : Vs hh (.slice (some ⟨vb, vo, none⟩) bs.length cap0) encB 1 bs := hv.mono fun b hb => W.old b (hv.blk_lt hb) (hd b hb)
      have hckl : ((bs.drop c).take sz).length = sz := by rw [List.length_take, List.length_drop]; omega
      have hcklt : ∀ x ∈ (bs.drop c).take sz, x < 256 := fun x hx => hlt x (List.mem_of_mem_drop (List.mem_of_mem_take hx))
      have hckB : ∀ i, i < sz → ((bs.drop c).take sz).getD i 0 = bs.getD (addr + c + i - addr) 0 := by
        intro i hi
        simp only [List.getD_eq_getElem?_getD, List.getElem?_take, hi, if_true, List.getElem?_drop]
        rw [show addr + c + i - addr = c + i by omega]
      have hfin : ∀ (hh3 : Heap) (D3 : StoreD), Wr h hh3 p D D3 addr (addr + (c + sz)) (fun a => bs.getD (a - addr) 0) → ∃ k' : Nat, k' < k ∧ ∃ (c' : Nat) (base : Option Addr) (D' : StoreD) (cc : Nat), c' + k' = bs.length ∧ (∀ b o, some (⟨vb, vo, none⟩ : Addr) = some ⟨b, o, none⟩ → c' < bs.length → base = some ⟨b, o + c', none⟩) ∧ (c' = 0 ∨ addr + c' < 18446744073709551616) ∧ bs.length - c' ≤ cc ∧ ((some (⟨vb, vo, none⟩ : Addr)).isSome = true → cc = cap0 - c') ∧
          Wr h hh3 p D D' addr (addr + c') (fun a => bs.getD (a - addr) 0) ∧
          (((fr0.up 2 (.slice (if cap0 - c = sz then some ⟨vb, vo + c, none⟩ else some ⟨vb, vo + c + sz * 1, none⟩) (bs.length - c - sz) (cap0 - c - sz))).up 1 (.int .u64 (((addr + c : Nat) : Int) + sz))).up 0 (ptr p 0)) =
          (((fr0.up 2 (.slice base (bs.length - c') cc)).up 1 (.int .u64 ((addr + c' : Nat) : Int))).up 0 (ptr p 0)) := by
        intro hh3 D3 W3
        refine ⟨k - sz, by omega, c + sz, (if cap0 - c = sz then some ⟨vb, vo + c, none⟩ else some ⟨vb, vo + c + sz * 1, none⟩), D3, cap0 - c - sz, by omega, ?_, .inr (by omega), by omega, fun _ => by omega, W3, ?_⟩
        · intro b o e q
          simp only [Option.some.injEq, Addr.mk.injEq, and_true] at e
          rw [if_neg (by omega), ← e.1, ← e.2, Nat.mul_one, Nat.add_assoc]
        · rw [show bs.length - (c + sz) = bs.length - c - sz by omega, show ((addr + (c + sz) : Nat) : Int) = (addr + c : Nat) + (sz : Int) by omega]
      have hno1 : (addr + c) / 4096 < 67108864 := by omega
      rcases fnd_cases (kf := fun l : Leaf => (l.no : Int)) (((addr + c : Nat) : Int) / 4096) D'.es with hno | ⟨j, hj, e1, e2⟩
      · refine obK.use _ (look_none Try.underlying118 Try.underlying26 ze129 R.lmap hno true) ?_
        simp -implicitDefEqProofs (disch := first | omega | (simp only [h_szP, h_szS]; done) | (simp only [h_szP, h_szS]; omega)) only [go_sem, Nat.reduceBEq, reduceCtorEq, Nat.reduceAdd, Int.reduceEq, Int.reduceLT, Int.reduceLE, Int.reduceMul, Int.reduceAdd, Int.reduceSub, reduceIte, Nat.reduceLeDiff, Nat.reduceLT, Nat.reduceMul, Nat.reduceSub, Int.reduceToNat, s29, Try.underlying75, Try.underlying22, sl22, ze5, by5, sz5, Try.underlying3, Try.underlying26, fo121_0, sh118, Try.underlying118, ze129, zc132, sd132, Try.underlying132, ar132, ht1]
        refine mup_none Try.underlying118 Try.underlying26 (h_pushL _ _ _ hlm1 |>.trans R.lmap) hno ⟨(addr + c) / 4096, hh.size, D'.c1, List.replicate 4096 0⟩ rfl ?_
        simp -implicitDefEqProofs (disch := first | omega | (simp only [h_szP, h_szS]; done) | (simp only [h_szP, h_szS]; omega)) only [go_sem, Nat.reduceBEq, reduceCtorEq, Nat.reduceAdd, Int.reduceEq, Int.reduceLT, Int.reduceLE, Int.reduceMul, Int.reduceAdd, Int.reduceSub, reduceIte, Nat.reduceLeDiff, Nat.reduceLT, Nat.reduceMul, Nat.reduceSub, Int.reduceToNat, s29, Try.underlying75, Try.underlying22, sl22, ze5, by5, sz5, Try.underlying3, Try.underlying26, fo121_0, sh118, Try.underlying118, ze129, zc132, sd132, Try.underlying132, ar132, ht1]
        obtain ⟨h0, eh⟩ : ∃ h0, h0 = (hh.setIfInBounds D'.lm (.map (leafE (D'.es ++ [⟨(addr + c) / 4096, hh.size, D'.c1, List.replicate 4096 0⟩])) (D'.c1 + 1))).push (.cells (repV 4096 (.int .u8 0)).toArray 132 (0, 0)) := ⟨_, rfl⟩
        obtain ⟨D0, eD⟩ : ∃ D0 : StoreD, D0 = { D' with es := D'.es ++ [⟨(addr + c) / 4096, hh.size, D'.c1, List.replicate 4096 0⟩], c1 := D'.c1 + 1 } := ⟨_, rfl⟩
        have W0 := W.trans (wr_grow (lo := addr + c) (B := fun a => bs.getD (a - addr) 0) R (fun l hl q => hno l hl (by omega)) hno1 eh eD) (by omega) (Nat.le_refl _)
        rw [← eh]
        have R0 := W0.rep
        have hj0 : D'.es.length < D0.es.length := by rw [eD]; simp
        have hel : D0.es[D'.es.length] = ⟨(addr + c) / 4096, hh.size, D'.c1, List.replicate 4096 0⟩ := by simp [eD]
        have hlf := R0.leaf D0.es[D'.es.length] (List.getElem_mem hj0)
        have hvh0 : Vs h0 (.slice (some ⟨vb, vo, none⟩) bs.length cap0) encB 1 bs := hv.mono fun b hb => W0.old b (hv.blk_lt hb) (hd b hb)
        have hlb := hlf.1
        rw [hel] at hlb
        simp only at hlb
        refine copy_into (cs := flat encB ((bs.drop c).take sz)) sl22 rfl rfl ?_ hlb (flat_all encB_one _) ?_ ?_
        · have := Vw.srcMid hvh0 (i := c) (k := sz) (by omega) sz (cap0 - c)
          rw [show min sz (4096 - (addr + c) % 4096) = sz by omega]
          rw [flat_drop encB_len, flat_take encB_len, Nat.mul_one, Nat.mul_one] at this
          simpa using this
        · simp [encB_flat, hckl]; omega
        have hspl := spl_set (dat := List.replicate 4096 0) (ck := (bs.drop c).take sz) (at_ := (addr + c) % 4096) (by rw [hckl]; simp; omega)
        simp -implicitDefEqProofs (disch := first | omega | (simp only [h_szP, h_szS]; done) | (simp only [h_szP, h_szS]; omega)) only [go_sem, Nat.reduceBEq, reduceCtorEq, Nat.reduceAdd, Int.reduceEq, Int.reduceLT, Int.reduceLE, Int.reduceMul, Int.reduceAdd, Int.reduceSub, reduceIte, Nat.reduceLeDiff, Nat.reduceLT, Nat.reduceMul, Nat.reduceSub, Int.reduceToNat, s29, Try.underlying75, Try.underlying22, sl22, ze5, by5, sz5, Try.underlying3, Try.underlying26, fo121_0, sh118, Try.underlying118, ze129, zc132, sd132, Try.underlying132, ar132]
        rw [Nat.mul_one, hspl, show ((addr + c : Nat) : Int) / 4096 = (((addr + c) / 4096 : Nat) : Int) by omega]
        have R1 := R0.poke hj0 (dat := spl D0.es[D'.es.length].dat ((addr + c) % 4096) ((bs.drop c).take sz)) (by rw [spl_len (by rw [hckl, hlf.2.1]; omega)]; exact hlf.2.1) (spl_lt hlf.2.2.2.2 hcklt)
        have eh1 : D0.es[D'.es.length].blk = hh.size := by rw [hel]
        have ed1 : D0.es[D'.es.length].dat = List.replicate 4096 0 := by rw [hel]
        have R2 := R1
        rw [eh1, ed1] at R2
        refine FnK.use (mark_c ((addr + c) / 4096) R2 (by omega)) ?_
        intro x h3 hx
        obtain ⟨D3, M⟩ := hx
        have W3 := W0.trans (wr_piece (addr := addr + c) (k := sz) (B := fun a => bs.getD (a - addr) 0) R0 (by omega) (by omega) (by omega) hat hj0 (by rw [hel]) hckl hcklt hckB rfl rfl (by rw [eh1, ed1]; exact M)) (by omega) (by omega)
        simp -implicitDefEqProofs (disch := first | omega | (simp only [h_szP, h_szS]; done) | (simp only [h_szP, h_szS]; omega)) only [go_sem, Nat.reduceBEq, reduceCtorEq, Nat.reduceAdd, Int.reduceEq, Int.reduceLT, Int.reduceLE, Int.reduceMul, Int.reduceAdd, Int.reduceSub, reduceIte, Nat.reduceLeDiff, Nat.reduceLT, Nat.reduceMul, Nat.reduceSub, Int.reduceToNat, s29, Try.underlying75, Try.underlying22, sl22, ze5, by5, sz5, Try.underlying3, Try.underlying26, fo121_0, sh118, Try.underlying118, ze129, zc132, sd132, Try.underlying132, ar132]
        rw [Nat.add_assoc] at W3
        exact hfin h3 D3 W3
      · refine obK.use _ (look_some Try.underlying118 Try.underlying26 R.lmap hj e1 e2 true) ?_
        simp -implicitDefEqProofs (disch := first | omega | (simp only [h_szP, h_szS]; done) | (simp only [h_szP, h_szS]; omega)) only [go_sem, Nat.reduceBEq, reduceCtorEq, Nat.reduceAdd, Int.reduceEq, Int.reduceLT, Int.reduceLE, Int.reduceMul, Int.reduceAdd, Int.reduceSub, reduceIte, Nat.reduceLeDiff, Nat.reduceLT, Nat.reduceMul, Nat.reduceSub, Int.reduceToNat, s29, Try.underlying75, Try.underlying22, sl22, ze5, by5, sz5, Try.underlying3, Try.underlying26, fo121_0, sh118, Try.underlying118, ze129, zc132, sd132, Try.underlying132, ar132, ht1]
        have hlf := R.leaf D'.es[j] (List.getElem_mem hj)
        refine copy_into (cs := flat encB ((bs.drop c).take sz)) sl22 rfl rfl ?_ hlf.1 (flat_all encB_one _) ?_ ?_
        · have := Vw.srcMid hvh (i := c) (k := sz) (by omega) sz (cap0 - c)
          rw [show min sz (4096 - (addr + c) % 4096) = sz by omega]
          rw [flat_drop encB_len, flat_take encB_len, Nat.mul_one, Nat.mul_one] at this
          simpa using this
        · simp [encB_flat, hckl, hlf.2.1]; omega
        have hspl := spl_set (dat := D'.es[j].dat) (ck := (bs.drop c).take sz) (at_ := (addr + c) % 4096) (by rw [hckl, hlf.2.1]; omega)
        simp -implicitDefEqProofs (disch := first | omega | (simp only [h_szP, h_szS]; done) | (simp only [h_szP, h_szS]; omega)) only [go_sem, Nat.reduceBEq, reduceCtorEq, Nat.reduceAdd, Int.reduceEq, Int.reduceLT, Int.reduceLE, Int.reduceMul, Int.reduceAdd, Int.reduceSub, reduceIte, Nat.reduceLeDiff, Nat.reduceLT, Nat.reduceMul, Nat.reduceSub, Int.reduceToNat, s29, Try.underlying75, Try.underlying22, sl22, ze5, by5, sz5, Try.underlying3, Try.underlying26, fo121_0, sh118, Try.underlying118, ze129, zc132, sd132, Try.underlying132, ar132]
        rw [Nat.mul_one, hspl, show ((addr + c : Nat) : Int) / 4096 = (((addr + c) / 4096 : Nat) : Int) by omega]
        have R1 := R.poke hj (dat := spl D'.es[j].dat ((addr + c) % 4096) ((bs.drop c).take sz)) (by rw [spl_len (by rw [hckl, hlf.2.1]; omega)]; exact hlf.2.1) (spl_lt hlf.2.2.2.2 hcklt)
        refine FnK.use (mark_c ((addr + c) / 4096) R1 (by omega)) ?_
        intro x h3 hx
        obtain ⟨D3, M⟩ := hx
        have W3 := W.trans (wr_piece (addr := addr + c) (k := sz) (B := fun a => bs.getD (a - addr) 0) R (by omega) (by omega) (by omega) hat hj (by omega) hckl hcklt hckB rfl rfl M) (by omega) (by omega)
        simp -implicitDefEqProofs (disch := first | omega | (simp only [h_szP, h_szS]; done) | (simp only [h_szP, h_szS]; omega)) only [go_sem, Nat.reduceBEq, reduceCtorEq, Nat.reduceAdd, Int.reduceEq, Int.reduceLT, Int.reduceLE, Int.reduceMul, Int.reduceAdd, Int.reduceSub, reduceIte, Nat.reduceLeDiff, Nat.reduceLT, Nat.reduceMul, Nat.reduceSub, Int.reduceToNat, s29, Try.underlying75, Try.underlying22, sl22, ze5, by5, sz5, Try.underlying3, Try.underlying26, fo121_0, sh118, Try.underlying118, ze129, zc132, sd132, Try.underlying132, ar132]
        rw [Nat.add_assoc] at W3
        exact hfin h3 D3 W3
    · have hfin : Wr h hh p D D' addr (addr + bs.length) (fun a => bs.getD (a - addr) 0) := by
        rcases Nat.lt_or_ge c bs.length with q | q
        · exact W.far (by omega) (by omega)
        · rw [show bs.length = c by omega]; exact W
      rcases Nat.lt_or_ge c bs.length with q | q
      · have hdn : decide ((0 : Int) < ((bs.length - c : Nat) : Int)) = true := decide_eq_true (by omega)
        have hda : decide (((addr + c : Nat) : Int) < 274877906944) = false := decide_eq_false (by omega)
        simp -implicitDefEqProofs (disch := first | omega | (simp only [h_szP, h_szS]; done) | (simp only [h_szP, h_szS]; omega)) only [go_sem, Nat.reduceBEq, reduceCtorEq, Nat.reduceAdd, Int.reduceEq, Int.reduceLT, Int.reduceLE, Int.reduceMul, Int.reduceAdd, Int.reduceSub, reduceIte, Nat.reduceLeDiff, Nat.reduceLT, Nat.reduceMul, Nat.reduceSub, Int.reduceToNat, s29, Try.underlying75, Try.underlying22, sl22, ze5, by5, sz5, Try.underlying3, Try.underlying26, fo121_0, sh118, Try.underlying118, ze129, zc132, sd132, Try.underlying132, ar132, hdn, hda]
        exact ⟨D', hfin⟩
      · have hdn : decide ((0 : Int) < ((bs.length - c : Nat) : Int)) = false := decide_eq_false (by omega)
        simp -implicitDefEqProofs (disch := first | omega | (simp only [h_szP, h_szS]; done) | (simp only [h_szP, h_szS]; omega)) only [go_sem, Nat.reduceBEq, reduceCtorEq, Nat.reduceAdd, Int.reduceEq, Int.reduceLT, Int.reduceLE, Int.reduceMul, Int.reduceAdd, Int.reduceSub, reduceIte, Nat.reduceLeDiff, Nat.reduceLT, Nat.reduceMul, Nat.reduceSub, Int.reduceToNat, s29, Try.underlying75, Try.underlying22, sl22, ze5, by5, sz5, Try.underlying3, Try.underlying26, fo121_0, sh118, Try.underlying118, ze129, zc132, sd132, Try.underlying132, ar132, hdn]
        exact ⟨D', hfin⟩
end Go.SX.G
