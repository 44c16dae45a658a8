/- AtomSteps, the walk. No condition. -/
import Derived.Test.YtcnalkdgdbhedaaRefW
set_option linter.unusedVariables false
set_option linter.unusedSimpArgs false
namespace Go.SX.G
open Go Go.SX Go.Proofs
set_option maxRecDepth 100000
set_option maxHeartbeats 4000000
theorem ne_stop0 : (fun (x y : Operand) (a b c d e f : Int) => binV Try.prog .neq 64 x y (.agg #[.int .i64 a, .int .i64 b, .int .u64 c]) (.agg #[.int .i64 d, .int .i64 e, .int .u64 f])) = fun x y a b c d e f => some (.bool (!(decide (a = d) && ((decide (b = e) && (decide (c = f) && true)) && true)))) := by kernel_rfl
theorem ne_stop (x y : Operand) (a b c d e f : Int) : binV Try.prog .neq 64 x y (.agg #[.int .i64 a, .int .i64 b, .int .u64 c]) (.agg #[.int .i64 d, .int .i64 e, .int .u64 f]) = some (.bool (!(decide (a = d) && (decide (b = e) && decide (c = f))))) := by
  have := congrFun (congrFun (congrFun (congrFun (congrFun (congrFun (congrFun (congrFun ne_stop0 x) y) a) b) c) d) e) f
  rw [Bool.and_true, Bool.and_true] at this; exact this
theorem same_c {h : Heap} {v w : Value} {xs : List Nat} (hv : Vs h v encB 1 xs) (hw : Vs h w encB 1 xs) (hl : xs.length ≤ 1000000) :
    Fn Try.prog 34 [v, w] h fun x h' => x = .bool true ∧ h' = h := by
  obtain ⟨a0, cap0, e0, hcap0⟩ := hv.shape
  subst e0
  obtain ⟨a1, cap1, e1, hcap1⟩ := hw.shape
  subst e1
  refine Fn_c Try.func34 mixed c34 (by kernel_rfl) ?_; rw [r34]
  simp -implicitDefEqProofs (disch := first | omega | (simp only [h_szP, h_szS]; done) | (simp only [h_szP, h_szS]; omega)) only [go_sem, Nat.reduceBEq, reduceCtorEq, Nat.reduceAdd, Int.reduceEq, Int.reduceLT, Int.reduceLE, Int.reduceMul, Int.reduceAdd, Int.reduceSub, reduceIte, Nat.reduceLeDiff, Nat.reduceLT, Nat.reduceMul, Nat.reduceSub, Int.reduceToNat, s34, Try.underlying50, sl50, ze5, by5, sz5, Try.underlying3, sh5, Try.underlying5]
  obtain ⟨I, hI⟩ : ∃ I : Nat → Fr → Heap → Prop, I = fun k fr hh => hh = h ∧ ∃ (i : Nat), i + k = xs.length ∧
      fr = (((fr0.up 5 (.int .i64 i)).up 1 (.slice a1 xs.length cap1)).up 0 (.slice a0 xs.length cap0)) := ⟨_, rfl⟩
  refine LoopK.use I xs.length (by rw [hI]; exact ⟨rfl, 0, by omega, rfl⟩) ?_
  intro k fr hh hK
  rw [hI] at hK
  obtain ⟨e0, i, hk, hf⟩ := hK
  have e0 := e0.symm
  subst e0
  subst hf
  by_cases hi : i < xs.length
  · obtain ⟨vb, vo, cap', e1, hcap', hvb⟩ := hv.open hi
    cases e1
    obtain ⟨wb, wo, cap2, e2, hcap2, hwb⟩ := hw.open hi
    cases e2
    have hE : cellO (vo + i) h[vb]? = some (.int .u8 (xs[i] : Nat)) := by have := hv.field encB_len hi (j := 0) (by omega); simpa [encB] using this
    have hE2 : cellO (wo + i) h[wb]? = some (.int .u8 (xs[i] : Nat)) := by have := hw.field encB_len hi (j := 0) (by omega); simpa [encB] using this
    have hd : decide ((i : Int) < xs.length) = true := decide_eq_true (by omega)
    simp -implicitDefEqProofs (disch := first | omega | (simp only [h_szP, h_szS]; done) | (simp only [h_szP, h_szS]; omega)) only [go_sem, Nat.reduceBEq, reduceCtorEq, Nat.reduceAdd, Int.reduceEq, Int.reduceLT, Int.reduceLE, Int.reduceMul, Int.reduceAdd, Int.reduceSub, reduceIte, Nat.reduceLeDiff, Nat.reduceLT, Nat.reduceMul, Nat.reduceSub, Int.reduceToNat, s34, Try.underlying50, sl50, ze5, by5, sz5, Try.underlying3, sh5, Try.underlying5, hd, hE, hE2, Nat.mul_one]
    refine ⟨k - 1, by omega, ?_⟩
    rw [hI]
    exact ⟨rfl, i + 1, by omega, rfl⟩
  · have hd : decide ((i : Int) < xs.length) = false := decide_eq_false (by omega)
    simp -implicitDefEqProofs (disch := first | omega | (simp only [h_szP, h_szS]; done) | (simp only [h_szP, h_szS]; omega)) only [go_sem, Nat.reduceBEq, reduceCtorEq, Nat.reduceAdd, Int.reduceEq, Int.reduceLT, Int.reduceLE, Int.reduceMul, Int.reduceAdd, Int.reduceSub, reduceIte, Nat.reduceLeDiff, Nat.reduceLT, Nat.reduceMul, Nat.reduceSub, Int.reduceToNat, s34, Try.underlying50, sl50, ze5, by5, sz5, Try.underlying3, sh5, Try.underlying5, hd]
/-- an atomic instruction, as the law is handed it. -/
structure AAct where
  op : Int
  addr : Nat
  x : Nat
def encAA (a : AAct) : List Value := [.int .i64 a.op, .int .u64 a.addr, .int .u64 a.x]
theorem encAA_len (a : AAct) : (encAA a).length = 3 := rfl
theorem firstN_total (rs : List Reg) (a n p : Nat) : ∃ o, FirstN rs a n p o := by
  induction n with
  | zero => exact ⟨none, .none fun i hi => by omega⟩
  | succ n ih =>
    obtain ⟨o, F⟩ := ih
    cases F with
    | some i hi h1 h2 => exact ⟨_, .some i (by omega) h1 h2⟩
    | none h =>
      rcases Classical.em (okAt rs p (adr a n)) with q | q
      · exact ⟨none, .none fun i hi => by
          by_cases e : i = n
          · rw [e]; exact q
          · exact h i (by omega)⟩
      · exact ⟨_, .some n (by omega) q h⟩
theorem stepR_stop (n : Nat) (op : Int) (o1 o2 : Option Nat) (ha hn a x sx nx : Nat) : (stepR n op o1 o2 ha hn a x sx nx).sk ≠ 0 → (stepR n op o1 o2 ha hn a x sx nx).ha = 0 ∧ (stepR n op o1 o2 ha hn a x sx nx).hn = 0 ∧ (stepR n op o1 o2 ha hn a x sx nx).st = none := by
  unfold stepR stepC
  intro h
  repeat' split
  all_goals first | exact ⟨rfl, rfl, rfl⟩ | (exfalso; revert h; repeat' split; all_goals first | (intro h; exact h rfl) | contradiction)
theorem atomsteps_c {h : Heap} {v w : Value} {pl : List Nat} {cs : List AAct} (hv : Vs h v encB 1 pl) (hb : ∀ b ∈ pl, b < 256) (hw : Vs h w encAA 3 cs) (has : ∀ a ∈ cs, a.addr < 18446744073709551616 ∧ a.x < 18446744073709551616) :
    Fn Try.prog 10 [v, w] h fun r h' => r = .bool true ∧ ∀ b, b < h.size → h'[b]? = h[b]? := by
  obtain ⟨a1, cap1, e1, hcap1⟩ := hw.shape
  subst e1
  refine Fn_c Try.func10 mixed c10 (by kernel_rfl) ?_; rw [r10]
  simp -implicitDefEqProofs (disch := first | omega | (simp only [h_szP, h_szS]; done) | (simp only [h_szP, h_szS]; omega)) only [go_sem, Nat.reduceBEq, reduceCtorEq, Nat.reduceAdd, Int.reduceEq, Int.reduceLT, Int.reduceLE, Int.reduceMul, Int.reduceAdd, Int.reduceSub, reduceIte, Nat.reduceLeDiff, Nat.reduceLT, Nat.reduceMul, Nat.reduceSub, Int.reduceToNat, s10, zc62, sd62, sz62, Try.underlying31, Try.underlying69, sl69, ze71, by71, sz71, Try.underlying3, sh71, zc71, fo71_1, sh22, Try.underlying22, sh62, fo71_0, sh3, fo71_2, zc64, sz64, fo64_0, fo77_3, sz3, fo77_2, sz22, sh64, Try.underlying64, pl62_0, pl62_1, Try.underlying62, fo77_4, sh75]
  refine FnK.use (spaces_c hv hb) ?_
  intro z h1 ⟨s, k, sp, pv, M, ps, ez, B, hz, K1, hF, hk, nkm, nkr, hR, hkk⟩
  rw [ez]
  simp -implicitDefEqProofs (disch := first | omega | (simp only [h_szP, h_szS]; done) | (simp only [h_szP, h_szS]; omega)) only [go_sem, Nat.reduceBEq, reduceCtorEq, Nat.reduceAdd, Int.reduceEq, Int.reduceLT, Int.reduceLE, Int.reduceMul, Int.reduceAdd, Int.reduceSub, reduceIte, Nat.reduceLeDiff, Nat.reduceLT, Nat.reduceMul, Nat.reduceSub, Int.reduceToNat, s10, zc62, sd62, sz62, Try.underlying31, Try.underlying69, sl69, ze71, by71, sz71, Try.underlying3, sh71, zc71, fo71_1, sh22, Try.underlying22, sh62, fo71_0, sh3, fo71_2, zc64, sz64, fo64_0, fo77_3, sz3, fo77_2, sz22, sh64, Try.underlying64, pl62_0, pl62_1, Try.underlying62, fo77_4, sh75]
  refine FnK.val (answers_c _) ?_
  simp -implicitDefEqProofs (disch := first | omega | (simp only [h_szP, h_szS]; done) | (simp only [h_szP, h_szS]; omega)) only [go_sem, Nat.reduceBEq, reduceCtorEq, Nat.reduceAdd, Int.reduceEq, Int.reduceLT, Int.reduceLE, Int.reduceMul, Int.reduceAdd, Int.reduceSub, reduceIte, Nat.reduceLeDiff, Nat.reduceLT, Nat.reduceMul, Nat.reduceSub, Int.reduceToNat, s10, zc62, sd62, sz62, Try.underlying31, Try.underlying69, sl69, ze71, by71, sz71, Try.underlying3, sh71, zc71, fo71_1, sh22, Try.underlying22, sh62, fo71_0, sh3, fo71_2, zc64, sz64, fo64_0, fo77_3, sz3, fo77_2, sz22, sh64, Try.underlying64, pl62_0, pl62_1, Try.underlying62, fo77_4, sh75]
  have hkl := getElem?_lt hk
  have KH := Keeps.push h1 (.cells #[.int .u64 0, .int .i64 0] 62) (Nat.le_refl _)
  have nhm : ¬ mfoot s M h1.size := fun f => by have := B.mr.lt f; omega
  have nhr : ¬ rfoot sp pv ps h1.size := fun f => by have := B.rs.lt f; omega
  have hkh : k ≠ h1.size := by omega
  have hsz1 := K1.size
  have cM : memAt M = fun _ => 0 := funext hz
  obtain ⟨I, hI⟩ : ∃ I : Nat → Fr → Heap → Prop, I = fun q fr hh => ∃ (i ha hn : Nat) (M' : MemD), i + q = 60 ∧ i ≤ cs.length ∧ MR hh s M' ∧ RP hh sp pv ps (memAt M') (protL pl) M.rs ∧ M'.rs = M.rs ∧ hh[h1.size]? = some (.cells #[.int .u64 ha, .int .i64 hn] 62 (0, 0)) ∧ hh[k]? = some (hartO ha hn sp) ∧ (∀ b, rfoot sp pv ps b → ¬ mfoot s M' b) ∧ ¬ mfoot s M' k ∧ ¬ mfoot s M' h1.size ∧ Keeps h.size h hh ∧ (∀ b, mfoot s M' b → h.size ≤ b) ∧
      fr = (((((fr0.up 8 (.int .i64 i)).up 7 (ptr h1.size 0)).up 6 (ptr k 0)).up 5 (ptr s 0)).up 1 (.slice a1 cs.length cap1)) := ⟨_, rfl⟩
  refine LoopK.use I 60 (by
    rw [hI]
    refine ⟨0, 0, 0, M, rfl, by omega, B.mr.ext KH, ⟨by rw [cM]; exact B.rs.ext KH, B.len, B.prs, B.kq.pr, protL_le pl, fun y => by rw [hz]; omega⟩, rfl, h_pushE _ _ _ rfl, KH.at hk hkl, B.ap, nkm, nhm, K1.of_ext KH (Nat.le_refl _), hF, rfl⟩) ?_
  intro q fr hh hK
  rw [hI] at hK
  obtain ⟨i, ha, hn, M1, hq, hic, R1, P1, rs1, hH1, hk1, ap1, nk1, nh1, K2, hF1, hf⟩ := hK
  subst hf
  by_cases hi : i < cs.length ∧ i < 60
  · obtain ⟨hi, hi60⟩ := hi
    obtain ⟨wb, wo, cap', e1, hcap', hwb⟩ := hw.open hi
    cases e1
    obtain ⟨c, hc⟩ : ∃ c, c = cs[i] := ⟨_, rfl⟩
    have hE : cellsO (wo + i * 3) 3 h[wb]? = some [.int .i64 c.op, .int .u64 c.addr, .int .u64 c.x] := by rw [hc]; exact hw.elem encAA_len hi
    have hE' := K2.old wb hwb
    have hcb := has c (by rw [hc]; exact List.getElem_mem hi)
    have hd1 : decide ((i : Int) < cs.length) = true := decide_eq_true (by omega)
    have hd2 : decide ((i : Int) < 60) = true := decide_eq_true (by omega)
    have hl1 := getElem?_lt hH1
    have hl2 := getElem?_lt hk1
    have hl3 : wb < hh.size := by have := K2.size; omega
    have hm4 : (c.addr : Int) % 4 = ((c.addr % 4 : Nat) : Int) := by omega
    rcases Nat.lt_or_ge 0 (c.addr % 4) with hA | hA
    obtain ⟨A, eA⟩ : ∃ A : Nat, A = c.addr / 4 % 17000 := ⟨_, rfl⟩
    have hA2 : (c.addr : Int) / 4 % 17000 = A := by omega
    have hd3 : decide ((0 : Int) < ((c.addr % 4 : Nat) : Int)) = true := decide_eq_true (by omega)
    simp -implicitDefEqProofs (disch := first | omega | (simp only [h_szP, h_szS]; done) | (simp only [h_szP, h_szS]; omega)) only [go_sem, Nat.reduceBEq, reduceCtorEq, Nat.reduceAdd, Int.reduceEq, Int.reduceLT, Int.reduceLE, Int.reduceMul, Int.reduceAdd, Int.reduceSub, reduceIte, Nat.reduceLeDiff, Nat.reduceLT, Nat.reduceMul, Nat.reduceSub, Int.reduceToNat, s10, zc62, sd62, sz62, Try.underlying31, Try.underlying69, sl69, ze71, by71, sz71, Try.underlying3, sh71, zc71, fo71_1, sh22, Try.underlying22, sh62, fo71_0, sh3, fo71_2, zc64, sz64, fo64_0, fo77_3, sz3, fo77_2, sz22, sh64, Try.underlying64, pl62_0, pl62_1, Try.underlying62, fo77_4, sh75, hd1, hd2, hE', hE, hm4, hd3, hA2, hH1]
    rotate_left
    have hd3 : decide ((0 : Int) < ((c.addr % 4 : Nat) : Int)) = false := decide_eq_false (by omega)
    simp -implicitDefEqProofs (disch := first | omega | (simp only [h_szP, h_szS]; done) | (simp only [h_szP, h_szS]; omega)) only [go_sem, Nat.reduceBEq, reduceCtorEq, Nat.reduceAdd, Int.reduceEq, Int.reduceLT, Int.reduceLE, Int.reduceMul, Int.reduceAdd, Int.reduceSub, reduceIte, Nat.reduceLeDiff, Nat.reduceLT, Nat.reduceMul, Nat.reduceSub, Int.reduceToNat, s10, zc62, sd62, sz62, Try.underlying31, Try.underlying69, sl69, ze71, by71, sz71, Try.underlying3, sh71, zc71, fo71_1, sh22, Try.underlying22, sh62, fo71_0, sh3, fo71_2, zc64, sz64, fo64_0, fo77_3, sz3, fo77_2, sz22, sh64, Try.underlying64, pl62_0, pl62_1, Try.underlying62, fo77_4, sh75, hd1, hd2, hE', hE, hm4, hd3, hH1]
    obtain ⟨A, eA⟩ : ∃ A : Nat, A = c.addr := ⟨_, rfl⟩
    rw [← eA]
    all_goals
      have hA64 : A < 18446744073709551616 := by omega
      obtain ⟨n, hwn, hn48⟩ := width_nat c.op
      obtain ⟨o1, F1⟩ := firstN_total M.rs A n 2
      obtain ⟨o2, F2⟩ := firstN_total M.rs A n 1
      have hold : le (peekL M1 A n) < 18446744073709551616 := by
        have := le_lt (peekL M1 A n) (fun b hb => by
          simp only [peekL, List.mem_map] at hb
          obtain ⟨i, _, rfl⟩ := hb
          exact byteAt_lt R1.sr _)
        rw [peekL_len] at this
        have p8 : 256 ^ n ≤ 18446744073709551616 := by rcases hn48 with e | e | e <;> rw [e] <;> decide
        exact Nat.lt_of_lt_of_le this p8
      obtain ⟨o, hdo1, hdo2⟩ := do_nat c.op (le (peekL M1 A n)) c.x hold hcb.2
      have KP := fun ob : Obj => Keeps.push hh ob (Nat.le_refl _)
      refine FnK.use (step_c c.op A c.x ha hn n o1 o2 o (R1.ext (KP _)) hA64 hcb.2 hwn (by rw [rs1]; exact F1) (by rw [rs1]; exact F2) hdo1) ?_
      obtain ⟨t, et⟩ : ∃ t, t = stepR n c.op o1 o2 ha hn A c.x (sxN (le (peekL M1 A n)) n) (nxN o) := ⟨_, rfl⟩
      rw [← et]
      intro z h5 ⟨ez5, M5, g5, rs5, by5⟩
      have hc5 := g5.fx.old hh.size (by simp) (fun f => by have := R1.lt f; omega)
      rw [h_pushE _ _ _ rfl] at hc5
      have hH5 := g5.fx.old h1.size (by simp; omega) nh1
      rw [h_pushL _ _ _ hl1, hH1] at hH5
      have hk5 := g5.fx.old k (by simp; omega) nk1
      rw [h_pushL _ _ _ hl2, hk1] at hk5
      have m5 := getElem?_lt hc5
      have m6 := getElem?_lt hH5
      have m7 := getElem?_lt hk5
      rw [ez5]
      unfold stepT holdV stopV
      simp -implicitDefEqProofs (disch := first | omega | (simp only [h_szP, h_szS]; done) | (simp only [h_szP, h_szS]; omega)) only [go_sem, Nat.reduceBEq, reduceCtorEq, Nat.reduceAdd, Int.reduceEq, Int.reduceLT, Int.reduceLE, Int.reduceMul, Int.reduceAdd, Int.reduceSub, reduceIte, Nat.reduceLeDiff, Nat.reduceLT, Nat.reduceMul, Nat.reduceSub, Int.reduceToNat, s10, zc62, sd62, sz62, Try.underlying31, Try.underlying69, sl69, ze71, by71, sz71, Try.underlying3, sh71, zc71, fo71_1, sh22, Try.underlying22, sh62, fo71_0, sh3, fo71_2, zc64, sz64, fo64_0, fo77_3, sz3, fo77_2, sz22, sh64, Try.underlying64, pl62_0, pl62_1, Try.underlying62, fo77_4, sh75, hc5]
      have m8 := g5.fx.size
      simp only [Array.size_push] at m8
      obtain ⟨h6, e6⟩ : ∃ h6, h6 = (h5.push (.cells #[.int .u64 t.ha, .int .i64 t.hn] 62)).push (.cells #[.int .i64 t.sk, .int .i64 t.fk, .int .u64 t.fa] 64) := ⟨_, rfl⟩
      have KQ : Keeps h5.size h5 h6 := by rw [e6]; exact (Keeps.push _ _ (Nat.le_refl _)).push' (Nat.le_refl _)
      have sz6 : h6.size = h5.size + 2 := by rw [e6]; simp
      have hT6 : h6[h5.size]? = some (.cells #[.int .u64 t.ha, .int .i64 t.hn] 62 (0, 0)) := by rw [e6]; simp -implicitDefEqProofs (disch := first | omega | (simp only [h_szP, h_szS]; done) | (simp only [h_szP, h_szS]; omega)) only [go_sem, Nat.reduceBEq, reduceCtorEq, Nat.reduceAdd, Int.reduceEq, Int.reduceLT, Int.reduceLE, Int.reduceMul, Int.reduceAdd, Int.reduceSub, reduceIte, Nat.reduceLeDiff, Nat.reduceLT, Nat.reduceMul, Nat.reduceSub, Int.reduceToNat]
      have hS6 : h6[h5.size + 1]? = some (.cells #[.int .i64 t.sk, .int .i64 t.fk, .int .u64 t.fa] 64 (0, 0)) := by rw [e6]; simp -implicitDefEqProofs (disch := first | omega | (simp only [h_szP, h_szS]; done) | (simp only [h_szP, h_szS]; omega)) only [go_sem, Nat.reduceBEq, reduceCtorEq, Nat.reduceAdd, Int.reduceEq, Int.reduceLT, Int.reduceLE, Int.reduceMul, Int.reduceAdd, Int.reduceSub, reduceIte, Nat.reduceLeDiff, Nat.reduceLT, Nat.reduceMul, Nat.reduceSub, Int.reduceToNat]
      rw [← e6]
      have P6 : RP h6 sp pv ps (memAt M1) (protL pl) M.rs := P1.mono fun b f => by
        have := P1.R.lt f
        rw [KQ.old b (by omega), g5.fx.old b (by simp; omega) (ap1 b f), h_pushL _ _ _ this]
      have hk6 := KQ.at hk5 m7
      have hH6 := KQ.at hH5 m6
      have RA := ratomic_c P6 c.op A c.x ha hn n o1 o2 o hk6 nkr hA64 hcb.2 hwn F1 F2 hdo2
      have et' : stepR n c.op o1 o2 ha hn A c.x (sxN (le ((List.range n).map fun i => memAt M1 (A + i))) n) (nxN o) = t := et.symm
      rw [et'] at RA
      have szI : szP Try.prog 3 = some 1 := by kernel_rfl
      have szU : szP Try.prog 22 = some 1 := by kernel_rfl
      have hst0 : t.sk ≠ 0 → t.ha = 0 ∧ t.hn = 0 ∧ t.st = none := by rw [et]; exact stepR_stop _ _ _ _ _ _ _ _ _ _
      have sK2 := K2.size
      have foot5 : ∀ b, mfoot s M5 b → mfoot s M1 b ∨ hh.size < b := fun b f => by
        rcases g5.fx.ft b f with z | z
        · exact .inl z
        · right; simp at z; omega
      have nk5 : ¬ mfoot s M5 k := fun f => by rcases foot5 k f with z | z; exact nk1 z; omega
      have nh5 : ¬ mfoot s M5 h1.size := fun f => by rcases foot5 _ f with z | z; exact nh1 z; omega
      have ap5 : ∀ b, rfoot sp pv ps b → ¬ mfoot s M5 b := fun b f g => by
        rcases foot5 b g with z | z
        · exact ap1 b f z
        · have := P1.R.lt f; omega
      have em5 : memAt M5 = putB t.st A n (memAt M1) := funext by5
      have fin : ∀ (h7 hx : Heap), Aft h6 h7 k sp pv ps (memAt M1) (protL pl) M.rs A n t → (∀ b, b ≠ h1.size → b ≠ k → b ≠ h5.size → b < h7.size → hx[b]? = h7[b]?) → h7.size ≤ hx.size → hx[h1.size]? = some (.cells #[.int .u64 t.ha, .int .i64 t.hn] 62 (0, 0)) → hx[k]? = some (hartO t.ha t.hn sp) →
          ∃ k', k' < q ∧ I k' (((((fr0.up 8 (.int .i64 ((i : Int) + 1))).up 7 (ptr h1.size 0)).up 6 (ptr k 0)).up 5 (ptr s 0)).up 1 (.slice (some ⟨wb, wo, none⟩) cs.length cap1)) hx := by
        intro h7 hx W old sz e1 e2
        refine ⟨q - 1, by omega, ?_⟩
        rw [hI]
        have s7 := W.size
        refine ⟨i + 1, t.ha, t.hn, M5, by omega, by omega, g5.r.mono fun b f => ?_, ?_, rs5.trans rs1, e1, e2, ap5, nk5, nh5, ⟨by omega, fun b hb => ?_⟩, fun b f => ?_, rfl⟩
        · have := g5.r.lt f
          have z1 : ¬ rfoot sp pv ps b := fun g => ap5 b g f
          have z2 : b ≠ k := fun e => nk5 (e ▸ f)
          rw [old b (fun e => nh5 (e ▸ f)) z2 (by omega) (by omega), W.old b (by omega) z1 z2, KQ.old b (by omega)]
        · rw [em5]
          exact W.r.mono fun b f => by
            have z0 := W.r.R.lt f
            have z1 := P1.R.lt f
            exact old b (fun e => nhr (e ▸ f)) (fun e => nkr (e ▸ f)) (by omega) z0
        · have z1 : ¬ rfoot sp pv ps b := fun g => by have := hR b g; omega
          have z3 : ¬ mfoot s M1 b := fun g => by have := hF1 b g; omega
          rw [old b (by omega) (by omega) (by omega) (by omega), W.old b (by omega) z1 (by omega), KQ.old b (by omega), g5.fx.old b (by simp; omega) z3, h_pushL _ _ _ (by omega), K2.old b hb]
        · rcases foot5 b f with z | z
          · exact hF1 b z
          · omega
      by_cases hsk : t.sk = 0
      · skip
        refine FnK.use RA ?_
        intro z h7 ⟨ez7, W⟩
        have nfr : ∀ j, h5.size ≤ j → ¬ rfoot sp pv ps j := fun j hj f => by have := P6.R.lt f; have := P1.R.lt f; omega
        have hT7 := W.old h5.size (by omega) (nfr _ (Nat.le_refl _)) (by omega)
        rw [hT6] at hT7
        have hS7 := W.old (h5.size + 1) (by omega) (nfr _ (by omega)) (by omega)
        rw [hS6] at hS7
        have hH7 := W.old h1.size (by omega) nhr hkh.symm
        rw [hH6] at hH7
        have hk7 := W.hk
        have m9 := W.size
        have n1 := getElem?_lt hT7
        have n2 := getElem?_lt hS7
        have n3 := getElem?_lt hH7
        have n4 := getElem?_lt hk7
        have hk7' := hk7
        unfold hartO at hk7
        rw [ez7]
        unfold stopV
        have z0 : ((t.sk : Int) = 0) = True := eq_true (by omega)
        simp -implicitDefEqProofs (disch := first | omega | (simp only [h_szP, h_szS]; done) | (simp only [h_szP, h_szS]; omega)) only [go_sem, Nat.reduceBEq, reduceCtorEq, Nat.reduceAdd, Int.reduceEq, Int.reduceLT, Int.reduceLE, Int.reduceMul, Int.reduceAdd, Int.reduceSub, reduceIte, Nat.reduceLeDiff, Nat.reduceLT, Nat.reduceMul, Nat.reduceSub, Int.reduceToNat, s10, zc62, sd62, sz62, Try.underlying31, Try.underlying69, sl69, ze71, by71, sz71, Try.underlying3, sh71, zc71, fo71_1, sh22, Try.underlying22, sh62, fo71_0, sh3, fo71_2, zc64, sz64, fo64_0, fo77_3, sz3, fo77_2, sz22, sh64, Try.underlying64, pl62_0, pl62_1, Try.underlying62, fo77_4, sh75, hT7, hS7, hH7, hk7, z0, ne_stop, ne_hold, decide_true, Bool.and_true, Bool.not_true]
        refine fin h7 _ W (fun b q1 q2 q3 q4 => ?_) (by simp) ?_ ?_
        · rw [h_pushL _ _ _ (by simp; omega), h_setN _ _ _ _ q1]
        · rw [h_pushL _ _ _ (by simp; omega), h_setS _ _ _ n3]
        · rw [h_pushL _ _ _ (by simp; omega), h_setN _ _ _ _ hkh, hk7']
      · skip
        refine FnK.use RA ?_
        intro z h7 ⟨ez7, W⟩
        have nfr : ∀ j, h5.size ≤ j → ¬ rfoot sp pv ps j := fun j hj f => by have := P6.R.lt f; have := P1.R.lt f; omega
        have hT7 := W.old h5.size (by omega) (nfr _ (Nat.le_refl _)) (by omega)
        rw [hT6] at hT7
        have hS7 := W.old (h5.size + 1) (by omega) (nfr _ (by omega)) (by omega)
        rw [hS6] at hS7
        have hH7 := W.old h1.size (by omega) nhr hkh.symm
        rw [hH6] at hH7
        have hk7 := W.hk
        have m9 := W.size
        have n1 := getElem?_lt hT7
        have n2 := getElem?_lt hS7
        have n3 := getElem?_lt hH7
        have n4 := getElem?_lt hk7
        have hk7' := hk7
        unfold hartO at hk7
        rw [ez7]
        unfold stopV
        have z0 : ((t.sk : Int) = 0) = False := eq_false (by omega)
        simp -implicitDefEqProofs (disch := first | omega | (simp only [h_szP, h_szS]; done) | (simp only [h_szP, h_szS]; omega)) only [go_sem, Nat.reduceBEq, reduceCtorEq, Nat.reduceAdd, Int.reduceEq, Int.reduceLT, Int.reduceLE, Int.reduceMul, Int.reduceAdd, Int.reduceSub, reduceIte, Nat.reduceLeDiff, Nat.reduceLT, Nat.reduceMul, Nat.reduceSub, Int.reduceToNat, s10, zc62, sd62, sz62, Try.underlying31, Try.underlying69, sl69, ze71, by71, sz71, Try.underlying3, sh71, zc71, fo71_1, sh22, Try.underlying22, sh62, fo71_0, sh3, fo71_2, zc64, sz64, fo64_0, fo77_3, sz3, fo77_2, sz22, sh64, Try.underlying64, pl62_0, pl62_1, Try.underlying62, fo77_4, sh75, hT7, hS7, hH7, hk7, z0, ne_stop, ne_hold, decide_true, Bool.and_true, Bool.not_true]
        have tz := hst0 hsk
        refine fin h7 _ W (fun b q1 q2 q3 q4 => ?_) (by simp) ?_ ?_
        · rw [h_pushL _ _ _ (by simp; omega), h_setN _ _ _ _ q1, h_setN _ _ _ _ q2, h_setN _ _ _ _ q3]
        · rw [h_pushL _ _ _ (by simp; omega), h_setS _ _ _ (by simp; omega), tz.1, tz.2.1]; rfl
        · rw [h_pushL _ _ _ (by simp; omega), h_setN _ _ _ _ hkh, h_setS _ _ _ (by simp; omega), tz.1, tz.2.1]; rfl
  · have fin : ∀ (b : Nat), b < h.size → hh[b]? = h[b]? := K2.old
    rcases Nat.lt_or_ge i cs.length with hc | hc
    have hd1 : decide ((i : Int) < cs.length) = true := decide_eq_true (by omega)
    have hd2 : decide ((i : Int) < 60) = false := decide_eq_false (by omega)
    simp -implicitDefEqProofs (disch := first | omega | (simp only [h_szP, h_szS]; done) | (simp only [h_szP, h_szS]; omega)) only [go_sem, Nat.reduceBEq, reduceCtorEq, Nat.reduceAdd, Int.reduceEq, Int.reduceLT, Int.reduceLE, Int.reduceMul, Int.reduceAdd, Int.reduceSub, reduceIte, Nat.reduceLeDiff, Nat.reduceLT, Nat.reduceMul, Nat.reduceSub, Int.reduceToNat, s10, zc62, sd62, sz62, Try.underlying31, Try.underlying69, sl69, ze71, by71, sz71, Try.underlying3, sh71, zc71, fo71_1, sh22, Try.underlying22, sh62, fo71_0, sh3, fo71_2, zc64, sz64, fo64_0, fo77_3, sz3, fo77_2, sz22, sh64, Try.underlying64, pl62_0, pl62_1, Try.underlying62, fo77_4, sh75, hd1, hd2]
    rotate_left
    have hd1 : decide ((i : Int) < cs.length) = false := decide_eq_false (by omega)
    simp -implicitDefEqProofs (disch := first | omega | (simp only [h_szP, h_szS]; done) | (simp only [h_szP, h_szS]; omega)) only [go_sem, Nat.reduceBEq, reduceCtorEq, Nat.reduceAdd, Int.reduceEq, Int.reduceLT, Int.reduceLE, Int.reduceMul, Int.reduceAdd, Int.reduceSub, reduceIte, Nat.reduceLeDiff, Nat.reduceLT, Nat.reduceMul, Nat.reduceSub, Int.reduceToNat, s10, zc62, sd62, sz62, Try.underlying31, Try.underlying69, sl69, ze71, by71, sz71, Try.underlying3, sh71, zc71, fo71_1, sh22, Try.underlying22, sh62, fo71_0, sh3, fo71_2, zc64, sz64, fo64_0, fo77_3, sz3, fo77_2, sz22, sh64, Try.underlying64, pl62_0, pl62_1, Try.underlying62, fo77_4, sh75, hd1]
    all_goals
      obtain ⟨J, hJ⟩ : ∃ I : Nat → Fr → Heap → Prop, I = fun q fr h8 => ∃ (j : Nat), j + q = 3 ∧ Keeps hh.size hh h8 ∧
        fr = (((fr0.up 16 (.int .i64 j)).up 6 (ptr k 0)).up 5 (ptr s 0)) := ⟨_, rfl⟩
      refine LoopK.use J 3 (by rw [hJ]; exact ⟨0, rfl, Keeps.refl', rfl⟩) ?_
      intro q2 fr h8 hK
      rw [hJ] at hK
      obtain ⟨j, hj, K8, hf⟩ := hK
      subst hf
      have R8 := R1.ext K8
      have P8 := P1.ext K8
      have hl2 := getElem?_lt hk1
      have hk8 := K8.at hk1 hl2
      by_cases hj3 : j < 3
      · have hd3 : decide ((j : Int) < 3) = true := decide_eq_true (by omega)
        obtain ⟨N, hN⟩ : ∃ N : Nat, N = (j + 1) * 4096 := ⟨_, rfl⟩
        have hA : ((j : Int) + 1) * 4096 = N := by omega
        have hl8 := getElem?_lt hk8
        have hk8' := hk8
        unfold hartO at hk8'
        simp -implicitDefEqProofs (disch := first | omega | (simp only [h_szP, h_szS]; done) | (simp only [h_szP, h_szS]; omega)) only [go_sem, Nat.reduceBEq, reduceCtorEq, Nat.reduceAdd, Int.reduceEq, Int.reduceLT, Int.reduceLE, Int.reduceMul, Int.reduceAdd, Int.reduceSub, reduceIte, Nat.reduceLeDiff, Nat.reduceLT, Nat.reduceMul, Nat.reduceSub, Int.reduceToNat, s10, zc62, sd62, sz62, Try.underlying31, Try.underlying69, sl69, ze71, by71, sz71, Try.underlying3, sh71, zc71, fo71_1, sh22, Try.underlying22, sh62, fo71_0, sh3, fo71_2, zc64, sz64, fo64_0, fo77_3, sz3, fo77_2, sz22, sh64, Try.underlying64, pl62_0, pl62_1, Try.underlying62, fo77_4, sh75, hd3, hA, hk8']
        refine ⟨?_, ?_⟩
        all_goals
          refine FnK.use (mpeek_c N 4096 R8 (by omega) (by omega) (by omega)) ?_
          intro y h9 ⟨S9, K9⟩
          have hk9 := K9.at hk8' hl8
          have hl9 := getElem?_lt hk9
          have P9 := P8.ext K9
          simp -implicitDefEqProofs (disch := first | omega | (simp only [h_szP, h_szS]; done) | (simp only [h_szP, h_szS]; omega)) only [go_sem, Nat.reduceBEq, reduceCtorEq, Nat.reduceAdd, Int.reduceEq, Int.reduceLT, Int.reduceLE, Int.reduceMul, Int.reduceAdd, Int.reduceSub, reduceIte, Nat.reduceLeDiff, Nat.reduceLT, Nat.reduceMul, Nat.reduceSub, Int.reduceToNat, s10, zc62, sd62, sz62, Try.underlying31, Try.underlying69, sl69, ze71, by71, sz71, Try.underlying3, sh71, zc71, fo71_1, sh22, Try.underlying22, sh62, fo71_0, sh3, fo71_2, zc64, sz64, fo64_0, fo77_3, sz3, fo77_2, sz22, sh64, Try.underlying64, pl62_0, pl62_1, Try.underlying62, fo77_4, sh75, hk9, hA]
          refine FnK.use (rbytes_c P9 N 4096 (by omega) (by omega)) ?_
          intro z h10 ⟨S10, K10⟩
          have S11 := S9.vs.ext K10
          simp -implicitDefEqProofs (disch := first | omega | (simp only [h_szP, h_szS]; done) | (simp only [h_szP, h_szS]; omega)) only [go_sem, Nat.reduceBEq, reduceCtorEq, Nat.reduceAdd, Int.reduceEq, Int.reduceLT, Int.reduceLE, Int.reduceMul, Int.reduceAdd, Int.reduceSub, reduceIte, Nat.reduceLeDiff, Nat.reduceLT, Nat.reduceMul, Nat.reduceSub, Int.reduceToNat, s10, zc62, sd62, sz62, Try.underlying31, Try.underlying69, sl69, ze71, by71, sz71, Try.underlying3, sh71, zc71, fo71_1, sh22, Try.underlying22, sh62, fo71_0, sh3, fo71_2, zc64, sz64, fo64_0, fo77_3, sz3, fo77_2, sz22, sh64, Try.underlying64, pl62_0, pl62_1, Try.underlying62, fo77_4, sh75]
          refine FnK.val (same_c S11 S10.vs (by rw [peekL_len]; omega)) ?_
          simp -implicitDefEqProofs (disch := first | omega | (simp only [h_szP, h_szS]; done) | (simp only [h_szP, h_szS]; omega)) only [go_sem, Nat.reduceBEq, reduceCtorEq, Nat.reduceAdd, Int.reduceEq, Int.reduceLT, Int.reduceLE, Int.reduceMul, Int.reduceAdd, Int.reduceSub, reduceIte, Nat.reduceLeDiff, Nat.reduceLT, Nat.reduceMul, Nat.reduceSub, Int.reduceToNat, s10, zc62, sd62, sz62, Try.underlying31, Try.underlying69, sl69, ze71, by71, sz71, Try.underlying3, sh71, zc71, fo71_1, sh22, Try.underlying22, sh62, fo71_0, sh3, fo71_2, zc64, sz64, fo64_0, fo77_3, sz3, fo77_2, sz22, sh64, Try.underlying64, pl62_0, pl62_1, Try.underlying62, fo77_4, sh75]
          refine ⟨q2 - 1, by omega, ?_⟩
          rw [hJ]
          exact ⟨j + 1, by omega, (K8.of_ext K9 (Nat.le_refl _)).of_ext K10 (Nat.le_refl _), rfl⟩
      · have hd3 : decide ((j : Int) < 3) = false := decide_eq_false (by omega)
        simp -implicitDefEqProofs (disch := first | omega | (simp only [h_szP, h_szS]; done) | (simp only [h_szP, h_szS]; omega)) only [go_sem, Nat.reduceBEq, reduceCtorEq, Nat.reduceAdd, Int.reduceEq, Int.reduceLT, Int.reduceLE, Int.reduceMul, Int.reduceAdd, Int.reduceSub, reduceIte, Nat.reduceLeDiff, Nat.reduceLT, Nat.reduceMul, Nat.reduceSub, Int.reduceToNat, s10, zc62, sd62, sz62, Try.underlying31, Try.underlying69, sl69, ze71, by71, sz71, Try.underlying3, sh71, zc71, fo71_1, sh22, Try.underlying22, sh62, fo71_0, sh3, fo71_2, zc64, sz64, fo64_0, fo77_3, sz3, fo77_2, sz22, sh64, Try.underlying64, pl62_0, pl62_1, Try.underlying62, fo77_4, sh75, hd3]
        have sK2 := K2.size
        exact fun b hb => (K8.old b (by omega)).trans (fin b hb)
end Go.SX.G
