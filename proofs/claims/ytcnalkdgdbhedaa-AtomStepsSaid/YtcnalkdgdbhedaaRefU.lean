/- The reference's space, byte by byte: where a page is, what it may. No condition but on sizes. -/
import Derived.Test.YtcnalkdgdbhedaaRefT
set_option linter.unusedVariables false
set_option linter.unusedSimpArgs false
namespace Go.SX.G
open Go Go.SX Go.Proofs
set_option maxRecDepth 100000
set_option maxHeartbeats 2000000
theorem rat_c {h : Heap} {sp : Nat} {pv : Value} {ps : List Pg} {C : Nat → Nat} (R : RS h sp pv ps C) (hl : ps.length = 3) (no : Nat) (hno : no < 18446744073709551616) :
    Fn Try.prog 92 [ptr sp 0, .int .u64 no] h fun x h' => (∃ low : Nat, x = .tuple #[.int .i64 low, .bool (decide (1 ≤ no ∧ no ≤ 3))] ∧ (1 ≤ no ∧ no ≤ 3 → low + 1 = no)) ∧ h' = h := by
  have ht := R.top
  obtain ⟨vb, vo, cap, e1, hcap, hvb⟩ := R.vs.open (i := 0) (by omega)
  rw [hl] at e1
  subst e1
  have hsp := getElem?_lt ht
  have hE : ∀ j, j < 3 → cellO (vo + j * 3) h[vb]? = some (.int .u64 (j + 1 : Nat)) := fun j hj => by
    have h1 := R.vs.field encPg_len (i := j) (j := 0) (by omega) (by omega)
    have h2 := R.nos j (by omega)
    rw [Nat.add_zero] at h1
    rw [h1, ← h2]; rfl
  refine Fn_c Try.func92 mixed c92 (by kernel_rfl) ?_; rw [r92]
  simp -implicitDefEqProofs (disch := first | omega | (simp only [h_szP, h_szS]; done) | (simp only [h_szP, h_szS]; omega)) only [go_sem, Nat.reduceBEq, reduceCtorEq, Nat.reduceAdd, Int.reduceEq, Int.reduceLT, Int.reduceLE, Int.reduceMul, Int.reduceAdd, Int.reduceSub, reduceIte, Nat.reduceLeDiff, Nat.reduceLT, Nat.reduceMul, Nat.reduceSub, Int.reduceToNat, s92, fo126_0, sh124, Try.underlying124, sl124, ze129, by129, sz129, Try.underlying3, fo129_0, sh22, Try.underlying22, ht]
  obtain ⟨I, hI⟩ : ∃ I : Nat → Fr → Heap → Prop, I = fun k fr hh => hh = h ∧ ∃ (low high : Nat), low + k = high ∧ high ≤ 3 ∧ (low = 0 ∨ low < no) ∧ (high = 3 ∨ no ≤ high + 1) ∧
      fr = ((((fr0.up 7 (.int .i64 high)).up 6 (.int .i64 low)).up 1 (.int .u64 no)).up 0 (ptr sp 0)) := ⟨_, rfl⟩
  refine LoopK.use I 3 (by rw [hI]; exact ⟨rfl, 0, 3, rfl, by omega, by omega, by omega, rfl⟩) ?_
  intro k fr hh hK
  rw [hI] at hK
  obtain ⟨e0, low, high, hk, h3, hlo, hhi, hf⟩ := hK
  have e0 := e0.symm
  subst e0
  subst hf
  by_cases hlh : low < high
  · obtain ⟨m, hm⟩ : ∃ m : Nat, m = (low + high) / 2 := ⟨_, rfl⟩
    have hm2 : ((low : Int) + high) / 2 = m := by omega
    have hd : decide ((low : Int) < high) = true := decide_eq_true (by omega)
    have hEm := hE m (by omega)
    simp -implicitDefEqProofs (disch := first | omega | (simp only [h_szP, h_szS]; done) | (simp only [h_szP, h_szS]; omega)) only [go_sem, Nat.reduceBEq, reduceCtorEq, Nat.reduceAdd, Int.reduceEq, Int.reduceLT, Int.reduceLE, Int.reduceMul, Int.reduceAdd, Int.reduceSub, reduceIte, Nat.reduceLeDiff, Nat.reduceLT, Nat.reduceMul, Nat.reduceSub, Int.reduceToNat, s92, fo126_0, sh124, Try.underlying124, sl124, ze129, by129, sz129, Try.underlying3, fo129_0, sh22, Try.underlying22, hd, hm2, ht, hEm]
    refine ⟨fun q => ⟨high - (m + 1), by omega, ?_⟩, fun q => ⟨m - low, by omega, ?_⟩⟩
    · rw [hI]
      exact ⟨rfl, m + 1, high, by omega, by omega, .inr (by omega), hhi, rfl⟩
    · rw [hI]
      exact ⟨rfl, low, m, by omega, by omega, hlo, .inr (by omega), rfl⟩
  · have hd : decide ((low : Int) < high) = false := decide_eq_false (by omega)
    by_cases hl3 : low < 3
    · have hd2 : ((low : Int) < 3) = True := eq_true (by omega)
      have hd3 : decide ((low : Int) < 3) = true := decide_eq_true (by omega)
      have hEl := hE low hl3
      simp -implicitDefEqProofs (disch := first | omega | (simp only [h_szP, h_szS]; done) | (simp only [h_szP, h_szS]; omega)) only [go_sem, Nat.reduceBEq, reduceCtorEq, Nat.reduceAdd, Int.reduceEq, Int.reduceLT, Int.reduceLE, Int.reduceMul, Int.reduceAdd, Int.reduceSub, reduceIte, Nat.reduceLeDiff, Nat.reduceLT, Nat.reduceMul, Nat.reduceSub, Int.reduceToNat, s92, fo126_0, sh124, Try.underlying124, sl124, ze129, by129, sz129, Try.underlying3, fo129_0, sh22, Try.underlying22, hd, ht, hd2, hd3, hEl]
      refine ⟨low, ?_, by omega⟩
      have e9 : decide (((low + 1 : Nat) : Int) = no) = decide (1 ≤ no ∧ no ≤ 3) := decide_eq_decide.2 (by omega)
      rw [e9]
    · have hd2 : ((low : Int) < 3) = False := eq_false (by omega)
      have hd3 : decide ((low : Int) < 3) = false := decide_eq_false (by omega)
      simp -implicitDefEqProofs (disch := first | omega | (simp only [h_szP, h_szS]; done) | (simp only [h_szP, h_szS]; omega)) only [go_sem, Nat.reduceBEq, reduceCtorEq, Nat.reduceAdd, Int.reduceEq, Int.reduceLT, Int.reduceLE, Int.reduceMul, Int.reduceAdd, Int.reduceSub, reduceIte, Nat.reduceLeDiff, Nat.reduceLT, Nat.reduceMul, Nat.reduceSub, Int.reduceToNat, s92, fo126_0, sh124, Try.underlying124, sl124, ze129, by129, sz129, Try.underlying3, fo129_0, sh22, Try.underlying22, hd, ht, hd2, hd3]
      exact ⟨low, by rw [decide_eq_false (by omega)], by omega⟩
theorem kP_some {P : Nat → Nat} {y : Nat} (h : 4096 ≤ y ∧ y < 16384) : kP P 3 y = some (P (y / 4096 - 1)) := by unfold kP; rw [if_pos (by omega)]
theorem kP_none {P : Nat → Nat} {y : Nat} (h : ¬ (4096 ≤ y ∧ y < 16384)) : kP P 3 y = none := by unfold kP; rw [if_neg (by omega)]
def protI (P : Nat → Nat) (y : Nat) : Int := match kP P 3 y with | some q => q | none => -1
theorem rprot_c {h : Heap} {sp : Nat} {pv : Value} {ps : List Pg} {C P : Nat → Nat} (R : RS h sp pv ps C) (hl : ps.length = 3) (hp : ∀ i (hi : i < ps.length), ps[i].prot = P i) (a : Nat) (ha : a < 18446744073709551616) :
    Fn Try.prog 98 [ptr sp 0, .int .u64 a] h fun x h' => x = .int .i64 (protI P a) ∧ h' = h := by
  have ht := R.top
  have hq : (a : Int) / 4096 = ((a / 4096 : Nat) : Int) := by omega
  obtain ⟨vb, vo, cap, e1, hcap, hvb⟩ := R.vs.open (i := 0) (by omega)
  rw [hl] at e1
  subst e1
  refine Fn_c Try.func98 mixed c98 (by kernel_rfl) ?_; rw [r98]
  simp -implicitDefEqProofs (disch := first | omega | (simp only [h_szP, h_szS]; done) | (simp only [h_szP, h_szS]; omega)) only [go_sem, Nat.reduceBEq, reduceCtorEq, Nat.reduceAdd, Int.reduceEq, Int.reduceLT, Int.reduceLE, Int.reduceMul, Int.reduceAdd, Int.reduceSub, reduceIte, Nat.reduceLeDiff, Nat.reduceLT, Nat.reduceMul, Nat.reduceSub, Int.reduceToNat, s98, Try.underlying22, fo126_0, sh124, sl124, ze129, by129, sz129, fo129_1, sh3, hq]
  refine FnK.use (rat_c R hl (a / 4096) (by omega)) ?_
  intro x h1 ⟨⟨low, e1, e2⟩, e3⟩
  rw [e1, e3]
  by_cases hr : 4096 ≤ a ∧ a < 16384
  · have hd : decide (1 ≤ a / 4096 ∧ a / 4096 ≤ 3) = true := decide_eq_true (by omega)
    have e2 := e2 (by omega)
    have hE := R.vs.field encPg_len (i := low) (j := 1) (by omega) (by omega)
    have hE2 : (encPg ps[low])[1]? = some (.int .i64 (P (a / 4096 - 1))) := by
      have : a / 4096 - 1 = low := by omega
      rw [this, ← hp low (by omega)]; rfl
    rw [hE2] at hE
    have hd2 : ((low : Int) < 3) = True := eq_true (by omega)
    rw [hd]
    simp -implicitDefEqProofs (disch := first | omega | (simp only [h_szP, h_szS]; done) | (simp only [h_szP, h_szS]; omega)) only [go_sem, Nat.reduceBEq, reduceCtorEq, Nat.reduceAdd, Int.reduceEq, Int.reduceLT, Int.reduceLE, Int.reduceMul, Int.reduceAdd, Int.reduceSub, reduceIte, Nat.reduceLeDiff, Nat.reduceLT, Nat.reduceMul, Nat.reduceSub, Int.reduceToNat, s98, Try.underlying22, fo126_0, sh124, sl124, ze129, by129, sz129, fo129_1, sh3, ht, hE, hd2]
    unfold protI
    rw [kP_some hr]
  · have hd : decide (1 ≤ a / 4096 ∧ a / 4096 ≤ 3) = false := decide_eq_false (by omega)
    rw [hd]
    simp -implicitDefEqProofs (disch := first | omega | (simp only [h_szP, h_szS]; done) | (simp only [h_szP, h_szS]; omega)) only [go_sem, Nat.reduceBEq, reduceCtorEq, Nat.reduceAdd, Int.reduceEq, Int.reduceLT, Int.reduceLE, Int.reduceMul, Int.reduceAdd, Int.reduceSub, reduceIte, Nat.reduceLeDiff, Nat.reduceLT, Nat.reduceMul, Nat.reduceSub, Int.reduceToNat, s98, Try.underlying22, fo126_0, sh124, sl124, ze129, by129, sz129, fo129_1, sh3, ht]
    unfold protI
    rw [kP_none hr]
theorem rfirst_c {h : Heap} {sp : Nat} {pv : Value} {ps : List Pg} {C P : Nat → Nat} {rs : List Reg} (R : RS h sp pv ps C) (hl : ps.length = 3) (hp : ∀ i (hi : i < ps.length), ps[i].prot = P i) (hrs : ∀ y, protAt rs y = kP P 3 y) (hP : ∀ i, P i ≤ 7) (a n prot : Nat) (ha : a < 18446744073709551616) (hn : n ≤ 8) (hpr : prot ≤ 7) :
    Fn Try.prog 90 [ptr sp 0, .int .u64 a, .int .i64 n, .int .i64 prot] h fun x h' => (∃ o, x = placeV o ∧ FirstN rs a n prot o) ∧ h' = h := by
  refine Fn_c Try.func90 mixed c90 (by kernel_rfl) ?_; rw [r90]
  simp -implicitDefEqProofs (disch := first | omega | (simp only [h_szP, h_szS]; done) | (simp only [h_szP, h_szS]; omega)) only [go_sem, Nat.reduceBEq, reduceCtorEq, Nat.reduceAdd, Int.reduceEq, Int.reduceLT, Int.reduceLE, Int.reduceMul, Int.reduceAdd, Int.reduceSub, reduceIte, Nat.reduceLeDiff, Nat.reduceLT, Nat.reduceMul, Nat.reduceSub, Int.reduceToNat, s90, Try.underlying3, Try.underlying22]
  obtain ⟨I, hI⟩ : ∃ I : Nat → Fr → Heap → Prop, I = fun k fr hh => hh = h ∧ ∃ (i : Nat), i + k = n ∧ (∀ j, j < i → okAt rs prot (adr a j)) ∧
      fr = (((((fr0.up 10 (.int .i64 i)).up 3 (.int .i64 prot)).up 2 (.int .i64 n)).up 1 (.int .u64 a)).up 0 (ptr sp 0)) := ⟨_, rfl⟩
  refine LoopK.use I n (by rw [hI]; exact ⟨rfl, 0, by omega, fun j hj => by omega, rfl⟩) ?_
  intro k fr hh hK
  rw [hI] at hK
  obtain ⟨e0, i, hk, hok, hf⟩ := hK
  have e0 := e0.symm
  subst e0
  subst hf
  by_cases hi : i < n
  · have hdi : decide ((i : Int) < n) = true := decide_eq_true (by omega)
    have hw : IntKind.u64.wrap ((a : Int) + i) = ((adr a i : Nat) : Int) := by rw [wrap_u64]; unfold adr; omega
    have had : adr a i < 18446744073709551616 := by unfold adr; omega
    simp -implicitDefEqProofs (disch := first | omega | (simp only [h_szP, h_szS]; done) | (simp only [h_szP, h_szS]; omega)) only [go_sem, Nat.reduceBEq, reduceCtorEq, Nat.reduceAdd, Int.reduceEq, Int.reduceLT, Int.reduceLE, Int.reduceMul, Int.reduceAdd, Int.reduceSub, reduceIte, Nat.reduceLeDiff, Nat.reduceLT, Nat.reduceMul, Nat.reduceSub, Int.reduceToNat, s90, Try.underlying3, Try.underlying22, hdi, hw]
    refine FnK.use (rprot_c R hl hp (adr a i) had) ?_
    intro x h1 ⟨e1, e2⟩
    rw [e1, e2]
    unfold protI
    cases hq : kP P 3 (adr a i) with
    | none =>
      simp only
      simp -implicitDefEqProofs (disch := first | omega | (simp only [h_szP, h_szS]; done) | (simp only [h_szP, h_szS]; omega)) only [go_sem, Nat.reduceBEq, reduceCtorEq, Nat.reduceAdd, Int.reduceEq, Int.reduceLT, Int.reduceLE, Int.reduceMul, Int.reduceAdd, Int.reduceSub, reduceIte, Nat.reduceLeDiff, Nat.reduceLT, Nat.reduceMul, Nat.reduceSub, Int.reduceToNat, s90, Try.underlying3, Try.underlying22, hw]
      refine ⟨some (adr a i), rfl, .some i hi (fun z => ?_) hok⟩
      obtain ⟨q, z1, z2⟩ := okAt_iff.1 z
      rw [hrs, hq] at z1; cases z1
    | some q =>
      simp only
      have hq7 : q ≤ 7 := by
        unfold kP at hq
        split at hq
        · cases hq; exact hP _
        · cases hq
      have hbit := bitI_and_i64 q prot (by omega) (by omega)
      have hneg : decide ((q : Int) < 0) = false := decide_eq_false (by omega)
      simp -implicitDefEqProofs (disch := first | omega | (simp only [h_szP, h_szS]; done) | (simp only [h_szP, h_szS]; omega)) only [go_sem, Nat.reduceBEq, reduceCtorEq, Nat.reduceAdd, Int.reduceEq, Int.reduceLT, Int.reduceLE, Int.reduceMul, Int.reduceAdd, Int.reduceSub, reduceIte, Nat.reduceLeDiff, Nat.reduceLT, Nat.reduceMul, Nat.reduceSub, Int.reduceToNat, s90, Try.underlying3, Try.underlying22, hbit, hw, hneg]
      refine ⟨fun z => ?_, fun z => ?_⟩
      · have z' : q &&& prot = prot := by exact_mod_cast z
        refine ⟨k - 1, by omega, ?_⟩
        rw [hI]
        refine ⟨rfl, i + 1, by omega, fun j hj => ?_, rfl⟩
        by_cases hji : j = i
        · subst hji; exact okAt_iff.2 ⟨q, by rw [hrs, hq], z'⟩
        · exact hok j (by omega)
      · refine ⟨some (adr a i), rfl, .some i hi (fun w => z ?_) hok⟩
        obtain ⟨q', z1, z2⟩ := okAt_iff.1 w
        rw [hrs, hq] at z1; cases z1
        exact_mod_cast z2
  · have hdi : decide ((i : Int) < n) = false := decide_eq_false (by omega)
    have e1 : i = n := by omega
    subst e1
    simp -implicitDefEqProofs (disch := first | omega | (simp only [h_szP, h_szS]; done) | (simp only [h_szP, h_szS]; omega)) only [go_sem, Nat.reduceBEq, reduceCtorEq, Nat.reduceAdd, Int.reduceEq, Int.reduceLT, Int.reduceLE, Int.reduceMul, Int.reduceAdd, Int.reduceSub, reduceIte, Nat.reduceLeDiff, Nat.reduceLT, Nat.reduceMul, Nat.reduceSub, Int.reduceToNat, s90, Try.underlying3, Try.underlying22, hdi]
    exact ⟨none, rfl, .none hok⟩
theorem cell_map (n i : Nat) (hi : i < n) (f : Nat → Value) (e : Nat) (z : Nat × Nat) : cellO i (some (.cells ((List.range n).map f).toArray e z)) = some (f i) := by
  show ((List.range n).map f).toArray[i]? = _
  simp [hi]
theorem set_map (n i : Nat) (hi : i < n) (f g : Nat → Value) (v : Value) (hv : g i = v) (hg : ∀ j, j < n → j ≠ i → g j = f j) : setL ((List.range n).map f) i [v] = (List.range n).map g := by
  rw [setL_eq _ _ _ (by simp; omega)]
  apply List.ext_getElem
  · simp; omega
  · intro j h1 h2
    simp only [List.length_map, List.length_range] at h2
    simp only [List.getElem_append, List.length_append, List.length_take, List.length_map, List.length_range, List.length_singleton, Nat.min_eq_left (Nat.le_of_lt hi), List.getElem_take, List.getElem_drop, List.getElem_map, List.getElem_range, List.getElem_singleton]
    by_cases q : j < i
    · rw [dif_pos (by omega), dif_pos q, hg j h2 (by omega)]
    · by_cases q2 : j = i
      · subst q2; rw [dif_pos (by omega), dif_neg (by omega), hv]
      · rw [dif_neg (by omega), hg j h2 q2]; congr 1; omega
theorem wr_page {h : Heap} {b n i e : Nat} {f g : Nat → Value} {v : Value} (hb : h[b]? = some (.cells ((List.range n).map f).toArray e (0, 0))) (hi : i < n) (ho : [v].all one = true) (h1 : g i = v) (h2 : ∀ j, j < n → j ≠ i → g j = f j) :
    wrO h b i [v] h[b]? = some (h.setIfInBounds b (.cells ((List.range n).map g).toArray e (0, 0))) := by
  rw [hb, h_wrO, if_pos ⟨by simp; omega, ho⟩, List.toList_toArray, set_map n i hi f g v h1 h2]
theorem page_congr {n e : Nat} {z : Nat × Nat} {f g : Nat → Value} (hh : ∀ i, i < n → f i = g i) : (Obj.cells ((List.range n).map f).toArray e z) = .cells ((List.range n).map g).toArray e z := by
  have : (List.range n).map f = (List.range n).map g := List.map_congr_left fun i hi => hh i (List.mem_range.1 hi)
  rw [this]
theorem rget_in {h : Heap} {sp : Nat} {pv : Value} {ps : List Pg} {C : Nat → Nat} (R : RS h sp pv ps C) (hl : ps.length = 3) (a : Nat) (ha : 4096 ≤ a ∧ a < 16384) :
    Fn Try.prog 68 [ptr sp 0, .int .u64 a] h fun x h' => x = .int .u8 (C a) ∧ h' = h := by
  have ht := R.top
  have hq : (a : Int) / 4096 = ((a / 4096 : Nat) : Int) := by omega
  have hq2 : (a : Int) % 4096 = ((a % 4096 : Nat) : Int) := by omega
  obtain ⟨vb, vo, cap, e1, hcap, hvb⟩ := R.vs.open (i := 0) (by omega)
  rw [hl] at e1
  subst e1
  refine Fn_c Try.func68 mixed c68 (by kernel_rfl) ?_; rw [r68]
  simp -implicitDefEqProofs (disch := first | omega | (simp only [h_szP, h_szS]; done) | (simp only [h_szP, h_szS]; omega)) only [go_sem, Nat.reduceBEq, reduceCtorEq, Nat.reduceAdd, Int.reduceEq, Int.reduceLT, Int.reduceLE, Int.reduceMul, Int.reduceAdd, Int.reduceSub, reduceIte, Nat.reduceLeDiff, Nat.reduceLT, Nat.reduceMul, Nat.reduceSub, Int.reduceToNat, s68, Try.underlying22, fo126_0, sh124, sl124, ze129, by129, sz129, fo129_2, sh50, sl50, ze5, by5, sz5, sh5, hq]
  refine FnK.use (rat_c R hl (a / 4096) (by omega)) ?_
  intro x h1 ⟨⟨low, e1, e2⟩, e3⟩
  rw [e1, e3]
  have hd : decide (1 ≤ a / 4096 ∧ a / 4096 ≤ 3) = true := decide_eq_true (by omega)
  have e2 := e2 (by omega)
  have hE := R.vs.field encPg_len (i := low) (j := 2) (by omega) (by omega)
  have hE2 : (encPg ps[low])[2]? = some (.slice (some ⟨ps[low].blk, 0, none⟩) 4096 4096) := rfl
  rw [hE2] at hE
  have hd2 : ((low : Int) < 3) = True := eq_true (by omega)
  have hpg := R.pg ps[low] (List.getElem_mem _)
  have hno := R.nos low (by omega)
  rw [hd]
  have hC : cellO (a % 4096) h[ps[low].blk]? = some (.int .u8 (C a)) := by
    rw [hpg, cell_map _ _ (by omega)]
    have : ps[low].no * 4096 + a % 4096 = a := by omega
    rw [this]
  simp -implicitDefEqProofs (disch := first | omega | (simp only [h_szP, h_szS]; done) | (simp only [h_szP, h_szS]; omega)) only [go_sem, Nat.reduceBEq, reduceCtorEq, Nat.reduceAdd, Int.reduceEq, Int.reduceLT, Int.reduceLE, Int.reduceMul, Int.reduceAdd, Int.reduceSub, reduceIte, Nat.reduceLeDiff, Nat.reduceLT, Nat.reduceMul, Nat.reduceSub, Int.reduceToNat, s68, Try.underlying22, fo126_0, sh124, sl124, ze129, by129, sz129, fo129_2, sh50, sl50, ze5, by5, sz5, sh5, ht, hE, hd2, hq2, Nat.mul_one, hC]
theorem rset_in {h : Heap} {sp : Nat} {pv : Value} {ps : List Pg} {C : Nat → Nat} (R : RS h sp pv ps C) (hl : ps.length = 3) (a c : Nat) (ha : 4096 ≤ a ∧ a < 16384) :
    Fn Try.prog 99 [ptr sp 0, .int .u64 a, .int .u8 c] h fun x h' => RS h' sp pv ps (fun y => if y = a then c else C y) ∧ h'.size = h.size ∧ ∀ b, ¬ rfoot sp pv ps b → h'[b]? = h[b]? := by
  have ht := R.top
  have hq : (a : Int) / 4096 = ((a / 4096 : Nat) : Int) := by omega
  have hq2 : (a : Int) % 4096 = ((a % 4096 : Nat) : Int) := by omega
  obtain ⟨vb, vo, cap, e1, hcap, hvb⟩ := R.vs.open (i := 0) (by omega)
  rw [hl] at e1
  subst e1
  refine Fn_c Try.func99 mixed c99 (by kernel_rfl) ?_; rw [r99]
  simp -implicitDefEqProofs (disch := first | omega | (simp only [h_szP, h_szS]; done) | (simp only [h_szP, h_szS]; omega)) only [go_sem, Nat.reduceBEq, reduceCtorEq, Nat.reduceAdd, Int.reduceEq, Int.reduceLT, Int.reduceLE, Int.reduceMul, Int.reduceAdd, Int.reduceSub, reduceIte, Nat.reduceLeDiff, Nat.reduceLT, Nat.reduceMul, Nat.reduceSub, Int.reduceToNat, s99, Try.underlying22, fo126_0, sh124, sl124, ze129, by129, sz129, fo129_2, sh50, sl50, ze5, by5, sz5, hq]
  refine FnK.use (rat_c R hl (a / 4096) (by omega)) ?_
  intro x h1 ⟨⟨low, e1, e2⟩, e3⟩
  rw [e1, e3]
  have hd : decide (1 ≤ a / 4096 ∧ a / 4096 ≤ 3) = true := decide_eq_true (by omega)
  have e2 := e2 (by omega)
  have hE := R.vs.field encPg_len (i := low) (j := 2) (by omega) (by omega)
  have hE2 : (encPg ps[low])[2]? = some (.slice (some ⟨ps[low].blk, 0, none⟩) 4096 4096) := rfl
  rw [hE2] at hE
  have hd2 : ((low : Int) < 3) = True := eq_true (by omega)
  have hpg := R.pg ps[low] (List.getElem_mem _)
  have hno := R.nos low (by omega)
  rw [hd]
  simp -implicitDefEqProofs (disch := first | omega | (simp only [h_szP, h_szS]; done) | (simp only [h_szP, h_szS]; omega)) only [go_sem, Nat.reduceBEq, reduceCtorEq, Nat.reduceAdd, Int.reduceEq, Int.reduceLT, Int.reduceLE, Int.reduceMul, Int.reduceAdd, Int.reduceSub, reduceIte, Nat.reduceLeDiff, Nat.reduceLT, Nat.reduceMul, Nat.reduceSub, Int.reduceToNat, s99, Try.underlying22, fo126_0, sh124, sl124, ze129, by129, sz129, fo129_2, sh50, sl50, ze5, by5, sz5, ht, hE, hd2, hq2, Nat.mul_one]
  have hbs := getElem?_lt hpg
  have hw : wrO h ps[low].blk (a % 4096) [Value.int .u8 c] h[ps[low].blk]? = some (h.setIfInBounds ps[low].blk (.cells ((List.range 4096).map fun i => Value.int .u8 ((if ps[low].no * 4096 + i = a then c else C (ps[low].no * 4096 + i)) : Nat)).toArray 5 (0, 0))) := by
    refine wr_page (n := 4096) hpg (by omega) rfl ?_ ?_
    · rw [if_pos (by omega)]
    · intro j hj hne
      rw [if_neg (by omega)]
  obtain ⟨ob, hob⟩ : ∃ ob, ob = Obj.cells ((List.range 4096).map fun i => Value.int .u8 ((if ps[low].no * 4096 + i = a then c else C (ps[low].no * 4096 + i)) : Nat)).toArray 5 (0, 0) := ⟨_, rfl⟩
  rw [← hob] at hw
  refine obK.use _ hw ?_
  simp -implicitDefEqProofs (disch := first | omega | (simp only [h_szP, h_szS]; done) | (simp only [h_szP, h_szS]; omega)) only [go_sem, Nat.reduceBEq, reduceCtorEq, Nat.reduceAdd, Int.reduceEq, Int.reduceLT, Int.reduceLE, Int.reduceMul, Int.reduceAdd, Int.reduceSub, reduceIte, Nat.reduceLeDiff, Nat.reduceLT, Nat.reduceMul, Nat.reduceSub, Int.reduceToNat, s99, Try.underlying22, fo126_0, sh124, sl124, ze129, by129, sz129, fo129_2, sh50, sl50, ze5, by5, sz5]
  have hns := R.nsp ps[low] (List.getElem_mem _)
  have nset : ∀ b, b ≠ ps[low].blk → ∀ o, (h.setIfInBounds ps[low].blk o)[b]? = h[b]? := fun b q o => h_setN _ _ _ _ q
  refine ⟨⟨by rw [nset sp hns.1.symm]; exact ht, R.vs.mono fun b e => nset b (fun q => hns.2 (by rw [← q]; exact e)) _, fun p hp => ?_, R.nos, R.blks, R.nsp, R.npv⟩, fun b f => nset b (fun q => f (.inr (.inr ⟨ps[low], List.getElem_mem _, q⟩))) _⟩
  obtain ⟨j, hj, ej⟩ := List.mem_iff_getElem.1 hp
  by_cases q : j = low
  · have e9 : p = ps[low] := by rw [← ej]; congr 1
    rw [e9, h_setS _ _ _ hbs, hob]
  · have hnej : p.blk ≠ ps[low].blk := by
      rw [← ej]
      rcases Nat.lt_or_gt_of_ne q with z | z
      · exact List.pairwise_iff_getElem.1 R.blks j low hj (by omega) z
      · exact (List.pairwise_iff_getElem.1 R.blks low j (by omega) hj z).symm
    rw [nset p.blk hnej, R.pg p hp]
    have hnj := R.nos j hj
    rw [ej] at hnj
    refine congrArg some (page_congr fun i hi => ?_)
    rw [if_neg (by omega)]
end Go.SX.G
