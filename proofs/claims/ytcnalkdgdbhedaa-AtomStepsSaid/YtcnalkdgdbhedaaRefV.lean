/- The reference's space: loads and stores. No condition but on sizes. -/
import Derived.Test.YtcnalkdgdbhedaaRefU
import Derived.Test.YtcnalkdgdbhedaaStep
set_option linter.unusedVariables false
set_option linter.unusedSimpArgs false
namespace Go.SX.G
open Go Go.SX Go.Proofs
set_option maxRecDepth 100000
set_option maxHeartbeats 2000000
/-- the reference's pages, what they may, what the space's regions say of it. -/
structure RP (h : Heap) (sp : Nat) (pv : Value) (ps : List Pg) (C P : Nat → Nat) (rs : List Reg) : Prop where
  R : RS h sp pv ps C
  hl : ps.length = 3
  hp : ∀ i (hi : i < ps.length), ps[i].prot = P i
  hrs : ∀ y, protAt rs y = kP P 3 y
  hP : ∀ i, P i ≤ 7
  hC : ∀ y, C y < 256
theorem RP.ext {h h' : Heap} {sp : Nat} {pv : Value} {ps : List Pg} {C P : Nat → Nat} {rs : List Reg} (r : RP h sp pv ps C P rs) (k : Keeps h.size h h') : RP h' sp pv ps C P rs := ⟨r.R.ext k, r.hl, r.hp, r.hrs, r.hP, r.hC⟩
theorem RP.mono {h h' : Heap} {sp : Nat} {pv : Value} {ps : List Pg} {C P : Nat → Nat} {rs : List Reg} (r : RP h sp pv ps C P rs) (k : ∀ b, rfoot sp pv ps b → h'[b]? = h[b]?) : RP h' sp pv ps C P rs := ⟨r.R.mono k, r.hl, r.hp, r.hrs, r.hP, r.hC⟩
theorem ok_in {P : Nat → Nat} {rs : List Reg} (hrs : ∀ y, protAt rs y = kP P 3 y) {p y : Nat} (h : okAt rs p y) : 4096 ≤ y ∧ y < 16384 := by
  obtain ⟨q, z1, z2⟩ := okAt_iff.1 h
  rw [hrs] at z1
  unfold kP at z1
  split at z1
  · omega
  · cases z1
/-- where all may be used, all lies in the pages. -/
theorem first_in {P : Nat → Nat} {rs : List Reg} (hrs : ∀ y, protAt rs y = kP P 3 y) {a n p : Nat} (hn : 0 < n) (hn2 : n ≤ 8) (ha : a < 18446744073709551616) (F : FirstN rs a n p none) : 4096 ≤ a ∧ a + n ≤ 16384 := by
  cases F with
  | none h =>
    have h0 := ok_in hrs (h 0 hn)
    have h1 := ok_in hrs (h (n - 1) (by omega))
    unfold adr at h0 h1
    omega
def fltO (k : Nat) : Option Nat → Value
  | some b => fltA k b
  | none => fltA 0 0
def oldO (x : Nat) : Option Nat → Nat
  | some _ => 0
  | none => x
def putO (v a n : Nat) (C : Nat → Nat) : Option Nat → Nat → Nat
  | some _ => C
  | none => putB (some v) a n C
theorem rwide_c (n : Nat) (hn : n = 4 ∨ n = 8) (h : Heap) : Fn Try.prog 89 [.int .i64 n] h fun x h' => x = .bool true ∧ h' = h := by
  rcases hn with e | e <;> subst e
  · refine Fn_c Try.func89 mixed c89 (by kernel_rfl) ?_; rw [r89]
    simp -implicitDefEqProofs (disch := first | omega | (simp only [h_szP, h_szS]; done) | (simp only [h_szP, h_szS]; omega)) only [go_sem, Nat.reduceBEq, reduceCtorEq, Nat.reduceAdd, Int.reduceEq, Int.reduceLT, Int.reduceLE, Int.reduceMul, Int.reduceAdd, Int.reduceSub, reduceIte, Nat.reduceLeDiff, Nat.reduceLT, Nat.reduceMul, Nat.reduceSub, Int.reduceToNat, s89, Try.underlying3]
  · refine Fn_c Try.func89 mixed c89 (by kernel_rfl) ?_; rw [r89]
    simp -implicitDefEqProofs (disch := first | omega | (simp only [h_szP, h_szS]; done) | (simp only [h_szP, h_szS]; omega)) only [go_sem, Nat.reduceBEq, reduceCtorEq, Nat.reduceAdd, Int.reduceEq, Int.reduceLT, Int.reduceLE, Int.reduceMul, Int.reduceAdd, Int.reduceSub, reduceIte, Nat.reduceLeDiff, Nat.reduceLT, Nat.reduceMul, Nat.reduceSub, Int.reduceToNat, s89, Try.underlying3]
theorem rprobe_c {h : Heap} {sp : Nat} {pv : Value} {ps : List Pg} {C P : Nat → Nat} {rs : List Reg} (r : RP h sp pv ps C P rs) (a n : Nat) (o1 : Option Nat) (ha : a < 18446744073709551616) (hn : n = 4 ∨ n = 8) (F1 : FirstN rs a n 2 o1) :
    Fn Try.prog 65 [ptr sp 0, .int .u64 a, .int .i64 n] h fun x h' => x = fltO 2 o1 ∧ Keeps h.size h h' := by
  cases o1 with
  | none =>
    have K0 := Keeps.push h (.cells #[.int .i64 0, .int .u64 0] 41) (Nat.le_refl _)
    have hb : (h.push (.cells #[.int .i64 0, .int .u64 0] 41))[h.size]? = some (.cells #[.int .i64 0, .int .u64 0] 41 (0, 0)) := h_pushE _ _ _ rfl
    have r0 := r.ext K0
    refine Fn_c Try.func65 mixed c65 (by kernel_rfl) ?_; rw [r65]
    simp -implicitDefEqProofs (disch := first | omega | (simp only [h_szP, h_szS]; done) | (simp only [h_szP, h_szS]; omega)) only [go_sem, Nat.reduceBEq, reduceCtorEq, Nat.reduceAdd, Int.reduceEq, Int.reduceLT, Int.reduceLE, Int.reduceMul, Int.reduceAdd, Int.reduceSub, reduceIte, Nat.reduceLeDiff, Nat.reduceLT, Nat.reduceMul, Nat.reduceSub, Int.reduceToNat, s65, zc41, sd41, pl41_0, pl41_1, sz41, sh41]
    refine FnK.val (rwide_c n hn _) ?_
    simp -implicitDefEqProofs (disch := first | omega | (simp only [h_szP, h_szS]; done) | (simp only [h_szP, h_szS]; omega)) only [go_sem, Nat.reduceBEq, reduceCtorEq, Nat.reduceAdd, Int.reduceEq, Int.reduceLT, Int.reduceLE, Int.reduceMul, Int.reduceAdd, Int.reduceSub, reduceIte, Nat.reduceLeDiff, Nat.reduceLT, Nat.reduceMul, Nat.reduceSub, Int.reduceToNat, s65, zc41, sd41, pl41_0, pl41_1, sz41, sh41]
    refine FnK.use (rfirst_c r0.R r0.hl r0.hp r0.hrs r0.hP a n 2 ha (by omega) (by omega)) ?_
    intro x h1 ⟨⟨o, e1, F⟩, e2⟩
    have eo := FirstN.same F F1
    rw [e1, e2, eo]
    rw [placeV_none]
    simp -implicitDefEqProofs (disch := first | omega | (simp only [h_szP, h_szS]; done) | (simp only [h_szP, h_szS]; omega)) only [go_sem, Nat.reduceBEq, reduceCtorEq, Nat.reduceAdd, Int.reduceEq, Int.reduceLT, Int.reduceLE, Int.reduceMul, Int.reduceAdd, Int.reduceSub, reduceIte, Nat.reduceLeDiff, Nat.reduceLT, Nat.reduceMul, Nat.reduceSub, Int.reduceToNat, s65, zc41, sd41, pl41_0, pl41_1, sz41, sh41]
    exact ⟨rfl, K0⟩
  | some b =>
    have K0 := Keeps.push h (.cells #[.int .i64 0, .int .u64 0] 41) (Nat.le_refl _)
    have hb : (h.push (.cells #[.int .i64 0, .int .u64 0] 41))[h.size]? = some (.cells #[.int .i64 0, .int .u64 0] 41 (0, 0)) := h_pushE _ _ _ rfl
    have r0 := r.ext K0
    refine Fn_c Try.func65 mixed c65 (by kernel_rfl) ?_; rw [r65]
    simp -implicitDefEqProofs (disch := first | omega | (simp only [h_szP, h_szS]; done) | (simp only [h_szP, h_szS]; omega)) only [go_sem, Nat.reduceBEq, reduceCtorEq, Nat.reduceAdd, Int.reduceEq, Int.reduceLT, Int.reduceLE, Int.reduceMul, Int.reduceAdd, Int.reduceSub, reduceIte, Nat.reduceLeDiff, Nat.reduceLT, Nat.reduceMul, Nat.reduceSub, Int.reduceToNat, s65, zc41, sd41, pl41_0, pl41_1, sz41, sh41]
    refine FnK.val (rwide_c n hn _) ?_
    simp -implicitDefEqProofs (disch := first | omega | (simp only [h_szP, h_szS]; done) | (simp only [h_szP, h_szS]; omega)) only [go_sem, Nat.reduceBEq, reduceCtorEq, Nat.reduceAdd, Int.reduceEq, Int.reduceLT, Int.reduceLE, Int.reduceMul, Int.reduceAdd, Int.reduceSub, reduceIte, Nat.reduceLeDiff, Nat.reduceLT, Nat.reduceMul, Nat.reduceSub, Int.reduceToNat, s65, zc41, sd41, pl41_0, pl41_1, sz41, sh41]
    refine FnK.use (rfirst_c r0.R r0.hl r0.hp r0.hrs r0.hP a n 2 ha (by omega) (by omega)) ?_
    intro x h1 ⟨⟨o, e1, F⟩, e2⟩
    have eo := FirstN.same F F1
    rw [e1, e2, eo]
    rw [placeV_some]
    simp -implicitDefEqProofs (disch := first | omega | (simp only [h_szP, h_szS]; done) | (simp only [h_szP, h_szS]; omega)) only [go_sem, Nat.reduceBEq, reduceCtorEq, Nat.reduceAdd, Int.reduceEq, Int.reduceLT, Int.reduceLE, Int.reduceMul, Int.reduceAdd, Int.reduceSub, reduceIte, Nat.reduceLeDiff, Nat.reduceLT, Nat.reduceMul, Nat.reduceSub, Int.reduceToNat, s65, zc41, sd41, pl41_0, pl41_1, sz41, sh41]
    exact ⟨rfl, Keeps.push _ _ (Nat.le_refl _)⟩
theorem rbytes_c {h : Heap} {sp : Nat} {pv : Value} {ps : List Pg} {C P : Nat → Nat} {rs : List Reg} (r : RP h sp pv ps C P rs) (a n : Nat) (ha : 4096 ≤ a) (hn : a + n ≤ 16384) :
    Fn Try.prog 35 [ptr sp 0, .int .u64 a, .int .i64 n] h fun x h' => Ss h' h.size x 5 encB 1 ((List.range n).map fun i => C (a + i)) ∧ Keeps h.size h h' := by
  refine Fn_c Try.func35 mixed c35 (by kernel_rfl) ?_; rw [r35]
  simp -implicitDefEqProofs (disch := first | omega | (simp only [h_szP, h_szS]; done) | (simp only [h_szP, h_szS]; omega)) only [go_sem, Nat.reduceBEq, reduceCtorEq, Nat.reduceAdd, Int.reduceEq, Int.reduceLT, Int.reduceLE, Int.reduceMul, Int.reduceAdd, Int.reduceSub, reduceIte, Nat.reduceLeDiff, Nat.reduceLT, Nat.reduceMul, Nat.reduceSub, Int.reduceToNat, s35, Try.underlying3, Try.underlying22, sl50, ze5, by5, sz5, Try.underlying50]
  obtain ⟨I, hI⟩ : ∃ I : Nat → Fr → Heap → Prop, I = fun k fr hh => ∃ (i : Nat) (vo : Value), i + k = n ∧ Keeps h.size h hh ∧ Ss hh h.size vo 5 encB 1 ((List.range i).map fun i => C (a + i)) ∧
      fr = (((((fr0.up 8 (.int .i64 i)).up 7 vo).up 2 (.int .i64 n)).up 1 (.int .u64 a)).up 0 (ptr sp 0)) := ⟨_, rfl⟩
  refine LoopK.use I n (by rw [hI]; exact ⟨0, _, by omega, Keeps.refl', Ss.nil _ _ _, rfl⟩) ?_
  intro k fr hh hK
  rw [hI] at hK
  obtain ⟨i, vo, hk, K1, S1, hf⟩ := hK
  subst hf
  by_cases hi : i < n
  · have hdi : decide ((i : Int) < n) = true := decide_eq_true (by omega)
    have hw : IntKind.u64.wrap ((a : Int) + i) = ((a + i : Nat) : Int) := by rw [wrap_u64]; omega
    have r1 := r.ext K1
    simp -implicitDefEqProofs (disch := first | omega | (simp only [h_szP, h_szS]; done) | (simp only [h_szP, h_szS]; omega)) only [go_sem, Nat.reduceBEq, reduceCtorEq, Nat.reduceAdd, Int.reduceEq, Int.reduceLT, Int.reduceLE, Int.reduceMul, Int.reduceAdd, Int.reduceSub, reduceIte, Nat.reduceLeDiff, Nat.reduceLT, Nat.reduceMul, Nat.reduceSub, Int.reduceToNat, s35, Try.underlying3, Try.underlying22, sl50, ze5, by5, sz5, Try.underlying50, hdi, hw]
    refine FnK.val (rget_in r1.R r1.hl (a + i) (by omega)) ?_
    simp -implicitDefEqProofs (disch := first | omega | (simp only [h_szP, h_szS]; done) | (simp only [h_szP, h_szS]; omega)) only [go_sem, Nat.reduceBEq, reduceCtorEq, Nat.reduceAdd, Int.reduceEq, Int.reduceLT, Int.reduceLE, Int.reduceMul, Int.reduceAdd, Int.reduceSub, reduceIte, Nat.reduceLeDiff, Nat.reduceLT, Nat.reduceMul, Nat.reduceSub, Int.reduceToNat, s35, Try.underlying3, Try.underlying22, sl50, ze5, by5, sz5, Try.underlying50]
    have hsz := K1.size
    refine app_push (C (a + i)) elB encB_len S1 rfl rfl rfl (by simp; omega) K1.1 ?_
    intro v' h' S' K' F' B'
    simp -implicitDefEqProofs (disch := first | omega | (simp only [h_szP, h_szS]; done) | (simp only [h_szP, h_szS]; omega)) only [go_sem, Nat.reduceBEq, reduceCtorEq, Nat.reduceAdd, Int.reduceEq, Int.reduceLT, Int.reduceLE, Int.reduceMul, Int.reduceAdd, Int.reduceSub, reduceIte, Nat.reduceLeDiff, Nat.reduceLT, Nat.reduceMul, Nat.reduceSub, Int.reduceToNat, s35, Try.underlying3, Try.underlying22, sl50, ze5, by5, sz5, Try.underlying50]
    refine ⟨k - 1, by omega, ?_⟩
    rw [hI]
    refine ⟨i + 1, v', by omega, K1.trans K', ?_, rfl⟩
    have e : (List.range (i + 1)).map (fun i => C (a + i)) = (List.range i).map (fun i => C (a + i)) ++ [C (a + i)] := by rw [List.range_succ, List.map_append]; rfl
    rw [e]; exact S'
  · have hdi : decide ((i : Int) < n) = false := decide_eq_false (by omega)
    have e1 : i = n := by omega
    subst e1
    simp -implicitDefEqProofs (disch := first | omega | (simp only [h_szP, h_szS]; done) | (simp only [h_szP, h_szS]; omega)) only [go_sem, Nat.reduceBEq, reduceCtorEq, Nat.reduceAdd, Int.reduceEq, Int.reduceLT, Int.reduceLE, Int.reduceMul, Int.reduceAdd, Int.reduceSub, reduceIte, Nat.reduceLeDiff, Nat.reduceLT, Nat.reduceMul, Nat.reduceSub, Int.reduceToNat, s35, Try.underlying3, Try.underlying22, sl50, ze5, by5, sz5, Try.underlying50, hdi]
    exact ⟨S1, K1⟩
theorem rlays_c {h : Heap} {sp : Nat} {pv v : Value} {ps : List Pg} {bs : List Nat} {C P : Nat → Nat} {rs : List Reg} (r : RP h sp pv ps C P rs) (a : Nat) (ha : 4096 ≤ a) (hn : a + bs.length ≤ 16384) (hv : Vs h v encB 1 bs) (hb : ∀ x ∈ bs, x < 256) (hd : ∀ b, blk v = some b → ¬ rfoot sp pv ps b) :
    Fn Try.prog 91 [ptr sp 0, .int .u64 a, v] h fun x h' => RP h' sp pv ps (fun y => if a ≤ y ∧ y < a + bs.length then bs.getD (y - a) 0 else C y) P rs ∧ h'.size = h.size ∧ ∀ b, ¬ rfoot sp pv ps b → h'[b]? = h[b]? := by
  obtain ⟨a0, cap0, e1, hcap⟩ := hv.shape
  subst e1
  refine Fn_c Try.func91 mixed c91 (by kernel_rfl) ?_; rw [r91]
  simp -implicitDefEqProofs (disch := first | omega | (simp only [h_szP, h_szS]; done) | (simp only [h_szP, h_szS]; omega)) only [go_sem, Nat.reduceBEq, reduceCtorEq, Nat.reduceAdd, Int.reduceEq, Int.reduceLT, Int.reduceLE, Int.reduceMul, Int.reduceAdd, Int.reduceSub, reduceIte, Nat.reduceLeDiff, Nat.reduceLT, Nat.reduceMul, Nat.reduceSub, Int.reduceToNat, s91, Try.underlying50, sl50, ze5, by5, sz5, Try.underlying3, Try.underlying22, sh5]
  obtain ⟨I, hI⟩ : ∃ I : Nat → Fr → Heap → Prop, I = fun k fr hh => ∃ (i : Nat), i + k = bs.length ∧ RP hh sp pv ps (fun y => if a ≤ y ∧ y < a + i then bs.getD (y - a) 0 else C y) P rs ∧ hh.size = h.size ∧ (∀ b, ¬ rfoot sp pv ps b → hh[b]? = h[b]?) ∧
      fr = ((((fr0.up 6 (.int .i64 i)).up 2 (.slice a0 bs.length cap0)).up 1 (.int .u64 a)).up 0 (ptr sp 0)) := ⟨_, rfl⟩
  have c0 : (fun y => if a ≤ y ∧ y < a + 0 then bs.getD (y - a) 0 else C y) = C := funext fun y => by rw [if_neg (by omega)]
  refine LoopK.use I bs.length (by rw [hI]; exact ⟨0, by omega, by rw [c0]; exact r, rfl, fun b _ => rfl, rfl⟩) ?_
  intro k fr hh hK
  rw [hI] at hK
  obtain ⟨i, hk, r1, sz1, old1, hf⟩ := hK
  subst hf
  by_cases hi : i < bs.length
  · obtain ⟨vb, vo, cap', e1, hcap', hvb⟩ := hv.open hi
    cases e1
    have hE : cellO (vo + i) h[vb]? = some (.int .u8 (bs[i] : Nat)) := by have := hv.field encB_len hi (j := 0) (by omega); simpa [encB] using this
    have hE' := old1 vb (hd vb rfl)
    have hdi : decide ((i : Int) < bs.length) = true := decide_eq_true (by omega)
    have hd2 : decide ((a : Int) < 274877906944) = true := decide_eq_true (by omega)
    have hd3 : decide (((a + i : Nat) : Int) < 274877906944) = true := decide_eq_true (by omega)
    have hw : IntKind.u64.wrap ((a : Int) + i) = ((a + i : Nat) : Int) := by rw [wrap_u64]; omega
    simp -implicitDefEqProofs (disch := first | omega | (simp only [h_szP, h_szS]; done) | (simp only [h_szP, h_szS]; omega)) only [go_sem, Nat.reduceBEq, reduceCtorEq, Nat.reduceAdd, Int.reduceEq, Int.reduceLT, Int.reduceLE, Int.reduceMul, Int.reduceAdd, Int.reduceSub, reduceIte, Nat.reduceLeDiff, Nat.reduceLT, Nat.reduceMul, Nat.reduceSub, Int.reduceToNat, s91, Try.underlying50, sl50, ze5, by5, sz5, Try.underlying3, Try.underlying22, sh5, hdi, hd2, hd3, hw, hE', hE, Nat.mul_one]
    refine FnK.use (rset_in r1.R r1.hl (a + i) bs[i] (by omega)) ?_
    intro x h2 ⟨R2, sz2, old2⟩
    simp -implicitDefEqProofs (disch := first | omega | (simp only [h_szP, h_szS]; done) | (simp only [h_szP, h_szS]; omega)) only [go_sem, Nat.reduceBEq, reduceCtorEq, Nat.reduceAdd, Int.reduceEq, Int.reduceLT, Int.reduceLE, Int.reduceMul, Int.reduceAdd, Int.reduceSub, reduceIte, Nat.reduceLeDiff, Nat.reduceLT, Nat.reduceMul, Nat.reduceSub, Int.reduceToNat, s91, Try.underlying50, sl50, ze5, by5, sz5, Try.underlying3, Try.underlying22, sh5]
    refine ⟨k - 1, by omega, ?_⟩
    rw [hI]
    have e : (fun y => if y = a + i then bs[i] else (fun y => if a ≤ y ∧ y < a + i then bs.getD (y - a) 0 else C y) y) = fun y => if a ≤ y ∧ y < a + (i + 1) then bs.getD (y - a) 0 else C y := funext fun y => by
      by_cases q : y = a + i
      · subst q
        rw [if_pos rfl, if_pos (by omega), Nat.add_sub_cancel_left, List.getD_eq_getElem?_getD, List.getElem?_eq_getElem hi]; rfl
      · simp only [q, if_false]
        by_cases q2 : a ≤ y ∧ y < a + i
        · rw [if_pos q2, if_pos (by omega)]
        · rw [if_neg q2, if_neg (by omega)]
    rw [e] at R2
    refine ⟨i + 1, by omega, ⟨R2, r.hl, r.hp, r.hrs, r.hP, fun y => ?_⟩, sz2.trans sz1, fun b f => (old2 b f).trans (old1 b f), rfl⟩
    split
    · rename_i q
      rw [List.getD_eq_getElem?_getD, List.getElem?_eq_getElem (by omega)]
      exact hb _ (List.getElem_mem _)
    · exact r.hC y
  · have hdi : decide ((i : Int) < bs.length) = false := decide_eq_false (by omega)
    have e1 : i = bs.length := by omega
    subst e1
    simp -implicitDefEqProofs (disch := first | omega | (simp only [h_szP, h_szS]; done) | (simp only [h_szP, h_szS]; omega)) only [go_sem, Nat.reduceBEq, reduceCtorEq, Nat.reduceAdd, Int.reduceEq, Int.reduceLT, Int.reduceLE, Int.reduceMul, Int.reduceAdd, Int.reduceSub, reduceIte, Nat.reduceLeDiff, Nat.reduceLT, Nat.reduceMul, Nat.reduceSub, Int.reduceToNat, s91, Try.underlying50, sl50, ze5, by5, sz5, Try.underlying3, Try.underlying22, sh5, hdi]
    exact ⟨r1, sz1, old1⟩
theorem rload_c {h : Heap} {sp : Nat} {pv : Value} {ps : List Pg} {C P : Nat → Nat} {rs : List Reg} (r : RP h sp pv ps C P rs) (a n : Nat) (o2 : Option Nat) (ha : a < 18446744073709551616) (hn : n = 4 ∨ n = 8) (F2 : FirstN rs a n 1 o2) :
    Fn Try.prog 67 [ptr sp 0, .int .u64 a, .int .i64 n] h fun x h' => x = .tuple #[.int .u64 (oldO (le ((List.range n).map fun i => C (a + i))) o2 : Nat), fltO 1 o2] ∧ Keeps h.size h h' := by
  cases o2 with
  | none =>
    have K0 := Keeps.push h (.cells #[.int .i64 0, .int .u64 0] 41) (Nat.le_refl _)
    have hb : (h.push (.cells #[.int .i64 0, .int .u64 0] 41))[h.size]? = some (.cells #[.int .i64 0, .int .u64 0] 41 (0, 0)) := h_pushE _ _ _ rfl
    have r0 := r.ext K0
    refine Fn_c Try.func67 mixed c67 (by kernel_rfl) ?_; rw [r67]
    simp -implicitDefEqProofs (disch := first | omega | (simp only [h_szP, h_szS]; done) | (simp only [h_szP, h_szS]; omega)) only [go_sem, Nat.reduceBEq, reduceCtorEq, Nat.reduceAdd, Int.reduceEq, Int.reduceLT, Int.reduceLE, Int.reduceMul, Int.reduceAdd, Int.reduceSub, reduceIte, Nat.reduceLeDiff, Nat.reduceLT, Nat.reduceMul, Nat.reduceSub, Int.reduceToNat, s67, zc41, sd41, pl41_0, pl41_1, sz41, sh41]
    refine FnK.val (rwide_c n hn _) ?_
    simp -implicitDefEqProofs (disch := first | omega | (simp only [h_szP, h_szS]; done) | (simp only [h_szP, h_szS]; omega)) only [go_sem, Nat.reduceBEq, reduceCtorEq, Nat.reduceAdd, Int.reduceEq, Int.reduceLT, Int.reduceLE, Int.reduceMul, Int.reduceAdd, Int.reduceSub, reduceIte, Nat.reduceLeDiff, Nat.reduceLT, Nat.reduceMul, Nat.reduceSub, Int.reduceToNat, s67, zc41, sd41, pl41_0, pl41_1, sz41, sh41]
    refine FnK.use (rfirst_c r0.R r0.hl r0.hp r0.hrs r0.hP a n 1 ha (by omega) (by omega)) ?_
    intro x h1 ⟨⟨o, e1, F⟩, e2⟩
    have eo := FirstN.same F F2
    rw [e1, e2, eo]
    rw [placeV_none]
    simp -implicitDefEqProofs (disch := first | omega | (simp only [h_szP, h_szS]; done) | (simp only [h_szP, h_szS]; omega)) only [go_sem, Nat.reduceBEq, reduceCtorEq, Nat.reduceAdd, Int.reduceEq, Int.reduceLT, Int.reduceLE, Int.reduceMul, Int.reduceAdd, Int.reduceSub, reduceIte, Nat.reduceLeDiff, Nat.reduceLT, Nat.reduceMul, Nat.reduceSub, Int.reduceToNat, s67, zc41, sd41, pl41_0, pl41_1, sz41, sh41]
    have hin := first_in r.hrs (by omega) (by omega) ha F2
    refine FnK.use (rbytes_c r0 a n hin.1 hin.2) ?_
    intro x h2 ⟨S2, K2⟩
    simp -implicitDefEqProofs (disch := first | omega | (simp only [h_szP, h_szS]; done) | (simp only [h_szP, h_szS]; omega)) only [go_sem, Nat.reduceBEq, reduceCtorEq, Nat.reduceAdd, Int.reduceEq, Int.reduceLT, Int.reduceLE, Int.reduceMul, Int.reduceAdd, Int.reduceSub, reduceIte, Nat.reduceLeDiff, Nat.reduceLT, Nat.reduceMul, Nat.reduceSub, Int.reduceToNat, s67, zc41, sd41, pl41_0, pl41_1, sz41, sh41]
    have S3 : Sl h2 (h.push (.cells #[.int .i64 0, .int .u64 0] 41)).size x 5 1 n (u8s ((List.range n).map fun i => C (a + i))) := by
      have := S2
      unfold Ss at this
      rw [encB_flat, List.length_map, List.length_range] at this
      exact this
    refine FnK.val (get_c _ (fun b hb => ?_) x _ _ n (by omega) (by omega) (by simp) S3) ?_
    · simp only [List.mem_map] at hb
      obtain ⟨i, _, rfl⟩ := hb
      exact r.hC _
    have hb2 := K2.at hb (by simp)
    have hlt2 := getElem?_lt hb2
    simp -implicitDefEqProofs (disch := first | omega | (simp only [h_szP, h_szS]; done) | (simp only [h_szP, h_szS]; omega)) only [go_sem, Nat.reduceBEq, reduceCtorEq, Nat.reduceAdd, Int.reduceEq, Int.reduceLT, Int.reduceLE, Int.reduceMul, Int.reduceAdd, Int.reduceSub, reduceIte, Nat.reduceLeDiff, Nat.reduceLT, Nat.reduceMul, Nat.reduceSub, Int.reduceToNat, s67, zc41, sd41, pl41_0, pl41_1, sz41, sh41, hb2]
    exact ⟨rfl, (K0.of_ext K2 (Nat.le_refl _)).set' (Nat.le_refl _)⟩
  | some b =>
    have K0 := Keeps.push h (.cells #[.int .i64 0, .int .u64 0] 41) (Nat.le_refl _)
    have hb : (h.push (.cells #[.int .i64 0, .int .u64 0] 41))[h.size]? = some (.cells #[.int .i64 0, .int .u64 0] 41 (0, 0)) := h_pushE _ _ _ rfl
    have r0 := r.ext K0
    refine Fn_c Try.func67 mixed c67 (by kernel_rfl) ?_; rw [r67]
    simp -implicitDefEqProofs (disch := first | omega | (simp only [h_szP, h_szS]; done) | (simp only [h_szP, h_szS]; omega)) only [go_sem, Nat.reduceBEq, reduceCtorEq, Nat.reduceAdd, Int.reduceEq, Int.reduceLT, Int.reduceLE, Int.reduceMul, Int.reduceAdd, Int.reduceSub, reduceIte, Nat.reduceLeDiff, Nat.reduceLT, Nat.reduceMul, Nat.reduceSub, Int.reduceToNat, s67, zc41, sd41, pl41_0, pl41_1, sz41, sh41]
    refine FnK.val (rwide_c n hn _) ?_
    simp -implicitDefEqProofs (disch := first | omega | (simp only [h_szP, h_szS]; done) | (simp only [h_szP, h_szS]; omega)) only [go_sem, Nat.reduceBEq, reduceCtorEq, Nat.reduceAdd, Int.reduceEq, Int.reduceLT, Int.reduceLE, Int.reduceMul, Int.reduceAdd, Int.reduceSub, reduceIte, Nat.reduceLeDiff, Nat.reduceLT, Nat.reduceMul, Nat.reduceSub, Int.reduceToNat, s67, zc41, sd41, pl41_0, pl41_1, sz41, sh41]
    refine FnK.use (rfirst_c r0.R r0.hl r0.hp r0.hrs r0.hP a n 1 ha (by omega) (by omega)) ?_
    intro x h1 ⟨⟨o, e1, F⟩, e2⟩
    have eo := FirstN.same F F2
    rw [e1, e2, eo]
    rw [placeV_some]
    simp -implicitDefEqProofs (disch := first | omega | (simp only [h_szP, h_szS]; done) | (simp only [h_szP, h_szS]; omega)) only [go_sem, Nat.reduceBEq, reduceCtorEq, Nat.reduceAdd, Int.reduceEq, Int.reduceLT, Int.reduceLE, Int.reduceMul, Int.reduceAdd, Int.reduceSub, reduceIte, Nat.reduceLeDiff, Nat.reduceLT, Nat.reduceMul, Nat.reduceSub, Int.reduceToNat, s67, zc41, sd41, pl41_0, pl41_1, sz41, sh41]
    exact ⟨rfl, Keeps.push _ _ (Nat.le_refl _)⟩
theorem putN_c (v n : Nat) (h0 : 1 ≤ n) (h8 : n ≤ 8) (hv : v < 18446744073709551616) (h : Heap) : Fn Try.prog 38 [.slice none 0 0, .int .u64 v, .int .i64 n] h fun x h' => Ss h' h.size x 5 encB 1 (bytesOf v n) ∧ Keeps h.size h h' := by
  rw [uN hv]
  refine (put_c (BitVec.ofNat 64 v) n h0 h8 h).mono ?_
  intro x h' ⟨s, k⟩
  refine ⟨?_, k⟩
  rw [BitVec.toNat_ofNat, Nat.mod_eq_of_lt hv] at s
  unfold Ss
  rw [encB_flat, bytesOf_len]
  exact s
theorem rstore_c {h : Heap} {sp : Nat} {pv : Value} {ps : List Pg} {C P : Nat → Nat} {rs : List Reg} (r : RP h sp pv ps C P rs) (a n v : Nat) (o1 : Option Nat) (ha : a < 18446744073709551616) (hv : v < 18446744073709551616) (hn : n = 4 ∨ n = 8) (F1 : FirstN rs a n 2 o1) :
    Fn Try.prog 66 [ptr sp 0, .int .u64 a, .int .i64 n, .int .u64 v] h fun x h' => x = fltO 2 o1 ∧ RP h' sp pv ps (putO v a n C o1) P rs ∧ h.size ≤ h'.size ∧ ∀ b, b < h.size → ¬ rfoot sp pv ps b → h'[b]? = h[b]? := by
  cases o1 with
  | none =>
    have K0 := Keeps.push h (.cells #[.int .i64 0, .int .u64 0] 41) (Nat.le_refl _)
    have hb : (h.push (.cells #[.int .i64 0, .int .u64 0] 41))[h.size]? = some (.cells #[.int .i64 0, .int .u64 0] 41 (0, 0)) := h_pushE _ _ _ rfl
    have r0 := r.ext K0
    refine Fn_c Try.func66 mixed c66 (by kernel_rfl) ?_; rw [r66]
    simp -implicitDefEqProofs (disch := first | omega | (simp only [h_szP, h_szS]; done) | (simp only [h_szP, h_szS]; omega)) only [go_sem, Nat.reduceBEq, reduceCtorEq, Nat.reduceAdd, Int.reduceEq, Int.reduceLT, Int.reduceLE, Int.reduceMul, Int.reduceAdd, Int.reduceSub, reduceIte, Nat.reduceLeDiff, Nat.reduceLT, Nat.reduceMul, Nat.reduceSub, Int.reduceToNat, s66, zc41, sz41, fo41_0, sh3, Try.underlying3, sh41]
    refine FnK.use (rprobe_c r0 a n none ha hn F1) ?_
    intro x h1 ⟨e1, K1⟩
    have hb1 := K1.at hb (by simp)
    have hlt := getElem?_lt hb1
    rw [e1]
    unfold fltO fltA
    simp -implicitDefEqProofs (disch := first | omega | (simp only [h_szP, h_szS]; done) | (simp only [h_szP, h_szS]; omega)) only [go_sem, Nat.reduceBEq, reduceCtorEq, Nat.reduceAdd, Int.reduceEq, Int.reduceLT, Int.reduceLE, Int.reduceMul, Int.reduceAdd, Int.reduceSub, reduceIte, Nat.reduceLeDiff, Nat.reduceLT, Nat.reduceMul, Nat.reduceSub, Int.reduceToNat, s66, zc41, sz41, fo41_0, sh3, Try.underlying3, sh41, hb1]
    have hin := first_in r.hrs (by omega) (by omega) ha F1
    have K2 := (K0.of_ext K1 (Nat.le_refl _))
    have K3 : Keeps h.size h (h1.push (.cells #[.int .i64 0, .int .u64 0] 41)) := K2.push' (Nat.le_refl _)
    refine FnK.use (putN_c v n (by omega) (by omega) hv _) ?_
    intro x h2 ⟨S2, K4⟩
    have K5 := K3.of_ext K4 (Nat.le_refl _)
    have r5 := r.ext K5
    have hV : Vs h2 x encB 1 (bytesOf v n) := S2.vs
    simp -implicitDefEqProofs (disch := first | omega | (simp only [h_szP, h_szS]; done) | (simp only [h_szP, h_szS]; omega)) only [go_sem, Nat.reduceBEq, reduceCtorEq, Nat.reduceAdd, Int.reduceEq, Int.reduceLT, Int.reduceLE, Int.reduceMul, Int.reduceAdd, Int.reduceSub, reduceIte, Nat.reduceLeDiff, Nat.reduceLT, Nat.reduceMul, Nat.reduceSub, Int.reduceToNat, s66, zc41, sz41, fo41_0, sh3, Try.underlying3, sh41]
    refine FnK.use (rlays_c r5 a hin.1 (by rw [bytesOf_len]; exact hin.2) hV (fun b hb => bytesOf_lt hb) (fun b q f => ?_)) ?_
    · have h8 := (S2.blk q).1
      have := r.R.lt f
      have := K2.size
      simp at h8; omega
    intro y h3 ⟨r6, sz6, old6⟩
    have nfh : ¬ rfoot sp pv ps h.size := fun f => by have := r.R.lt f; omega
    have hb3 : h3[h.size]? = some (.cells #[.int .i64 0, .int .u64 0] 41 (0, 0)) := by
      rw [old6 _ nfh, K4.old _ (by simp; omega), h_pushL _ _ _ hlt]; exact hb1
    have nfh1 : ¬ rfoot sp pv ps h1.size := fun f => by have := r.R.lt f; have := K2.size; omega
    have hf3 : h3[h1.size]? = some (.cells #[.int .i64 0, .int .u64 0] 41 (0, 0)) := by
      rw [old6 _ nfh1, K4.old _ (by simp)]; exact h_pushE _ _ _ rfl
    have hl3 := getElem?_lt hb3
    simp -implicitDefEqProofs (disch := first | omega | (simp only [h_szP, h_szS]; done) | (simp only [h_szP, h_szS]; omega)) only [go_sem, Nat.reduceBEq, reduceCtorEq, Nat.reduceAdd, Int.reduceEq, Int.reduceLT, Int.reduceLE, Int.reduceMul, Int.reduceAdd, Int.reduceSub, reduceIte, Nat.reduceLeDiff, Nat.reduceLT, Nat.reduceMul, Nat.reduceSub, Int.reduceToNat, s66, zc41, sz41, fo41_0, sh3, Try.underlying3, sh41, hb3, hf3]
    have ec : (fun y => if a ≤ y ∧ y < a + (bytesOf v n).length then (bytesOf v n).getD (y - a) 0 else C y) = putO v a n C none := funext fun y => by
      show _ = if a ≤ y ∧ y < a + n then v / 256 ^ (y - a) % 256 else C y
      rw [bytesOf_len]
      by_cases q : a ≤ y ∧ y < a + n
      · rw [if_pos q, if_pos q, List.getD_eq_getElem?_getD]
        have : y - a < (bytesOf v n).length := by rw [bytesOf_len]; omega
        rw [List.getElem?_eq_getElem this]
        simp [bytesOf]
      · rw [if_neg q, if_neg q]
    rw [ec] at r6
    have nset : ∀ b, b ≠ h.size → ∀ o, (h3.setIfInBounds h.size o)[b]? = h3[b]? := fun b q o => h_setN _ _ _ _ q
    have sz4 := K5.size
    exact ⟨r6.mono fun b f => nset b (fun e => nfh (e ▸ f)) _, by omega, fun b hb f => by rw [nset b (by omega), old6 b f, K5.old b hb]⟩
  | some b =>
    have K0 := Keeps.push h (.cells #[.int .i64 0, .int .u64 0] 41) (Nat.le_refl _)
    have hb : (h.push (.cells #[.int .i64 0, .int .u64 0] 41))[h.size]? = some (.cells #[.int .i64 0, .int .u64 0] 41 (0, 0)) := h_pushE _ _ _ rfl
    have r0 := r.ext K0
    refine Fn_c Try.func66 mixed c66 (by kernel_rfl) ?_; rw [r66]
    simp -implicitDefEqProofs (disch := first | omega | (simp only [h_szP, h_szS]; done) | (simp only [h_szP, h_szS]; omega)) only [go_sem, Nat.reduceBEq, reduceCtorEq, Nat.reduceAdd, Int.reduceEq, Int.reduceLT, Int.reduceLE, Int.reduceMul, Int.reduceAdd, Int.reduceSub, reduceIte, Nat.reduceLeDiff, Nat.reduceLT, Nat.reduceMul, Nat.reduceSub, Int.reduceToNat, s66, zc41, sz41, fo41_0, sh3, Try.underlying3, sh41]
    refine FnK.use (rprobe_c r0 a n (some b) ha hn F1) ?_
    intro x h1 ⟨e1, K1⟩
    have hb1 := K1.at hb (by simp)
    have hlt := getElem?_lt hb1
    rw [e1]
    unfold fltO fltA
    simp -implicitDefEqProofs (disch := first | omega | (simp only [h_szP, h_szS]; done) | (simp only [h_szP, h_szS]; omega)) only [go_sem, Nat.reduceBEq, reduceCtorEq, Nat.reduceAdd, Int.reduceEq, Int.reduceLT, Int.reduceLE, Int.reduceMul, Int.reduceAdd, Int.reduceSub, reduceIte, Nat.reduceLeDiff, Nat.reduceLT, Nat.reduceMul, Nat.reduceSub, Int.reduceToNat, s66, zc41, sz41, fo41_0, sh3, Try.underlying3, sh41, hb1]
    have kk : Keeps h.size h ((h1.setIfInBounds h.size (.cells #[.int .i64 2, .int .u64 b] 41)).push (.cells #[.int .i64 2, .int .u64 b] 41)) := ((K0.of_ext K1 (Nat.le_refl _)).set' (Nat.le_refl _)).push' (Nat.le_refl _)
    exact ⟨r.ext kk, by omega, fun c hc _ => kk.old c hc⟩
end Go.SX.G
