/- One step. No condition. -/
import Derived.Test.YtajfhnphhdoobaaGreatHV
set_option linter.unusedVariables false
set_option linter.unusedSimpArgs false
namespace Go.SX.G
open Go Go.SX Go.Proofs
set_option maxRecDepth 100000
set_option maxHeartbeats 40000000
theorem hstate_use {X : Heap} {o : Option Obj} {hb s c : Nat} {t t2 : HS} {K : Heap → Prop} (HX : X[hb]? = some (.cells (fnL 37 (hg t s c)).toArray 120 (0, 0))) (ho : o = X[hb]?)
    (hk : ∀ h', h'[hb]? = some (.cells (fnL 37 (hg t2 s c)).toArray 120 (0, 0)) → h'.size = X.size → (∀ b, b ≠ hb → h'[b]? = X[b]?) → K h') : @obK Heap (wrO X hb 0 (fnL 35 t2.cell) o) ⟨K⟩ := by
  obtain ⟨h2, w2, c2, z2, o2⟩ := fnL_wr (o := 0) (k := 35) (g := t2.cell) HX (by omega) (cell_one t2)
  rw [ho]
  refine obK.use _ w2 (hk h2 ?_ z2 o2)
  rw [c2]
  refine congrArg (fun l => some (Obj.cells (List.toArray l) 120 (0, 0))) (fnL_congr fun i hi => ?_)
  unfold hg
  by_cases q : i < 35
  · rw [if_pos (by omega), if_pos q]; rfl
  · rw [if_neg (by omega), if_neg q, if_neg q]
theorem hhold_use {X : Heap} {o : Option Obj} {hb s c : Nat} {t : HS} {K : Heap → Prop} (HX : X[hb]? = some (.cells (fnL 37 (hg t s c)).toArray 120 (0, 0))) (ho : o = X[hb]?)
    (hk : ∀ h', h'[hb]? = some (.cells (fnL 37 (hg ({ t with ha := 0, hn := 0 } : HS) s c)).toArray 120 (0, 0)) → h'.size = X.size → (∀ b, b ≠ hb → h'[b]? = X[b]?) → K h') : @obK Heap (wrO X hb 33 [.int .u64 0, .int .i64 0] o) ⟨K⟩ := by
  obtain ⟨h2, w2, c2, z2, o2⟩ := fnL_wr (o := 33) (k := 2) (g := fun i => if i = 0 then .int .u64 0 else .int .i64 0) HX (by omega) rfl
  rw [ho]
  refine obK.use _ w2 (hk h2 ?_ z2 o2)
  rw [c2]
  refine congrArg (fun l => some (Obj.cells (List.toArray l) 120 (0, 0))) (fnL_congr fun i hi => ?_)
  unfold hg HS.cell
  by_cases q : 33 ≤ i ∧ i < 35
  · rw [if_pos q, if_pos q.2, if_neg (show ¬ i = 0 by omega), if_neg (show ¬ i < 33 by omega)]
    by_cases q1 : i = 33
    · rw [if_pos (by omega), if_pos q1]
    · rw [if_neg (by omega), if_neg q1]
  · rw [if_neg (by omega)]
    by_cases q2 : i < 35
    · rw [if_pos q2, if_pos q2]
      by_cases q0 : i = 0
      · rw [if_pos q0, if_pos q0]
      · rw [if_neg q0, if_neg q0, if_pos (show i < 33 by omega), if_pos (show i < 33 by omega)]
    · rw [if_neg q2, if_neg q2]
theorem step_f {h : Heap} {hb s c m : Nat} {M : MemD} (t : HS) (H : h[hb]? = some (.cells (fnL 37 (hg t s c)).toArray 120 (0, 0))) (tok : t.ok) (r : MR h s M) (k : Ca h s c m M) (nc : ¬ mfoot s M c) (nm : ¬ mfoot s M m) (nh : ¬ mfoot s M hb) (hc : hb ≠ c) (hm : hb ≠ m)
    (R1 : InstR) (R2 : StopR) (hRR : readF M.rs (memAt M) t.pc.toNat = (R1, R2)) (tk : (R2.kind = 0) = False) (O : Out) (hO : O = ⟨R2, { t with ha := 0, hn := 0 }, memAt M⟩) :
    Fn Tryz.prog 31 [ptr hb 0] h fun x h' => x = (O.st).v ∧ h'[hb]? = some (.cells (fnL 37 (hg O.t s c)).toArray 120 (0, 0)) ∧ h.size ≤ h'.size ∧ (∃ M', Gone h h' s M M' O.B ∧ Ca h' s c m M) ∧ ∀ b, b < h.size → b ≠ hb → b ≠ c → b ≠ m → ¬ mfoot s M b → h'[b]? = h[b]? := by
  have lh := getElem?_lt H
  obtain ⟨lc, lm⟩ := k.lt
  have one := cell_one t
  have l1 : cellsO 0 35 h[hb]? = some (fnL 35 t.cell) := by rw [H, fnL_cells (by omega)]; simp only [Nat.zero_add]; exact congrArg some (hg_cells t s c)
  have c35 : cellO 35 h[hb]? = some (ptr s 0) := by rw [H, fnL_cell (by omega)]; rfl
  have c36 : cellO 36 h[hb]? = some (ptr c 0) := by rw [H, fnL_cell (by omega)]; rfl
  have t0 : cellO 0 (some (.cells (fnL 35 t.cell).toArray 63 (0, 0))) = some (.int .u64 t.pc) := by rw [fnL_cell (by omega)]; rfl
  obtain ⟨pc, hpc, lpc⟩ : ∃ n : Nat, t.pc = (n : Int) ∧ n < 18446744073709551616 := ⟨t.pc.toNat, by have := tok.pc; unfold u64R at this; omega, by have := tok.pc; unfold u64R at this; omega⟩
  rw [hpc] at t0
  have epc : t.pc.toNat = pc := by rw [hpc]; rfl
  have nf : ∀ j, h.size ≤ j → ¬ mfoot s M j := fun j q f => by have := r.lt f; omega
  rw [epc] at hRR
  subst hO
  refine Fn_c Tryz.func31 mixed c31 (by kernel_rfl) ?_; rw [r31]
  refine gs7 @fnL_len @l1 @one @setL_35 @c35 @c36 @t0 ?_; (try with_reducible exact trivial)
  repeat' refine And.intro ?_ ?_
  all_goals
     first
     | (
      obtain ⟨Y, eY⟩ : ∃ Y : Heap, Y = (((h.push (.cells #[.int .i64 0, .int .i64 0, .int .u64 0] 49)).push (.cells (fnL 35 t.cell).toArray 63)).push (.cells #[.int .i64 0, .int .i64 0, .int .i64 0, .int .i64 0, .int .i64 0, .int .i64 0, .int .i64 0] 47)).push (.cells #[.int .i64 0, .int .i64 0, .int .u64 0] 49) := ⟨_, rfl⟩
      have KY : Keeps h.size h Y := by rw [eY]; exact (((Keeps.push _ _ (Nat.le_refl _)).push' (Nat.le_refl _)).push' (Nat.le_refl _)).push' (Nat.le_refl _)
      have zY : Y.size = h.size + 4 := by rw [eY]; simp
      have bRY : Y[h.size]? = some (.cells #[.int .i64 0, .int .i64 0, .int .u64 0] 49 (0, 0)) := by rw [eY]; refine gs0 ?_; (try with_reducible exact trivial)
      have btY : Y[h.size + 1]? = some (.cells (fnL 35 t.cell).toArray 63 (0, 0)) := by rw [eY]; refine gs0 ?_; (try with_reducible exact trivial)
      have pIY : Y[h.size + 2]? = some (.cells #[.int .i64 0, .int .i64 0, .int .i64 0, .int .i64 0, .int .i64 0, .int .i64 0, .int .i64 0] 47 (0, 0)) := by rw [eY]; refine gs0 ?_; (try with_reducible exact trivial)
      have pSY : Y[h.size + 3]? = some (.cells #[.int .i64 0, .int .i64 0, .int .u64 0] 49 (0, 0)) := by rw [eY]; refine gs0 ?_; (try with_reducible exact trivial)
      have bhY := KY.at H lh
      have kY : Ca Y s c m M := k.mono (KY.old _ lc) (KY.old _ lm)
      rw [← eY]
      refine FnK.use (kY.fetch pc (r.ext KY) lpc nc nm) ?_
      intro x h9 ⟨e9, k9, s9, o9⟩
      rw [hRR] at e9
      rw [e9]
      have bR := (o9 h.size (by omega) (by omega) (by omega)).trans bRY
      have bt := (o9 (h.size + 1) (by omega) (by omega) (by omega)).trans btY
      have bh := (o9 hb (by omega) hc hm).trans bhY
      have lR := getElem?_lt bR
      have lt := getElem?_lt bt
      have lh9 := getElem?_lt bh
      have r9 : MR h9 s M := (r.ext KY).mono fun b f => o9 b (by have := r.lt f; omega) (fun e => nc (e ▸ f)) (fun e => nm (e ▸ f))
      have o90 : ∀ b, b < h.size → b ≠ c → b ≠ m → h9[b]? = h[b]? := fun b q1 q2 q3 => by rw [o9 b (by omega) q2 q3, KY.old b q1]
      have pI := (o9 (h.size + 2) (by omega) (by omega) (by omega)).trans pIY
      have lI := getElem?_lt pI
      have pS := (o9 (h.size + 3) (by omega) (by omega) (by omega)).trans pSY
      have lS := getElem?_lt pS
      refine gs10 @fnL_len @one @setL_35 @bR @bt @pI @pS InstR.v.eq_1 StopR.v.eq_1 @tk ?_; (try with_reducible exact trivial)
      repeat' refine And.intro ?_ ?_
      all_goals
        first
        | (
          refine hhold_use (t := t) (s := s) (c := c) (by (repeat (first | rw [h_pushL _ _ _ (by simp; omega)] | rw [h_pushL _ _ _ (by omega)] | rw [h_setN _ _ _ _ (by omega)])); exact bh) (by (repeat (first | rw [h_pushL _ _ _ (by simp; omega)] | rw [h_pushL _ _ _ (by omega)] | rw [h_setN _ _ _ _ (by omega)]))) ?_
          intro h5 H5 z5 o5
          simp only [Array.size_push, Array.size_setIfInBounds] at z5
          have pS5 : h5[h.size + 3]? = some (.cells #[.int .i64 R2.kind, .int .i64 R2.fk, .int .u64 R2.fa] 49 (0, 0)) := (o5 (h.size + 3) (by omega)).trans (by refine gs2 @pI @pS ?_; (try with_reducible exact trivial))
          have bR5 : h5[h.size]? = some (.cells #[.int .i64 0, .int .i64 0, .int .u64 0] 49 (0, 0)) := (o5 h.size (by omega)).trans (by (repeat (first | rw [h_pushL _ _ _ (by simp; omega)] | rw [h_pushL _ _ _ (by omega)] | rw [h_setN _ _ _ _ (by omega)])); exact bR)
          have lS5 := getElem?_lt pS5
          have lR5 := getElem?_lt bR5
          have o59 : ∀ b, b < h.size → b ≠ hb → h5[b]? = h9[b]? := fun b q1 q2 => by rw [o5 b q2]; (repeat (first | rw [h_pushL _ _ _ (by simp; omega)] | rw [h_pushL _ _ _ (by omega)] | rw [h_setN _ _ _ _ (by omega)]))
          have Ca5 : Ca h5 s c m M := k9.mono (o59 c lc (Ne.symm hc)) (o59 m lm (Ne.symm hm))
          have r5 : MR h5 s M := r9.mono fun b f => o59 b (r.lt f) (fun e => nh (e ▸ f))
          have o50 : ∀ b, b < h.size → b ≠ hb → b ≠ c → b ≠ m → ¬ mfoot s M b → h5[b]? = h[b]? := fun b q1 q2 q3 q4 q5 => by rw [o59 b q1 q2, o90 b q1 q3 q4]
          obtain ⟨GM, hGM⟩ : ∃ GM, GM = M := ⟨_, rfl⟩
          have G5 : Gone h h5 s M GM (memAt M) := by rw [hGM]; exact Gone.refl r5
          have nR : ∀ b, mfoot s GM b → b ≠ h.size := by rw [hGM]; exact fun b f e => nf h.size (Nat.le_refl _) (e ▸ f)
          clear hGM
          refine gs4 @fnL_len @pS5 @bR5 StopR.v.eq_1 ?_; (try with_reducible exact trivial)
          refine ⟨H5, by omega, ⟨GM, ?_, Ca5.mono (by (repeat (first | rw [h_pushL _ _ _ (by simp; omega)] | rw [h_pushL _ _ _ (by omega)] | rw [h_setN _ _ _ _ (by omega)]))) (by (repeat (first | rw [h_pushL _ _ _ (by simp; omega)] | rw [h_pushL _ _ _ (by omega)] | rw [h_setN _ _ _ _ (by omega)])))⟩, fun b q1 q2 q3 q4 q5 => ?_⟩
          · exact G5.mono (Nat.le_refl _) fun b f => by rw [h_setN _ _ _ _ (nR b f)]
          · rw [h_setN _ _ _ _ (by omega)]; exact o50 b q1 q2 q3 q4 q5))
     | (
      obtain ⟨Y, eY⟩ : ∃ Y : Heap, Y = (((h.push (.cells #[.int .i64 0, .int .i64 0, .int .u64 0] 49)).push (.cells (fnL 35 t.cell).toArray 63)).push (.cells #[.int .i64 0, .int .i64 0, .int .u64 0] 49)).push (.cells #[.int .i64 0, .int .i64 0, .int .i64 0, .int .i64 0, .int .i64 0, .int .i64 0, .int .i64 0] 47) := ⟨_, rfl⟩
      have KY : Keeps h.size h Y := by rw [eY]; exact (((Keeps.push _ _ (Nat.le_refl _)).push' (Nat.le_refl _)).push' (Nat.le_refl _)).push' (Nat.le_refl _)
      have zY : Y.size = h.size + 4 := by rw [eY]; simp
      have bRY : Y[h.size]? = some (.cells #[.int .i64 0, .int .i64 0, .int .u64 0] 49 (0, 0)) := by rw [eY]; refine gs0 ?_; (try with_reducible exact trivial)
      have btY : Y[h.size + 1]? = some (.cells (fnL 35 t.cell).toArray 63 (0, 0)) := by rw [eY]; refine gs0 ?_; (try with_reducible exact trivial)
      have pSY : Y[h.size + 2]? = some (.cells #[.int .i64 0, .int .i64 0, .int .u64 0] 49 (0, 0)) := by rw [eY]; refine gs0 ?_; (try with_reducible exact trivial)
      have pIY : Y[h.size + 3]? = some (.cells #[.int .i64 0, .int .i64 0, .int .i64 0, .int .i64 0, .int .i64 0, .int .i64 0, .int .i64 0] 47 (0, 0)) := by rw [eY]; refine gs0 ?_; (try with_reducible exact trivial)
      have bhY := KY.at H lh
      have kY : Ca Y s c m M := k.mono (KY.old _ lc) (KY.old _ lm)
      rw [← eY]
      refine FnK.use (kY.fetch pc (r.ext KY) lpc nc nm) ?_
      intro x h9 ⟨e9, k9, s9, o9⟩
      rw [hRR] at e9
      rw [e9]
      have bR := (o9 h.size (by omega) (by omega) (by omega)).trans bRY
      have bt := (o9 (h.size + 1) (by omega) (by omega) (by omega)).trans btY
      have bh := (o9 hb (by omega) hc hm).trans bhY
      have lR := getElem?_lt bR
      have lt := getElem?_lt bt
      have lh9 := getElem?_lt bh
      have r9 : MR h9 s M := (r.ext KY).mono fun b f => o9 b (by have := r.lt f; omega) (fun e => nc (e ▸ f)) (fun e => nm (e ▸ f))
      have o90 : ∀ b, b < h.size → b ≠ c → b ≠ m → h9[b]? = h[b]? := fun b q1 q2 q3 => by rw [o9 b (by omega) q2 q3, KY.old b q1]
      have pS := (o9 (h.size + 2) (by omega) (by omega) (by omega)).trans pSY
      have lS := getElem?_lt pS
      have pI := (o9 (h.size + 3) (by omega) (by omega) (by omega)).trans pIY
      have lI := getElem?_lt pI
      refine gs10 @fnL_len @one @setL_35 @bR @bt @pS @pI InstR.v.eq_1 StopR.v.eq_1 @tk ?_; (try with_reducible exact trivial)
      repeat' refine And.intro ?_ ?_
      all_goals
        first
        | (
          refine hhold_use (t := t) (s := s) (c := c) (by (repeat (first | rw [h_pushL _ _ _ (by simp; omega)] | rw [h_pushL _ _ _ (by omega)] | rw [h_setN _ _ _ _ (by omega)])); exact bh) (by (repeat (first | rw [h_pushL _ _ _ (by simp; omega)] | rw [h_pushL _ _ _ (by omega)] | rw [h_setN _ _ _ _ (by omega)]))) ?_
          intro h5 H5 z5 o5
          simp only [Array.size_push, Array.size_setIfInBounds] at z5
          have pS5 : h5[h.size + 2]? = some (.cells #[.int .i64 R2.kind, .int .i64 R2.fk, .int .u64 R2.fa] 49 (0, 0)) := (o5 (h.size + 2) (by omega)).trans (by refine gs2 @pS @pI ?_; (try with_reducible exact trivial))
          have bR5 : h5[h.size]? = some (.cells #[.int .i64 0, .int .i64 0, .int .u64 0] 49 (0, 0)) := (o5 h.size (by omega)).trans (by (repeat (first | rw [h_pushL _ _ _ (by simp; omega)] | rw [h_pushL _ _ _ (by omega)] | rw [h_setN _ _ _ _ (by omega)])); exact bR)
          have lS5 := getElem?_lt pS5
          have lR5 := getElem?_lt bR5
          have o59 : ∀ b, b < h.size → b ≠ hb → h5[b]? = h9[b]? := fun b q1 q2 => by rw [o5 b q2]; (repeat (first | rw [h_pushL _ _ _ (by simp; omega)] | rw [h_pushL _ _ _ (by omega)] | rw [h_setN _ _ _ _ (by omega)]))
          have Ca5 : Ca h5 s c m M := k9.mono (o59 c lc (Ne.symm hc)) (o59 m lm (Ne.symm hm))
          have r5 : MR h5 s M := r9.mono fun b f => o59 b (r.lt f) (fun e => nh (e ▸ f))
          have o50 : ∀ b, b < h.size → b ≠ hb → b ≠ c → b ≠ m → ¬ mfoot s M b → h5[b]? = h[b]? := fun b q1 q2 q3 q4 q5 => by rw [o59 b q1 q2, o90 b q1 q3 q4]
          obtain ⟨GM, hGM⟩ : ∃ GM, GM = M := ⟨_, rfl⟩
          have G5 : Gone h h5 s M GM (memAt M) := by rw [hGM]; exact Gone.refl r5
          have nR : ∀ b, mfoot s GM b → b ≠ h.size := by rw [hGM]; exact fun b f e => nf h.size (Nat.le_refl _) (e ▸ f)
          clear hGM
          refine gs4 @fnL_len @pS5 @bR5 StopR.v.eq_1 ?_; (try with_reducible exact trivial)
          refine ⟨H5, by omega, ⟨GM, ?_, Ca5.mono (by (repeat (first | rw [h_pushL _ _ _ (by simp; omega)] | rw [h_pushL _ _ _ (by omega)] | rw [h_setN _ _ _ _ (by omega)]))) (by (repeat (first | rw [h_pushL _ _ _ (by simp; omega)] | rw [h_pushL _ _ _ (by omega)] | rw [h_setN _ _ _ _ (by omega)])))⟩, fun b q1 q2 q3 q4 q5 => ?_⟩
          · exact G5.mono (Nat.le_refl _) fun b f => by rw [h_setN _ _ _ _ (nR b f)]
          · rw [h_setN _ _ _ _ (by omega)]; exact o50 b q1 q2 q3 q4 q5))
     | (
      obtain ⟨Y, eY⟩ : ∃ Y : Heap, Y = ((h.push (.cells #[.int .i64 0, .int .i64 0, .int .u64 0] 49)).push (.cells (fnL 35 t.cell).toArray 63)).push (.cells #[.int .i64 0, .int .i64 0, .int .i64 0, .int .i64 0, .int .i64 0, .int .i64 0, .int .i64 0] 47) := ⟨_, rfl⟩
      have KY : Keeps h.size h Y := by rw [eY]; exact ((Keeps.push _ _ (Nat.le_refl _)).push' (Nat.le_refl _)).push' (Nat.le_refl _)
      have zY : Y.size = h.size + 3 := by rw [eY]; simp
      have bRY : Y[h.size]? = some (.cells #[.int .i64 0, .int .i64 0, .int .u64 0] 49 (0, 0)) := by rw [eY]; refine gs0 ?_; (try with_reducible exact trivial)
      have btY : Y[h.size + 1]? = some (.cells (fnL 35 t.cell).toArray 63 (0, 0)) := by rw [eY]; refine gs0 ?_; (try with_reducible exact trivial)
      have pIY : Y[h.size + 2]? = some (.cells #[.int .i64 0, .int .i64 0, .int .i64 0, .int .i64 0, .int .i64 0, .int .i64 0, .int .i64 0] 47 (0, 0)) := by rw [eY]; refine gs0 ?_; (try with_reducible exact trivial)
      have bhY := KY.at H lh
      have kY : Ca Y s c m M := k.mono (KY.old _ lc) (KY.old _ lm)
      rw [← eY]
      refine FnK.use (kY.fetch pc (r.ext KY) lpc nc nm) ?_
      intro x h9 ⟨e9, k9, s9, o9⟩
      rw [hRR] at e9
      rw [e9]
      have bR := (o9 h.size (by omega) (by omega) (by omega)).trans bRY
      have bt := (o9 (h.size + 1) (by omega) (by omega) (by omega)).trans btY
      have bh := (o9 hb (by omega) hc hm).trans bhY
      have lR := getElem?_lt bR
      have lt := getElem?_lt bt
      have lh9 := getElem?_lt bh
      have r9 : MR h9 s M := (r.ext KY).mono fun b f => o9 b (by have := r.lt f; omega) (fun e => nc (e ▸ f)) (fun e => nm (e ▸ f))
      have o90 : ∀ b, b < h.size → b ≠ c → b ≠ m → h9[b]? = h[b]? := fun b q1 q2 q3 => by rw [o9 b (by omega) q2 q3, KY.old b q1]
      have pI := (o9 (h.size + 2) (by omega) (by omega) (by omega)).trans pIY
      have lI := getElem?_lt pI
      refine gs9 @fnL_len @one @setL_35 @bR @bt @pI InstR.v.eq_1 StopR.v.eq_1 @tk ?_; (try with_reducible exact trivial)
      repeat' refine And.intro ?_ ?_
      all_goals
        first
        | (
          refine hhold_use (t := t) (s := s) (c := c) (by (repeat (first | rw [h_pushL _ _ _ (by simp; omega)] | rw [h_pushL _ _ _ (by omega)] | rw [h_setN _ _ _ _ (by omega)])); exact bh) (by (repeat (first | rw [h_pushL _ _ _ (by simp; omega)] | rw [h_pushL _ _ _ (by omega)] | rw [h_setN _ _ _ _ (by omega)]))) ?_
          intro h5 H5 z5 o5
          simp only [Array.size_push, Array.size_setIfInBounds] at z5
          have pS5 : h5[h9.size]? = some (.cells #[.int .i64 R2.kind, .int .i64 R2.fk, .int .u64 R2.fa] 49 (0, 0)) := (o5 (h9.size) (by omega)).trans (by refine gs1 @pI ?_; (try with_reducible exact trivial))
          have bR5 : h5[h.size]? = some (.cells #[.int .i64 0, .int .i64 0, .int .u64 0] 49 (0, 0)) := (o5 h.size (by omega)).trans (by (repeat (first | rw [h_pushL _ _ _ (by simp; omega)] | rw [h_pushL _ _ _ (by omega)] | rw [h_setN _ _ _ _ (by omega)])); exact bR)
          have lS5 := getElem?_lt pS5
          have lR5 := getElem?_lt bR5
          have o59 : ∀ b, b < h.size → b ≠ hb → h5[b]? = h9[b]? := fun b q1 q2 => by rw [o5 b q2]; (repeat (first | rw [h_pushL _ _ _ (by simp; omega)] | rw [h_pushL _ _ _ (by omega)] | rw [h_setN _ _ _ _ (by omega)]))
          have Ca5 : Ca h5 s c m M := k9.mono (o59 c lc (Ne.symm hc)) (o59 m lm (Ne.symm hm))
          have r5 : MR h5 s M := r9.mono fun b f => o59 b (r.lt f) (fun e => nh (e ▸ f))
          have o50 : ∀ b, b < h.size → b ≠ hb → b ≠ c → b ≠ m → ¬ mfoot s M b → h5[b]? = h[b]? := fun b q1 q2 q3 q4 q5 => by rw [o59 b q1 q2, o90 b q1 q3 q4]
          obtain ⟨GM, hGM⟩ : ∃ GM, GM = M := ⟨_, rfl⟩
          have G5 : Gone h h5 s M GM (memAt M) := by rw [hGM]; exact Gone.refl r5
          have nR : ∀ b, mfoot s GM b → b ≠ h.size := by rw [hGM]; exact fun b f e => nf h.size (Nat.le_refl _) (e ▸ f)
          clear hGM
          refine gs4 @fnL_len @pS5 @bR5 StopR.v.eq_1 ?_; (try with_reducible exact trivial)
          refine ⟨H5, by omega, ⟨GM, ?_, Ca5.mono (by (repeat (first | rw [h_pushL _ _ _ (by simp; omega)] | rw [h_pushL _ _ _ (by omega)] | rw [h_setN _ _ _ _ (by omega)]))) (by (repeat (first | rw [h_pushL _ _ _ (by simp; omega)] | rw [h_pushL _ _ _ (by omega)] | rw [h_setN _ _ _ _ (by omega)])))⟩, fun b q1 q2 q3 q4 q5 => ?_⟩
          · exact G5.mono (Nat.le_refl _) fun b f => by rw [h_setN _ _ _ _ (nR b f)]
          · rw [h_setN _ _ _ _ (by omega)]; exact o50 b q1 q2 q3 q4 q5))
     | (
      obtain ⟨Y, eY⟩ : ∃ Y : Heap, Y = ((h.push (.cells #[.int .i64 0, .int .i64 0, .int .u64 0] 49)).push (.cells (fnL 35 t.cell).toArray 63)).push (.cells #[.int .i64 0, .int .i64 0, .int .u64 0] 49) := ⟨_, rfl⟩
      have KY : Keeps h.size h Y := by rw [eY]; exact ((Keeps.push _ _ (Nat.le_refl _)).push' (Nat.le_refl _)).push' (Nat.le_refl _)
      have zY : Y.size = h.size + 3 := by rw [eY]; simp
      have bRY : Y[h.size]? = some (.cells #[.int .i64 0, .int .i64 0, .int .u64 0] 49 (0, 0)) := by rw [eY]; refine gs0 ?_; (try with_reducible exact trivial)
      have btY : Y[h.size + 1]? = some (.cells (fnL 35 t.cell).toArray 63 (0, 0)) := by rw [eY]; refine gs0 ?_; (try with_reducible exact trivial)
      have pSY : Y[h.size + 2]? = some (.cells #[.int .i64 0, .int .i64 0, .int .u64 0] 49 (0, 0)) := by rw [eY]; refine gs0 ?_; (try with_reducible exact trivial)
      have bhY := KY.at H lh
      have kY : Ca Y s c m M := k.mono (KY.old _ lc) (KY.old _ lm)
      rw [← eY]
      refine FnK.use (kY.fetch pc (r.ext KY) lpc nc nm) ?_
      intro x h9 ⟨e9, k9, s9, o9⟩
      rw [hRR] at e9
      rw [e9]
      have bR := (o9 h.size (by omega) (by omega) (by omega)).trans bRY
      have bt := (o9 (h.size + 1) (by omega) (by omega) (by omega)).trans btY
      have bh := (o9 hb (by omega) hc hm).trans bhY
      have lR := getElem?_lt bR
      have lt := getElem?_lt bt
      have lh9 := getElem?_lt bh
      have r9 : MR h9 s M := (r.ext KY).mono fun b f => o9 b (by have := r.lt f; omega) (fun e => nc (e ▸ f)) (fun e => nm (e ▸ f))
      have o90 : ∀ b, b < h.size → b ≠ c → b ≠ m → h9[b]? = h[b]? := fun b q1 q2 q3 => by rw [o9 b (by omega) q2 q3, KY.old b q1]
      have pS := (o9 (h.size + 2) (by omega) (by omega) (by omega)).trans pSY
      have lS := getElem?_lt pS
      refine gs9 @fnL_len @one @setL_35 @bR @bt @pS InstR.v.eq_1 StopR.v.eq_1 @tk ?_; (try with_reducible exact trivial)
      repeat' refine And.intro ?_ ?_
      all_goals
        first
        | (
          refine hhold_use (t := t) (s := s) (c := c) (by (repeat (first | rw [h_pushL _ _ _ (by simp; omega)] | rw [h_pushL _ _ _ (by omega)] | rw [h_setN _ _ _ _ (by omega)])); exact bh) (by (repeat (first | rw [h_pushL _ _ _ (by simp; omega)] | rw [h_pushL _ _ _ (by omega)] | rw [h_setN _ _ _ _ (by omega)]))) ?_
          intro h5 H5 z5 o5
          simp only [Array.size_push, Array.size_setIfInBounds] at z5
          have pS5 : h5[h.size + 2]? = some (.cells #[.int .i64 R2.kind, .int .i64 R2.fk, .int .u64 R2.fa] 49 (0, 0)) := (o5 (h.size + 2) (by omega)).trans (by refine gs1 @pS ?_; (try with_reducible exact trivial))
          have bR5 : h5[h.size]? = some (.cells #[.int .i64 0, .int .i64 0, .int .u64 0] 49 (0, 0)) := (o5 h.size (by omega)).trans (by (repeat (first | rw [h_pushL _ _ _ (by simp; omega)] | rw [h_pushL _ _ _ (by omega)] | rw [h_setN _ _ _ _ (by omega)])); exact bR)
          have lS5 := getElem?_lt pS5
          have lR5 := getElem?_lt bR5
          have o59 : ∀ b, b < h.size → b ≠ hb → h5[b]? = h9[b]? := fun b q1 q2 => by rw [o5 b q2]; (repeat (first | rw [h_pushL _ _ _ (by simp; omega)] | rw [h_pushL _ _ _ (by omega)] | rw [h_setN _ _ _ _ (by omega)]))
          have Ca5 : Ca h5 s c m M := k9.mono (o59 c lc (Ne.symm hc)) (o59 m lm (Ne.symm hm))
          have r5 : MR h5 s M := r9.mono fun b f => o59 b (r.lt f) (fun e => nh (e ▸ f))
          have o50 : ∀ b, b < h.size → b ≠ hb → b ≠ c → b ≠ m → ¬ mfoot s M b → h5[b]? = h[b]? := fun b q1 q2 q3 q4 q5 => by rw [o59 b q1 q2, o90 b q1 q3 q4]
          obtain ⟨GM, hGM⟩ : ∃ GM, GM = M := ⟨_, rfl⟩
          have G5 : Gone h h5 s M GM (memAt M) := by rw [hGM]; exact Gone.refl r5
          have nR : ∀ b, mfoot s GM b → b ≠ h.size := by rw [hGM]; exact fun b f e => nf h.size (Nat.le_refl _) (e ▸ f)
          clear hGM
          refine gs4 @fnL_len @pS5 @bR5 StopR.v.eq_1 ?_; (try with_reducible exact trivial)
          refine ⟨H5, by omega, ⟨GM, ?_, Ca5.mono (by (repeat (first | rw [h_pushL _ _ _ (by simp; omega)] | rw [h_pushL _ _ _ (by omega)] | rw [h_setN _ _ _ _ (by omega)]))) (by (repeat (first | rw [h_pushL _ _ _ (by simp; omega)] | rw [h_pushL _ _ _ (by omega)] | rw [h_setN _ _ _ _ (by omega)])))⟩, fun b q1 q2 q3 q4 q5 => ?_⟩
          · exact G5.mono (Nat.le_refl _) fun b f => by rw [h_setN _ _ _ _ (nR b f)]
          · rw [h_setN _ _ _ _ (by omega)]; exact o50 b q1 q2 q3 q4 q5))
     | (
      obtain ⟨Y, eY⟩ : ∃ Y : Heap, Y = (h.push (.cells #[.int .i64 0, .int .i64 0, .int .u64 0] 49)).push (.cells (fnL 35 t.cell).toArray 63) := ⟨_, rfl⟩
      have KY : Keeps h.size h Y := by rw [eY]; exact (Keeps.push _ _ (Nat.le_refl _)).push' (Nat.le_refl _)
      have zY : Y.size = h.size + 2 := by rw [eY]; simp
      have bRY : Y[h.size]? = some (.cells #[.int .i64 0, .int .i64 0, .int .u64 0] 49 (0, 0)) := by rw [eY]; refine gs0 ?_; (try with_reducible exact trivial)
      have btY : Y[h.size + 1]? = some (.cells (fnL 35 t.cell).toArray 63 (0, 0)) := by rw [eY]; refine gs0 ?_; (try with_reducible exact trivial)
      have bhY := KY.at H lh
      have kY : Ca Y s c m M := k.mono (KY.old _ lc) (KY.old _ lm)
      rw [← eY]
      refine FnK.use (kY.fetch pc (r.ext KY) lpc nc nm) ?_
      intro x h9 ⟨e9, k9, s9, o9⟩
      rw [hRR] at e9
      rw [e9]
      have bR := (o9 h.size (by omega) (by omega) (by omega)).trans bRY
      have bt := (o9 (h.size + 1) (by omega) (by omega) (by omega)).trans btY
      have bh := (o9 hb (by omega) hc hm).trans bhY
      have lR := getElem?_lt bR
      have lt := getElem?_lt bt
      have lh9 := getElem?_lt bh
      have r9 : MR h9 s M := (r.ext KY).mono fun b f => o9 b (by have := r.lt f; omega) (fun e => nc (e ▸ f)) (fun e => nm (e ▸ f))
      have o90 : ∀ b, b < h.size → b ≠ c → b ≠ m → h9[b]? = h[b]? := fun b q1 q2 q3 => by rw [o9 b (by omega) q2 q3, KY.old b q1]
      refine gs8 @fnL_len @one @setL_35 @bR @bt InstR.v.eq_1 StopR.v.eq_1 @tk ?_; (try with_reducible exact trivial)
      repeat' refine And.intro ?_ ?_
      all_goals
        first
        | (
          refine hhold_use (t := t) (s := s) (c := c) (by (repeat (first | rw [h_pushL _ _ _ (by simp; omega)] | rw [h_pushL _ _ _ (by omega)] | rw [h_setN _ _ _ _ (by omega)])); exact bh) (by (repeat (first | rw [h_pushL _ _ _ (by simp; omega)] | rw [h_pushL _ _ _ (by omega)] | rw [h_setN _ _ _ _ (by omega)]))) ?_
          intro h5 H5 z5 o5
          simp only [Array.size_push, Array.size_setIfInBounds] at z5
          have pS5 : h5[h9.size + 1]? = some (.cells #[.int .i64 R2.kind, .int .i64 R2.fk, .int .u64 R2.fa] 49 (0, 0)) := (o5 (h9.size + 1) (by omega)).trans (by refine gs1 @h_pushE ?_; (try with_reducible exact trivial))
          have bR5 : h5[h.size]? = some (.cells #[.int .i64 0, .int .i64 0, .int .u64 0] 49 (0, 0)) := (o5 h.size (by omega)).trans (by (repeat (first | rw [h_pushL _ _ _ (by simp; omega)] | rw [h_pushL _ _ _ (by omega)] | rw [h_setN _ _ _ _ (by omega)])); exact bR)
          have lS5 := getElem?_lt pS5
          have lR5 := getElem?_lt bR5
          have o59 : ∀ b, b < h.size → b ≠ hb → h5[b]? = h9[b]? := fun b q1 q2 => by rw [o5 b q2]; (repeat (first | rw [h_pushL _ _ _ (by simp; omega)] | rw [h_pushL _ _ _ (by omega)] | rw [h_setN _ _ _ _ (by omega)]))
          have Ca5 : Ca h5 s c m M := k9.mono (o59 c lc (Ne.symm hc)) (o59 m lm (Ne.symm hm))
          have r5 : MR h5 s M := r9.mono fun b f => o59 b (r.lt f) (fun e => nh (e ▸ f))
          have o50 : ∀ b, b < h.size → b ≠ hb → b ≠ c → b ≠ m → ¬ mfoot s M b → h5[b]? = h[b]? := fun b q1 q2 q3 q4 q5 => by rw [o59 b q1 q2, o90 b q1 q3 q4]
          obtain ⟨GM, hGM⟩ : ∃ GM, GM = M := ⟨_, rfl⟩
          have G5 : Gone h h5 s M GM (memAt M) := by rw [hGM]; exact Gone.refl r5
          have nR : ∀ b, mfoot s GM b → b ≠ h.size := by rw [hGM]; exact fun b f e => nf h.size (Nat.le_refl _) (e ▸ f)
          clear hGM
          refine gs4 @fnL_len @pS5 @bR5 StopR.v.eq_1 ?_; (try with_reducible exact trivial)
          refine ⟨H5, by omega, ⟨GM, ?_, Ca5.mono (by (repeat (first | rw [h_pushL _ _ _ (by simp; omega)] | rw [h_pushL _ _ _ (by omega)] | rw [h_setN _ _ _ _ (by omega)]))) (by (repeat (first | rw [h_pushL _ _ _ (by simp; omega)] | rw [h_pushL _ _ _ (by omega)] | rw [h_setN _ _ _ _ (by omega)])))⟩, fun b q1 q2 q3 q4 q5 => ?_⟩
          · exact G5.mono (Nat.le_refl _) fun b f => by rw [h_setN _ _ _ _ (nR b f)]
          · rw [h_setN _ _ _ _ (by omega)]; exact o50 b q1 q2 q3 q4 q5)
        | (
          refine hhold_use (t := t) (s := s) (c := c) (by (repeat (first | rw [h_pushL _ _ _ (by simp; omega)] | rw [h_pushL _ _ _ (by omega)] | rw [h_setN _ _ _ _ (by omega)])); exact bh) (by (repeat (first | rw [h_pushL _ _ _ (by simp; omega)] | rw [h_pushL _ _ _ (by omega)] | rw [h_setN _ _ _ _ (by omega)]))) ?_
          intro h5 H5 z5 o5
          simp only [Array.size_push, Array.size_setIfInBounds] at z5
          have pS5 : h5[h9.size]? = some (.cells #[.int .i64 R2.kind, .int .i64 R2.fk, .int .u64 R2.fa] 49 (0, 0)) := (o5 (h9.size) (by omega)).trans (by refine gs1 @h_pushE ?_; (try with_reducible exact trivial))
          have bR5 : h5[h.size]? = some (.cells #[.int .i64 0, .int .i64 0, .int .u64 0] 49 (0, 0)) := (o5 h.size (by omega)).trans (by (repeat (first | rw [h_pushL _ _ _ (by simp; omega)] | rw [h_pushL _ _ _ (by omega)] | rw [h_setN _ _ _ _ (by omega)])); exact bR)
          have lS5 := getElem?_lt pS5
          have lR5 := getElem?_lt bR5
          have o59 : ∀ b, b < h.size → b ≠ hb → h5[b]? = h9[b]? := fun b q1 q2 => by rw [o5 b q2]; (repeat (first | rw [h_pushL _ _ _ (by simp; omega)] | rw [h_pushL _ _ _ (by omega)] | rw [h_setN _ _ _ _ (by omega)]))
          have Ca5 : Ca h5 s c m M := k9.mono (o59 c lc (Ne.symm hc)) (o59 m lm (Ne.symm hm))
          have r5 : MR h5 s M := r9.mono fun b f => o59 b (r.lt f) (fun e => nh (e ▸ f))
          have o50 : ∀ b, b < h.size → b ≠ hb → b ≠ c → b ≠ m → ¬ mfoot s M b → h5[b]? = h[b]? := fun b q1 q2 q3 q4 q5 => by rw [o59 b q1 q2, o90 b q1 q3 q4]
          obtain ⟨GM, hGM⟩ : ∃ GM, GM = M := ⟨_, rfl⟩
          have G5 : Gone h h5 s M GM (memAt M) := by rw [hGM]; exact Gone.refl r5
          have nR : ∀ b, mfoot s GM b → b ≠ h.size := by rw [hGM]; exact fun b f e => nf h.size (Nat.le_refl _) (e ▸ f)
          clear hGM
          refine gs4 @fnL_len @pS5 @bR5 StopR.v.eq_1 ?_; (try with_reducible exact trivial)
          refine ⟨H5, by omega, ⟨GM, ?_, Ca5.mono (by (repeat (first | rw [h_pushL _ _ _ (by simp; omega)] | rw [h_pushL _ _ _ (by omega)] | rw [h_setN _ _ _ _ (by omega)]))) (by (repeat (first | rw [h_pushL _ _ _ (by simp; omega)] | rw [h_pushL _ _ _ (by omega)] | rw [h_setN _ _ _ _ (by omega)])))⟩, fun b q1 q2 q3 q4 q5 => ?_⟩
          · exact G5.mono (Nat.le_refl _) fun b f => by rw [h_setN _ _ _ _ (nR b f)]
          · rw [h_setN _ _ _ _ (by omega)]; exact o50 b q1 q2 q3 q4 q5))
theorem step_d {h : Heap} {hb s c m : Nat} {M : MemD} (t : HS) (H : h[hb]? = some (.cells (fnL 37 (hg t s c)).toArray 120 (0, 0))) (tok : t.ok) (r : MR h s M) (k : Ca h s c m M) (nc : ¬ mfoot s M c) (nm : ¬ mfoot s M m) (nh : ¬ mfoot s M hb) (hc : hb ≠ c) (hm : hb ≠ m)
    (R1 : InstR) (R2 : StopR) (hRR : readF M.rs (memAt M) t.pc.toNat = (R1, R2)) (tk : (R2.kind = 0) = True) (iok : R1.ok) (D : Out) (hD : doF M.rs (memAt M) t R1 = D) (tk2 : (D.st.kind = 0) = False) (O : Out) (hO : O = ⟨D.st, { t with ha := 0, hn := 0 }, D.B⟩) :
    Fn Tryz.prog 31 [ptr hb 0] h fun x h' => x = (O.st).v ∧ h'[hb]? = some (.cells (fnL 37 (hg O.t s c)).toArray 120 (0, 0)) ∧ h.size ≤ h'.size ∧ (∃ M', Gone h h' s M M' O.B ∧ Ca h' s c m M) ∧ ∀ b, b < h.size → b ≠ hb → b ≠ c → b ≠ m → ¬ mfoot s M b → h'[b]? = h[b]? := by
  have lh := getElem?_lt H
  obtain ⟨lc, lm⟩ := k.lt
  have one := cell_one t
  have l1 : cellsO 0 35 h[hb]? = some (fnL 35 t.cell) := by rw [H, fnL_cells (by omega)]; simp only [Nat.zero_add]; exact congrArg some (hg_cells t s c)
  have c35 : cellO 35 h[hb]? = some (ptr s 0) := by rw [H, fnL_cell (by omega)]; rfl
  have c36 : cellO 36 h[hb]? = some (ptr c 0) := by rw [H, fnL_cell (by omega)]; rfl
  have t0 : cellO 0 (some (.cells (fnL 35 t.cell).toArray 63 (0, 0))) = some (.int .u64 t.pc) := by rw [fnL_cell (by omega)]; rfl
  obtain ⟨pc, hpc, lpc⟩ : ∃ n : Nat, t.pc = (n : Int) ∧ n < 18446744073709551616 := ⟨t.pc.toNat, by have := tok.pc; unfold u64R at this; omega, by have := tok.pc; unfold u64R at this; omega⟩
  rw [hpc] at t0
  have epc : t.pc.toNat = pc := by rw [hpc]; rfl
  have nf : ∀ j, h.size ≤ j → ¬ mfoot s M j := fun j q f => by have := r.lt f; omega
  rw [epc] at hRR
  subst hO
  refine Fn_c Tryz.func31 mixed c31 (by kernel_rfl) ?_; rw [r31]
  refine gs7 @fnL_len @l1 @one @setL_35 @c35 @c36 @t0 ?_; (try with_reducible exact trivial)
  repeat' refine And.intro ?_ ?_
  all_goals
     first
     | (
      obtain ⟨Y, eY⟩ : ∃ Y : Heap, Y = (((h.push (.cells #[.int .i64 0, .int .i64 0, .int .u64 0] 49)).push (.cells (fnL 35 t.cell).toArray 63)).push (.cells #[.int .i64 0, .int .i64 0, .int .i64 0, .int .i64 0, .int .i64 0, .int .i64 0, .int .i64 0] 47)).push (.cells #[.int .i64 0, .int .i64 0, .int .u64 0] 49) := ⟨_, rfl⟩
      have KY : Keeps h.size h Y := by rw [eY]; exact (((Keeps.push _ _ (Nat.le_refl _)).push' (Nat.le_refl _)).push' (Nat.le_refl _)).push' (Nat.le_refl _)
      have zY : Y.size = h.size + 4 := by rw [eY]; simp
      have bRY : Y[h.size]? = some (.cells #[.int .i64 0, .int .i64 0, .int .u64 0] 49 (0, 0)) := by rw [eY]; refine gs0 ?_; (try with_reducible exact trivial)
      have btY : Y[h.size + 1]? = some (.cells (fnL 35 t.cell).toArray 63 (0, 0)) := by rw [eY]; refine gs0 ?_; (try with_reducible exact trivial)
      have pIY : Y[h.size + 2]? = some (.cells #[.int .i64 0, .int .i64 0, .int .i64 0, .int .i64 0, .int .i64 0, .int .i64 0, .int .i64 0] 47 (0, 0)) := by rw [eY]; refine gs0 ?_; (try with_reducible exact trivial)
      have pSY : Y[h.size + 3]? = some (.cells #[.int .i64 0, .int .i64 0, .int .u64 0] 49 (0, 0)) := by rw [eY]; refine gs0 ?_; (try with_reducible exact trivial)
      have bhY := KY.at H lh
      have kY : Ca Y s c m M := k.mono (KY.old _ lc) (KY.old _ lm)
      rw [← eY]
      refine FnK.use (kY.fetch pc (r.ext KY) lpc nc nm) ?_
      intro x h9 ⟨e9, k9, s9, o9⟩
      rw [hRR] at e9
      rw [e9]
      have bR := (o9 h.size (by omega) (by omega) (by omega)).trans bRY
      have bt := (o9 (h.size + 1) (by omega) (by omega) (by omega)).trans btY
      have bh := (o9 hb (by omega) hc hm).trans bhY
      have lR := getElem?_lt bR
      have lt := getElem?_lt bt
      have lh9 := getElem?_lt bh
      have r9 : MR h9 s M := (r.ext KY).mono fun b f => o9 b (by have := r.lt f; omega) (fun e => nc (e ▸ f)) (fun e => nm (e ▸ f))
      have o90 : ∀ b, b < h.size → b ≠ c → b ≠ m → h9[b]? = h[b]? := fun b q1 q2 q3 => by rw [o9 b (by omega) q2 q3, KY.old b q1]
      have pI := (o9 (h.size + 2) (by omega) (by omega) (by omega)).trans pIY
      have lI := getElem?_lt pI
      have pS := (o9 (h.size + 3) (by omega) (by omega) (by omega)).trans pSY
      have lS := getElem?_lt pS
      refine gs10 @fnL_len @one @setL_35 @bR @bt @pI @pS InstR.v.eq_1 StopR.v.eq_1 @tk ?_; (try with_reducible exact trivial)
      repeat' refine And.intro ?_ ?_
      all_goals
        first
        | (
          refine FnK.use (do_g (hb := hb) (tb := h.size + 1) (s := s) (M := M) (g := hg t s c) t R1 (by (repeat (first | rw [h_pushL _ _ _ (by simp; omega)] | rw [h_pushL _ _ _ (by omega)] | rw [h_setN _ _ _ _ (by omega)])); exact bh) rfl (by (repeat (first | rw [h_pushL _ _ _ (by simp; omega)] | rw [h_pushL _ _ _ (by omega)] | rw [h_setN _ _ _ _ (by omega)])); exact bt) tok iok (r9.mono fun b f => by (have := r.lt f; (repeat (first | rw [h_pushL _ _ _ (by simp; omega)] | rw [h_pushL _ _ _ (by omega)] | rw [h_setN _ _ _ _ (by omega)])))) (nf _ (by omega)) (by omega)) ?_
          intro x h10 ⟨e10, T10, s10, ⟨GM, G10⟩, o10⟩
          simp only [Array.size_push, Array.size_setIfInBounds] at s10 o10
          rw [hD] at e10 T10 G10
          rw [e10]
          have pS10 : h10[h.size + 3]? = some (.cells #[.int .i64 R2.kind, .int .i64 R2.fk, .int .u64 R2.fa] 49 (0, 0)) := (o10 (h.size + 3) (by omega) (by omega) (nf _ (by omega))).trans (by refine gs2 @pI @pS ?_; (try with_reducible exact trivial))
          have bR10 : h10[h.size]? = some (.cells #[.int .i64 0, .int .i64 0, .int .u64 0] 49 (0, 0)) := (o10 h.size (by omega) (by omega) (nf _ (by omega))).trans (by (repeat (first | rw [h_pushL _ _ _ (by simp; omega)] | rw [h_pushL _ _ _ (by omega)] | rw [h_setN _ _ _ _ (by omega)])); exact bR)
          have lS10 := getElem?_lt pS10
          have lR10 := getElem?_lt bR10
          have o109 : ∀ b, b < h.size → ¬ mfoot s M b → h10[b]? = h9[b]? := fun b q1 q2 => (o10 b (by omega) (by omega) q2).trans (by (repeat (first | rw [h_pushL _ _ _ (by simp; omega)] | rw [h_pushL _ _ _ (by omega)] | rw [h_setN _ _ _ _ (by omega)])))
          have bh10 := (o109 hb lh nh).trans bh
          have lt10 := getElem?_lt T10
          have l10 : cellsO 0 35 h10[h.size + 1]? = some (fnL 35 D.t.cell) := by rw [T10, fnL_cells (by omega)]; simp
          have Ca10 : Ca h10 s c m M := k9.mono (o109 c lc nc) (o109 m lm nm)
          have nfG : ∀ b, mfoot s GM b → b < h.size ∨ h9.size ≤ b := fun b f => by
            rcases G10.ft b f with z | z
            · exact .inl (r.lt z)
            · simp only [Array.size_push, Array.size_setIfInBounds] at z; exact .inr (by omega)
          have nhG : ¬ mfoot s GM hb := fun f => by
            rcases G10.ft hb f with z | z
            · exact nh z
            · simp only [Array.size_push, Array.size_setIfInBounds] at z; omega
          have nR : ∀ b, mfoot s GM b → b ≠ h.size := fun b f e => by rcases nfG b f with z | z <;> omega
          have nS : ∀ b, mfoot s GM b → b ≠ h.size + 3 := fun b f e => by
            rcases G10.ft b f with z | z
            · exact nf _ (by omega) (e ▸ z)
            · simp only [Array.size_push, Array.size_setIfInBounds] at z; omega
          refine gs7 @fnL_len @one @setL_35 @pS10 StopR.v.eq_1 @tk2 @l10 ?_; (try with_reducible exact trivial)
          refine hhold_use (t := t) (s := s) (c := c) (by (repeat (first | rw [h_pushL _ _ _ (by simp; omega)] | rw [h_pushL _ _ _ (by omega)] | rw [h_setN _ _ _ _ (by omega)])); exact bh10) (by (repeat (first | rw [h_pushL _ _ _ (by simp; omega)] | rw [h_pushL _ _ _ (by omega)] | rw [h_setN _ _ _ _ (by omega)]))) ?_
          intro h5 H5 z5 o5
          simp only [Array.size_push, Array.size_setIfInBounds] at z5
          have pS5 : h5[h.size + 3]? = some (.cells #[.int .i64 D.st.kind, .int .i64 D.st.fk, .int .u64 D.st.fa] 49 (0, 0)) := (o5 (h.size + 3) (by omega)).trans (h_setS _ _ _ lS10)
          have bR5 : h5[h.size]? = some (.cells #[.int .i64 0, .int .i64 0, .int .u64 0] 49 (0, 0)) := (o5 h.size (by omega)).trans (by (repeat (first | rw [h_pushL _ _ _ (by simp; omega)] | rw [h_pushL _ _ _ (by omega)] | rw [h_setN _ _ _ _ (by omega)])); exact bR10)
          have lS5 := getElem?_lt pS5
          have lR5 := getElem?_lt bR5
          have o510 : ∀ b, b < h.size → b ≠ hb → h5[b]? = h10[b]? := fun b q1 q2 => by rw [o5 b q2]; (repeat (first | rw [h_pushL _ _ _ (by simp; omega)] | rw [h_pushL _ _ _ (by omega)] | rw [h_setN _ _ _ _ (by omega)]))
          have Ca5 : Ca h5 s c m M := Ca10.mono (o510 c lc (Ne.symm hc)) (o510 m lm (Ne.symm hm))
          have o50 : ∀ b, b < h.size → b ≠ hb → b ≠ c → b ≠ m → ¬ mfoot s M b → h5[b]? = h[b]? := fun b q1 q2 q3 q4 q5 => by rw [o510 b q1 q2, o109 b q1 q5, o90 b q1 q3 q4]
          have G5 : Gone h h5 s M GM D.B := G10.mono (by simp only [Array.size_push, Array.size_setIfInBounds]; omega) fun b f => by rw [o5 b (fun e => nhG (e ▸ f)), h_setN _ _ _ _ (nS b f)]
          refine gs4 @fnL_len @pS5 @bR5 StopR.v.eq_1 ?_; (try with_reducible exact trivial)
          refine ⟨H5, by omega, ⟨GM, ?_, Ca5.mono (by (repeat (first | rw [h_pushL _ _ _ (by simp; omega)] | rw [h_pushL _ _ _ (by omega)] | rw [h_setN _ _ _ _ (by omega)]))) (by (repeat (first | rw [h_pushL _ _ _ (by simp; omega)] | rw [h_pushL _ _ _ (by omega)] | rw [h_setN _ _ _ _ (by omega)])))⟩, fun b q1 q2 q3 q4 q5 => ?_⟩
          · exact G5.mono (Nat.le_refl _) fun b f => by rw [h_setN _ _ _ _ (nR b f)]
          · rw [h_setN _ _ _ _ (by omega)]; exact o50 b q1 q2 q3 q4 q5))
     | (
      obtain ⟨Y, eY⟩ : ∃ Y : Heap, Y = (((h.push (.cells #[.int .i64 0, .int .i64 0, .int .u64 0] 49)).push (.cells (fnL 35 t.cell).toArray 63)).push (.cells #[.int .i64 0, .int .i64 0, .int .u64 0] 49)).push (.cells #[.int .i64 0, .int .i64 0, .int .i64 0, .int .i64 0, .int .i64 0, .int .i64 0, .int .i64 0] 47) := ⟨_, rfl⟩
      have KY : Keeps h.size h Y := by rw [eY]; exact (((Keeps.push _ _ (Nat.le_refl _)).push' (Nat.le_refl _)).push' (Nat.le_refl _)).push' (Nat.le_refl _)
      have zY : Y.size = h.size + 4 := by rw [eY]; simp
      have bRY : Y[h.size]? = some (.cells #[.int .i64 0, .int .i64 0, .int .u64 0] 49 (0, 0)) := by rw [eY]; refine gs0 ?_; (try with_reducible exact trivial)
      have btY : Y[h.size + 1]? = some (.cells (fnL 35 t.cell).toArray 63 (0, 0)) := by rw [eY]; refine gs0 ?_; (try with_reducible exact trivial)
      have pSY : Y[h.size + 2]? = some (.cells #[.int .i64 0, .int .i64 0, .int .u64 0] 49 (0, 0)) := by rw [eY]; refine gs0 ?_; (try with_reducible exact trivial)
      have pIY : Y[h.size + 3]? = some (.cells #[.int .i64 0, .int .i64 0, .int .i64 0, .int .i64 0, .int .i64 0, .int .i64 0, .int .i64 0] 47 (0, 0)) := by rw [eY]; refine gs0 ?_; (try with_reducible exact trivial)
      have bhY := KY.at H lh
      have kY : Ca Y s c m M := k.mono (KY.old _ lc) (KY.old _ lm)
      rw [← eY]
      refine FnK.use (kY.fetch pc (r.ext KY) lpc nc nm) ?_
      intro x h9 ⟨e9, k9, s9, o9⟩
      rw [hRR] at e9
      rw [e9]
      have bR := (o9 h.size (by omega) (by omega) (by omega)).trans bRY
      have bt := (o9 (h.size + 1) (by omega) (by omega) (by omega)).trans btY
      have bh := (o9 hb (by omega) hc hm).trans bhY
      have lR := getElem?_lt bR
      have lt := getElem?_lt bt
      have lh9 := getElem?_lt bh
      have r9 : MR h9 s M := (r.ext KY).mono fun b f => o9 b (by have := r.lt f; omega) (fun e => nc (e ▸ f)) (fun e => nm (e ▸ f))
      have o90 : ∀ b, b < h.size → b ≠ c → b ≠ m → h9[b]? = h[b]? := fun b q1 q2 q3 => by rw [o9 b (by omega) q2 q3, KY.old b q1]
      have pS := (o9 (h.size + 2) (by omega) (by omega) (by omega)).trans pSY
      have lS := getElem?_lt pS
      have pI := (o9 (h.size + 3) (by omega) (by omega) (by omega)).trans pIY
      have lI := getElem?_lt pI
      refine gs10 @fnL_len @one @setL_35 @bR @bt @pS @pI InstR.v.eq_1 StopR.v.eq_1 @tk ?_; (try with_reducible exact trivial)
      repeat' refine And.intro ?_ ?_
      all_goals
        first
        | (
          refine FnK.use (do_g (hb := hb) (tb := h.size + 1) (s := s) (M := M) (g := hg t s c) t R1 (by (repeat (first | rw [h_pushL _ _ _ (by simp; omega)] | rw [h_pushL _ _ _ (by omega)] | rw [h_setN _ _ _ _ (by omega)])); exact bh) rfl (by (repeat (first | rw [h_pushL _ _ _ (by simp; omega)] | rw [h_pushL _ _ _ (by omega)] | rw [h_setN _ _ _ _ (by omega)])); exact bt) tok iok (r9.mono fun b f => by (have := r.lt f; (repeat (first | rw [h_pushL _ _ _ (by simp; omega)] | rw [h_pushL _ _ _ (by omega)] | rw [h_setN _ _ _ _ (by omega)])))) (nf _ (by omega)) (by omega)) ?_
          intro x h10 ⟨e10, T10, s10, ⟨GM, G10⟩, o10⟩
          simp only [Array.size_push, Array.size_setIfInBounds] at s10 o10
          rw [hD] at e10 T10 G10
          rw [e10]
          have pS10 : h10[h.size + 2]? = some (.cells #[.int .i64 R2.kind, .int .i64 R2.fk, .int .u64 R2.fa] 49 (0, 0)) := (o10 (h.size + 2) (by omega) (by omega) (nf _ (by omega))).trans (by refine gs2 @pS @pI ?_; (try with_reducible exact trivial))
          have bR10 : h10[h.size]? = some (.cells #[.int .i64 0, .int .i64 0, .int .u64 0] 49 (0, 0)) := (o10 h.size (by omega) (by omega) (nf _ (by omega))).trans (by (repeat (first | rw [h_pushL _ _ _ (by simp; omega)] | rw [h_pushL _ _ _ (by omega)] | rw [h_setN _ _ _ _ (by omega)])); exact bR)
          have lS10 := getElem?_lt pS10
          have lR10 := getElem?_lt bR10
          have o109 : ∀ b, b < h.size → ¬ mfoot s M b → h10[b]? = h9[b]? := fun b q1 q2 => (o10 b (by omega) (by omega) q2).trans (by (repeat (first | rw [h_pushL _ _ _ (by simp; omega)] | rw [h_pushL _ _ _ (by omega)] | rw [h_setN _ _ _ _ (by omega)])))
          have bh10 := (o109 hb lh nh).trans bh
          have lt10 := getElem?_lt T10
          have l10 : cellsO 0 35 h10[h.size + 1]? = some (fnL 35 D.t.cell) := by rw [T10, fnL_cells (by omega)]; simp
          have Ca10 : Ca h10 s c m M := k9.mono (o109 c lc nc) (o109 m lm nm)
          have nfG : ∀ b, mfoot s GM b → b < h.size ∨ h9.size ≤ b := fun b f => by
            rcases G10.ft b f with z | z
            · exact .inl (r.lt z)
            · simp only [Array.size_push, Array.size_setIfInBounds] at z; exact .inr (by omega)
          have nhG : ¬ mfoot s GM hb := fun f => by
            rcases G10.ft hb f with z | z
            · exact nh z
            · simp only [Array.size_push, Array.size_setIfInBounds] at z; omega
          have nR : ∀ b, mfoot s GM b → b ≠ h.size := fun b f e => by rcases nfG b f with z | z <;> omega
          have nS : ∀ b, mfoot s GM b → b ≠ h.size + 2 := fun b f e => by
            rcases G10.ft b f with z | z
            · exact nf _ (by omega) (e ▸ z)
            · simp only [Array.size_push, Array.size_setIfInBounds] at z; omega
          refine gs7 @fnL_len @one @setL_35 @pS10 StopR.v.eq_1 @tk2 @l10 ?_; (try with_reducible exact trivial)
          refine hhold_use (t := t) (s := s) (c := c) (by (repeat (first | rw [h_pushL _ _ _ (by simp; omega)] | rw [h_pushL _ _ _ (by omega)] | rw [h_setN _ _ _ _ (by omega)])); exact bh10) (by (repeat (first | rw [h_pushL _ _ _ (by simp; omega)] | rw [h_pushL _ _ _ (by omega)] | rw [h_setN _ _ _ _ (by omega)]))) ?_
          intro h5 H5 z5 o5
          simp only [Array.size_push, Array.size_setIfInBounds] at z5
          have pS5 : h5[h.size + 2]? = some (.cells #[.int .i64 D.st.kind, .int .i64 D.st.fk, .int .u64 D.st.fa] 49 (0, 0)) := (o5 (h.size + 2) (by omega)).trans (h_setS _ _ _ lS10)
          have bR5 : h5[h.size]? = some (.cells #[.int .i64 0, .int .i64 0, .int .u64 0] 49 (0, 0)) := (o5 h.size (by omega)).trans (by (repeat (first | rw [h_pushL _ _ _ (by simp; omega)] | rw [h_pushL _ _ _ (by omega)] | rw [h_setN _ _ _ _ (by omega)])); exact bR10)
          have lS5 := getElem?_lt pS5
          have lR5 := getElem?_lt bR5
          have o510 : ∀ b, b < h.size → b ≠ hb → h5[b]? = h10[b]? := fun b q1 q2 => by rw [o5 b q2]; (repeat (first | rw [h_pushL _ _ _ (by simp; omega)] | rw [h_pushL _ _ _ (by omega)] | rw [h_setN _ _ _ _ (by omega)]))
          have Ca5 : Ca h5 s c m M := Ca10.mono (o510 c lc (Ne.symm hc)) (o510 m lm (Ne.symm hm))
          have o50 : ∀ b, b < h.size → b ≠ hb → b ≠ c → b ≠ m → ¬ mfoot s M b → h5[b]? = h[b]? := fun b q1 q2 q3 q4 q5 => by rw [o510 b q1 q2, o109 b q1 q5, o90 b q1 q3 q4]
          have G5 : Gone h h5 s M GM D.B := G10.mono (by simp only [Array.size_push, Array.size_setIfInBounds]; omega) fun b f => by rw [o5 b (fun e => nhG (e ▸ f)), h_setN _ _ _ _ (nS b f)]
          refine gs4 @fnL_len @pS5 @bR5 StopR.v.eq_1 ?_; (try with_reducible exact trivial)
          refine ⟨H5, by omega, ⟨GM, ?_, Ca5.mono (by (repeat (first | rw [h_pushL _ _ _ (by simp; omega)] | rw [h_pushL _ _ _ (by omega)] | rw [h_setN _ _ _ _ (by omega)]))) (by (repeat (first | rw [h_pushL _ _ _ (by simp; omega)] | rw [h_pushL _ _ _ (by omega)] | rw [h_setN _ _ _ _ (by omega)])))⟩, fun b q1 q2 q3 q4 q5 => ?_⟩
          · exact G5.mono (Nat.le_refl _) fun b f => by rw [h_setN _ _ _ _ (nR b f)]
          · rw [h_setN _ _ _ _ (by omega)]; exact o50 b q1 q2 q3 q4 q5))
     | (
      obtain ⟨Y, eY⟩ : ∃ Y : Heap, Y = ((h.push (.cells #[.int .i64 0, .int .i64 0, .int .u64 0] 49)).push (.cells (fnL 35 t.cell).toArray 63)).push (.cells #[.int .i64 0, .int .i64 0, .int .i64 0, .int .i64 0, .int .i64 0, .int .i64 0, .int .i64 0] 47) := ⟨_, rfl⟩
      have KY : Keeps h.size h Y := by rw [eY]; exact ((Keeps.push _ _ (Nat.le_refl _)).push' (Nat.le_refl _)).push' (Nat.le_refl _)
      have zY : Y.size = h.size + 3 := by rw [eY]; simp
      have bRY : Y[h.size]? = some (.cells #[.int .i64 0, .int .i64 0, .int .u64 0] 49 (0, 0)) := by rw [eY]; refine gs0 ?_; (try with_reducible exact trivial)
      have btY : Y[h.size + 1]? = some (.cells (fnL 35 t.cell).toArray 63 (0, 0)) := by rw [eY]; refine gs0 ?_; (try with_reducible exact trivial)
      have pIY : Y[h.size + 2]? = some (.cells #[.int .i64 0, .int .i64 0, .int .i64 0, .int .i64 0, .int .i64 0, .int .i64 0, .int .i64 0] 47 (0, 0)) := by rw [eY]; refine gs0 ?_; (try with_reducible exact trivial)
      have bhY := KY.at H lh
      have kY : Ca Y s c m M := k.mono (KY.old _ lc) (KY.old _ lm)
      rw [← eY]
      refine FnK.use (kY.fetch pc (r.ext KY) lpc nc nm) ?_
      intro x h9 ⟨e9, k9, s9, o9⟩
      rw [hRR] at e9
      rw [e9]
      have bR := (o9 h.size (by omega) (by omega) (by omega)).trans bRY
      have bt := (o9 (h.size + 1) (by omega) (by omega) (by omega)).trans btY
      have bh := (o9 hb (by omega) hc hm).trans bhY
      have lR := getElem?_lt bR
      have lt := getElem?_lt bt
      have lh9 := getElem?_lt bh
      have r9 : MR h9 s M := (r.ext KY).mono fun b f => o9 b (by have := r.lt f; omega) (fun e => nc (e ▸ f)) (fun e => nm (e ▸ f))
      have o90 : ∀ b, b < h.size → b ≠ c → b ≠ m → h9[b]? = h[b]? := fun b q1 q2 q3 => by rw [o9 b (by omega) q2 q3, KY.old b q1]
      have pI := (o9 (h.size + 2) (by omega) (by omega) (by omega)).trans pIY
      have lI := getElem?_lt pI
      refine gs9 @fnL_len @one @setL_35 @bR @bt @pI InstR.v.eq_1 StopR.v.eq_1 @tk ?_; (try with_reducible exact trivial)
      repeat' refine And.intro ?_ ?_
      all_goals
        first
        | (
          refine FnK.use (do_g (hb := hb) (tb := h.size + 1) (s := s) (M := M) (g := hg t s c) t R1 (by (repeat (first | rw [h_pushL _ _ _ (by simp; omega)] | rw [h_pushL _ _ _ (by omega)] | rw [h_setN _ _ _ _ (by omega)])); exact bh) rfl (by (repeat (first | rw [h_pushL _ _ _ (by simp; omega)] | rw [h_pushL _ _ _ (by omega)] | rw [h_setN _ _ _ _ (by omega)])); exact bt) tok iok (r9.mono fun b f => by (have := r.lt f; (repeat (first | rw [h_pushL _ _ _ (by simp; omega)] | rw [h_pushL _ _ _ (by omega)] | rw [h_setN _ _ _ _ (by omega)])))) (nf _ (by omega)) (by omega)) ?_
          intro x h10 ⟨e10, T10, s10, ⟨GM, G10⟩, o10⟩
          simp only [Array.size_push, Array.size_setIfInBounds] at s10 o10
          rw [hD] at e10 T10 G10
          rw [e10]
          have pS10 : h10[h9.size]? = some (.cells #[.int .i64 R2.kind, .int .i64 R2.fk, .int .u64 R2.fa] 49 (0, 0)) := (o10 (h9.size) (by omega) (by omega) (nf _ (by omega))).trans (by refine gs1 @pI ?_; (try with_reducible exact trivial))
          have bR10 : h10[h.size]? = some (.cells #[.int .i64 0, .int .i64 0, .int .u64 0] 49 (0, 0)) := (o10 h.size (by omega) (by omega) (nf _ (by omega))).trans (by (repeat (first | rw [h_pushL _ _ _ (by simp; omega)] | rw [h_pushL _ _ _ (by omega)] | rw [h_setN _ _ _ _ (by omega)])); exact bR)
          have lS10 := getElem?_lt pS10
          have lR10 := getElem?_lt bR10
          have o109 : ∀ b, b < h.size → ¬ mfoot s M b → h10[b]? = h9[b]? := fun b q1 q2 => (o10 b (by omega) (by omega) q2).trans (by (repeat (first | rw [h_pushL _ _ _ (by simp; omega)] | rw [h_pushL _ _ _ (by omega)] | rw [h_setN _ _ _ _ (by omega)])))
          have bh10 := (o109 hb lh nh).trans bh
          have lt10 := getElem?_lt T10
          have l10 : cellsO 0 35 h10[h.size + 1]? = some (fnL 35 D.t.cell) := by rw [T10, fnL_cells (by omega)]; simp
          have Ca10 : Ca h10 s c m M := k9.mono (o109 c lc nc) (o109 m lm nm)
          have nfG : ∀ b, mfoot s GM b → b < h.size ∨ h9.size ≤ b := fun b f => by
            rcases G10.ft b f with z | z
            · exact .inl (r.lt z)
            · simp only [Array.size_push, Array.size_setIfInBounds] at z; exact .inr (by omega)
          have nhG : ¬ mfoot s GM hb := fun f => by
            rcases G10.ft hb f with z | z
            · exact nh z
            · simp only [Array.size_push, Array.size_setIfInBounds] at z; omega
          have nR : ∀ b, mfoot s GM b → b ≠ h.size := fun b f e => by rcases nfG b f with z | z <;> omega
          have nS : ∀ b, mfoot s GM b → b ≠ h9.size := fun b f e => by
            rcases G10.ft b f with z | z
            · exact nf _ (by omega) (e ▸ z)
            · simp only [Array.size_push, Array.size_setIfInBounds] at z; omega
          refine gs7 @fnL_len @one @setL_35 @pS10 StopR.v.eq_1 @tk2 @l10 ?_; (try with_reducible exact trivial)
          refine hhold_use (t := t) (s := s) (c := c) (by (repeat (first | rw [h_pushL _ _ _ (by simp; omega)] | rw [h_pushL _ _ _ (by omega)] | rw [h_setN _ _ _ _ (by omega)])); exact bh10) (by (repeat (first | rw [h_pushL _ _ _ (by simp; omega)] | rw [h_pushL _ _ _ (by omega)] | rw [h_setN _ _ _ _ (by omega)]))) ?_
          intro h5 H5 z5 o5
          simp only [Array.size_push, Array.size_setIfInBounds] at z5
          have pS5 : h5[h9.size]? = some (.cells #[.int .i64 D.st.kind, .int .i64 D.st.fk, .int .u64 D.st.fa] 49 (0, 0)) := (o5 (h9.size) (by omega)).trans (h_setS _ _ _ lS10)
          have bR5 : h5[h.size]? = some (.cells #[.int .i64 0, .int .i64 0, .int .u64 0] 49 (0, 0)) := (o5 h.size (by omega)).trans (by (repeat (first | rw [h_pushL _ _ _ (by simp; omega)] | rw [h_pushL _ _ _ (by omega)] | rw [h_setN _ _ _ _ (by omega)])); exact bR10)
          have lS5 := getElem?_lt pS5
          have lR5 := getElem?_lt bR5
          have o510 : ∀ b, b < h.size → b ≠ hb → h5[b]? = h10[b]? := fun b q1 q2 => by rw [o5 b q2]; (repeat (first | rw [h_pushL _ _ _ (by simp; omega)] | rw [h_pushL _ _ _ (by omega)] | rw [h_setN _ _ _ _ (by omega)]))
          have Ca5 : Ca h5 s c m M := Ca10.mono (o510 c lc (Ne.symm hc)) (o510 m lm (Ne.symm hm))
          have o50 : ∀ b, b < h.size → b ≠ hb → b ≠ c → b ≠ m → ¬ mfoot s M b → h5[b]? = h[b]? := fun b q1 q2 q3 q4 q5 => by rw [o510 b q1 q2, o109 b q1 q5, o90 b q1 q3 q4]
          have G5 : Gone h h5 s M GM D.B := G10.mono (by simp only [Array.size_push, Array.size_setIfInBounds]; omega) fun b f => by rw [o5 b (fun e => nhG (e ▸ f)), h_setN _ _ _ _ (nS b f)]
          refine gs4 @fnL_len @pS5 @bR5 StopR.v.eq_1 ?_; (try with_reducible exact trivial)
          refine ⟨H5, by omega, ⟨GM, ?_, Ca5.mono (by (repeat (first | rw [h_pushL _ _ _ (by simp; omega)] | rw [h_pushL _ _ _ (by omega)] | rw [h_setN _ _ _ _ (by omega)]))) (by (repeat (first | rw [h_pushL _ _ _ (by simp; omega)] | rw [h_pushL _ _ _ (by omega)] | rw [h_setN _ _ _ _ (by omega)])))⟩, fun b q1 q2 q3 q4 q5 => ?_⟩
          · exact G5.mono (Nat.le_refl _) fun b f => by rw [h_setN _ _ _ _ (nR b f)]
          · rw [h_setN _ _ _ _ (by omega)]; exact o50 b q1 q2 q3 q4 q5))
     | (
      obtain ⟨Y, eY⟩ : ∃ Y : Heap, Y = ((h.push (.cells #[.int .i64 0, .int .i64 0, .int .u64 0] 49)).push (.cells (fnL 35 t.cell).toArray 63)).push (.cells #[.int .i64 0, .int .i64 0, .int .u64 0] 49) := ⟨_, rfl⟩
      have KY : Keeps h.size h Y := by rw [eY]; exact ((Keeps.push _ _ (Nat.le_refl _)).push' (Nat.le_refl _)).push' (Nat.le_refl _)
      have zY : Y.size = h.size + 3 := by rw [eY]; simp
      have bRY : Y[h.size]? = some (.cells #[.int .i64 0, .int .i64 0, .int .u64 0] 49 (0, 0)) := by rw [eY]; refine gs0 ?_; (try with_reducible exact trivial)
      have btY : Y[h.size + 1]? = some (.cells (fnL 35 t.cell).toArray 63 (0, 0)) := by rw [eY]; refine gs0 ?_; (try with_reducible exact trivial)
      have pSY : Y[h.size + 2]? = some (.cells #[.int .i64 0, .int .i64 0, .int .u64 0] 49 (0, 0)) := by rw [eY]; refine gs0 ?_; (try with_reducible exact trivial)
      have bhY := KY.at H lh
      have kY : Ca Y s c m M := k.mono (KY.old _ lc) (KY.old _ lm)
      rw [← eY]
      refine FnK.use (kY.fetch pc (r.ext KY) lpc nc nm) ?_
      intro x h9 ⟨e9, k9, s9, o9⟩
      rw [hRR] at e9
      rw [e9]
      have bR := (o9 h.size (by omega) (by omega) (by omega)).trans bRY
      have bt := (o9 (h.size + 1) (by omega) (by omega) (by omega)).trans btY
      have bh := (o9 hb (by omega) hc hm).trans bhY
      have lR := getElem?_lt bR
      have lt := getElem?_lt bt
      have lh9 := getElem?_lt bh
      have r9 : MR h9 s M := (r.ext KY).mono fun b f => o9 b (by have := r.lt f; omega) (fun e => nc (e ▸ f)) (fun e => nm (e ▸ f))
      have o90 : ∀ b, b < h.size → b ≠ c → b ≠ m → h9[b]? = h[b]? := fun b q1 q2 q3 => by rw [o9 b (by omega) q2 q3, KY.old b q1]
      have pS := (o9 (h.size + 2) (by omega) (by omega) (by omega)).trans pSY
      have lS := getElem?_lt pS
      refine gs9 @fnL_len @one @setL_35 @bR @bt @pS InstR.v.eq_1 StopR.v.eq_1 @tk ?_; (try with_reducible exact trivial)
      repeat' refine And.intro ?_ ?_
      all_goals
        first
        | (
          refine FnK.use (do_g (hb := hb) (tb := h.size + 1) (s := s) (M := M) (g := hg t s c) t R1 (by (repeat (first | rw [h_pushL _ _ _ (by simp; omega)] | rw [h_pushL _ _ _ (by omega)] | rw [h_setN _ _ _ _ (by omega)])); exact bh) rfl (by (repeat (first | rw [h_pushL _ _ _ (by simp; omega)] | rw [h_pushL _ _ _ (by omega)] | rw [h_setN _ _ _ _ (by omega)])); exact bt) tok iok (r9.mono fun b f => by (have := r.lt f; (repeat (first | rw [h_pushL _ _ _ (by simp; omega)] | rw [h_pushL _ _ _ (by omega)] | rw [h_setN _ _ _ _ (by omega)])))) (nf _ (by omega)) (by omega)) ?_
          intro x h10 ⟨e10, T10, s10, ⟨GM, G10⟩, o10⟩
          simp only [Array.size_push, Array.size_setIfInBounds] at s10 o10
          rw [hD] at e10 T10 G10
          rw [e10]
          have pS10 : h10[h.size + 2]? = some (.cells #[.int .i64 R2.kind, .int .i64 R2.fk, .int .u64 R2.fa] 49 (0, 0)) := (o10 (h.size + 2) (by omega) (by omega) (nf _ (by omega))).trans (by refine gs1 @pS ?_; (try with_reducible exact trivial))
          have bR10 : h10[h.size]? = some (.cells #[.int .i64 0, .int .i64 0, .int .u64 0] 49 (0, 0)) := (o10 h.size (by omega) (by omega) (nf _ (by omega))).trans (by (repeat (first | rw [h_pushL _ _ _ (by simp; omega)] | rw [h_pushL _ _ _ (by omega)] | rw [h_setN _ _ _ _ (by omega)])); exact bR)
          have lS10 := getElem?_lt pS10
          have lR10 := getElem?_lt bR10
          have o109 : ∀ b, b < h.size → ¬ mfoot s M b → h10[b]? = h9[b]? := fun b q1 q2 => (o10 b (by omega) (by omega) q2).trans (by (repeat (first | rw [h_pushL _ _ _ (by simp; omega)] | rw [h_pushL _ _ _ (by omega)] | rw [h_setN _ _ _ _ (by omega)])))
          have bh10 := (o109 hb lh nh).trans bh
          have lt10 := getElem?_lt T10
          have l10 : cellsO 0 35 h10[h.size + 1]? = some (fnL 35 D.t.cell) := by rw [T10, fnL_cells (by omega)]; simp
          have Ca10 : Ca h10 s c m M := k9.mono (o109 c lc nc) (o109 m lm nm)
          have nfG : ∀ b, mfoot s GM b → b < h.size ∨ h9.size ≤ b := fun b f => by
            rcases G10.ft b f with z | z
            · exact .inl (r.lt z)
            · simp only [Array.size_push, Array.size_setIfInBounds] at z; exact .inr (by omega)
          have nhG : ¬ mfoot s GM hb := fun f => by
            rcases G10.ft hb f with z | z
            · exact nh z
            · simp only [Array.size_push, Array.size_setIfInBounds] at z; omega
          have nR : ∀ b, mfoot s GM b → b ≠ h.size := fun b f e => by rcases nfG b f with z | z <;> omega
          have nS : ∀ b, mfoot s GM b → b ≠ h.size + 2 := fun b f e => by
            rcases G10.ft b f with z | z
            · exact nf _ (by omega) (e ▸ z)
            · simp only [Array.size_push, Array.size_setIfInBounds] at z; omega
          refine gs7 @fnL_len @one @setL_35 @pS10 StopR.v.eq_1 @tk2 @l10 ?_; (try with_reducible exact trivial)
          refine hhold_use (t := t) (s := s) (c := c) (by (repeat (first | rw [h_pushL _ _ _ (by simp; omega)] | rw [h_pushL _ _ _ (by omega)] | rw [h_setN _ _ _ _ (by omega)])); exact bh10) (by (repeat (first | rw [h_pushL _ _ _ (by simp; omega)] | rw [h_pushL _ _ _ (by omega)] | rw [h_setN _ _ _ _ (by omega)]))) ?_
          intro h5 H5 z5 o5
          simp only [Array.size_push, Array.size_setIfInBounds] at z5
          have pS5 : h5[h.size + 2]? = some (.cells #[.int .i64 D.st.kind, .int .i64 D.st.fk, .int .u64 D.st.fa] 49 (0, 0)) := (o5 (h.size + 2) (by omega)).trans (h_setS _ _ _ lS10)
          have bR5 : h5[h.size]? = some (.cells #[.int .i64 0, .int .i64 0, .int .u64 0] 49 (0, 0)) := (o5 h.size (by omega)).trans (by (repeat (first | rw [h_pushL _ _ _ (by simp; omega)] | rw [h_pushL _ _ _ (by omega)] | rw [h_setN _ _ _ _ (by omega)])); exact bR10)
          have lS5 := getElem?_lt pS5
          have lR5 := getElem?_lt bR5
          have o510 : ∀ b, b < h.size → b ≠ hb → h5[b]? = h10[b]? := fun b q1 q2 => by rw [o5 b q2]; (repeat (first | rw [h_pushL _ _ _ (by simp; omega)] | rw [h_pushL _ _ _ (by omega)] | rw [h_setN _ _ _ _ (by omega)]))
          have Ca5 : Ca h5 s c m M := Ca10.mono (o510 c lc (Ne.symm hc)) (o510 m lm (Ne.symm hm))
          have o50 : ∀ b, b < h.size → b ≠ hb → b ≠ c → b ≠ m → ¬ mfoot s M b → h5[b]? = h[b]? := fun b q1 q2 q3 q4 q5 => by rw [o510 b q1 q2, o109 b q1 q5, o90 b q1 q3 q4]
          have G5 : Gone h h5 s M GM D.B := G10.mono (by simp only [Array.size_push, Array.size_setIfInBounds]; omega) fun b f => by rw [o5 b (fun e => nhG (e ▸ f)), h_setN _ _ _ _ (nS b f)]
          refine gs4 @fnL_len @pS5 @bR5 StopR.v.eq_1 ?_; (try with_reducible exact trivial)
          refine ⟨H5, by omega, ⟨GM, ?_, Ca5.mono (by (repeat (first | rw [h_pushL _ _ _ (by simp; omega)] | rw [h_pushL _ _ _ (by omega)] | rw [h_setN _ _ _ _ (by omega)]))) (by (repeat (first | rw [h_pushL _ _ _ (by simp; omega)] | rw [h_pushL _ _ _ (by omega)] | rw [h_setN _ _ _ _ (by omega)])))⟩, fun b q1 q2 q3 q4 q5 => ?_⟩
          · exact G5.mono (Nat.le_refl _) fun b f => by rw [h_setN _ _ _ _ (nR b f)]
          · rw [h_setN _ _ _ _ (by omega)]; exact o50 b q1 q2 q3 q4 q5))
     | (
      obtain ⟨Y, eY⟩ : ∃ Y : Heap, Y = (h.push (.cells #[.int .i64 0, .int .i64 0, .int .u64 0] 49)).push (.cells (fnL 35 t.cell).toArray 63) := ⟨_, rfl⟩
      have KY : Keeps h.size h Y := by rw [eY]; exact (Keeps.push _ _ (Nat.le_refl _)).push' (Nat.le_refl _)
      have zY : Y.size = h.size + 2 := by rw [eY]; simp
      have bRY : Y[h.size]? = some (.cells #[.int .i64 0, .int .i64 0, .int .u64 0] 49 (0, 0)) := by rw [eY]; refine gs0 ?_; (try with_reducible exact trivial)
      have btY : Y[h.size + 1]? = some (.cells (fnL 35 t.cell).toArray 63 (0, 0)) := by rw [eY]; refine gs0 ?_; (try with_reducible exact trivial)
      have bhY := KY.at H lh
      have kY : Ca Y s c m M := k.mono (KY.old _ lc) (KY.old _ lm)
      rw [← eY]
      refine FnK.use (kY.fetch pc (r.ext KY) lpc nc nm) ?_
      intro x h9 ⟨e9, k9, s9, o9⟩
      rw [hRR] at e9
      rw [e9]
      have bR := (o9 h.size (by omega) (by omega) (by omega)).trans bRY
      have bt := (o9 (h.size + 1) (by omega) (by omega) (by omega)).trans btY
      have bh := (o9 hb (by omega) hc hm).trans bhY
      have lR := getElem?_lt bR
      have lt := getElem?_lt bt
      have lh9 := getElem?_lt bh
      have r9 : MR h9 s M := (r.ext KY).mono fun b f => o9 b (by have := r.lt f; omega) (fun e => nc (e ▸ f)) (fun e => nm (e ▸ f))
      have o90 : ∀ b, b < h.size → b ≠ c → b ≠ m → h9[b]? = h[b]? := fun b q1 q2 q3 => by rw [o9 b (by omega) q2 q3, KY.old b q1]
      refine gs8 @fnL_len @one @setL_35 @bR @bt InstR.v.eq_1 StopR.v.eq_1 @tk ?_; (try with_reducible exact trivial)
      repeat' refine And.intro ?_ ?_
      all_goals
        first
        | (
          refine FnK.use (do_g (hb := hb) (tb := h.size + 1) (s := s) (M := M) (g := hg t s c) t R1 (by (repeat (first | rw [h_pushL _ _ _ (by simp; omega)] | rw [h_pushL _ _ _ (by omega)] | rw [h_setN _ _ _ _ (by omega)])); exact bh) rfl (by (repeat (first | rw [h_pushL _ _ _ (by simp; omega)] | rw [h_pushL _ _ _ (by omega)] | rw [h_setN _ _ _ _ (by omega)])); exact bt) tok iok (r9.mono fun b f => by (have := r.lt f; (repeat (first | rw [h_pushL _ _ _ (by simp; omega)] | rw [h_pushL _ _ _ (by omega)] | rw [h_setN _ _ _ _ (by omega)])))) (nf _ (by omega)) (by omega)) ?_
          intro x h10 ⟨e10, T10, s10, ⟨GM, G10⟩, o10⟩
          simp only [Array.size_push, Array.size_setIfInBounds] at s10 o10
          rw [hD] at e10 T10 G10
          rw [e10]
          have pS10 : h10[h9.size + 1]? = some (.cells #[.int .i64 R2.kind, .int .i64 R2.fk, .int .u64 R2.fa] 49 (0, 0)) := (o10 (h9.size + 1) (by omega) (by omega) (nf _ (by omega))).trans (by refine gs1 @h_pushE ?_; (try with_reducible exact trivial))
          have bR10 : h10[h.size]? = some (.cells #[.int .i64 0, .int .i64 0, .int .u64 0] 49 (0, 0)) := (o10 h.size (by omega) (by omega) (nf _ (by omega))).trans (by (repeat (first | rw [h_pushL _ _ _ (by simp; omega)] | rw [h_pushL _ _ _ (by omega)] | rw [h_setN _ _ _ _ (by omega)])); exact bR)
          have lS10 := getElem?_lt pS10
          have lR10 := getElem?_lt bR10
          have o109 : ∀ b, b < h.size → ¬ mfoot s M b → h10[b]? = h9[b]? := fun b q1 q2 => (o10 b (by omega) (by omega) q2).trans (by (repeat (first | rw [h_pushL _ _ _ (by simp; omega)] | rw [h_pushL _ _ _ (by omega)] | rw [h_setN _ _ _ _ (by omega)])))
          have bh10 := (o109 hb lh nh).trans bh
          have lt10 := getElem?_lt T10
          have l10 : cellsO 0 35 h10[h.size + 1]? = some (fnL 35 D.t.cell) := by rw [T10, fnL_cells (by omega)]; simp
          have Ca10 : Ca h10 s c m M := k9.mono (o109 c lc nc) (o109 m lm nm)
          have nfG : ∀ b, mfoot s GM b → b < h.size ∨ h9.size ≤ b := fun b f => by
            rcases G10.ft b f with z | z
            · exact .inl (r.lt z)
            · simp only [Array.size_push, Array.size_setIfInBounds] at z; exact .inr (by omega)
          have nhG : ¬ mfoot s GM hb := fun f => by
            rcases G10.ft hb f with z | z
            · exact nh z
            · simp only [Array.size_push, Array.size_setIfInBounds] at z; omega
          have nR : ∀ b, mfoot s GM b → b ≠ h.size := fun b f e => by rcases nfG b f with z | z <;> omega
          have nS : ∀ b, mfoot s GM b → b ≠ h9.size + 1 := fun b f e => by
            rcases G10.ft b f with z | z
            · exact nf _ (by omega) (e ▸ z)
            · simp only [Array.size_push, Array.size_setIfInBounds] at z; omega
          refine gs7 @fnL_len @one @setL_35 @pS10 StopR.v.eq_1 @tk2 @l10 ?_; (try with_reducible exact trivial)
          refine hhold_use (t := t) (s := s) (c := c) (by (repeat (first | rw [h_pushL _ _ _ (by simp; omega)] | rw [h_pushL _ _ _ (by omega)] | rw [h_setN _ _ _ _ (by omega)])); exact bh10) (by (repeat (first | rw [h_pushL _ _ _ (by simp; omega)] | rw [h_pushL _ _ _ (by omega)] | rw [h_setN _ _ _ _ (by omega)]))) ?_
          intro h5 H5 z5 o5
          simp only [Array.size_push, Array.size_setIfInBounds] at z5
          have pS5 : h5[h9.size + 1]? = some (.cells #[.int .i64 D.st.kind, .int .i64 D.st.fk, .int .u64 D.st.fa] 49 (0, 0)) := (o5 (h9.size + 1) (by omega)).trans (h_setS _ _ _ lS10)
          have bR5 : h5[h.size]? = some (.cells #[.int .i64 0, .int .i64 0, .int .u64 0] 49 (0, 0)) := (o5 h.size (by omega)).trans (by (repeat (first | rw [h_pushL _ _ _ (by simp; omega)] | rw [h_pushL _ _ _ (by omega)] | rw [h_setN _ _ _ _ (by omega)])); exact bR10)
          have lS5 := getElem?_lt pS5
          have lR5 := getElem?_lt bR5
          have o510 : ∀ b, b < h.size → b ≠ hb → h5[b]? = h10[b]? := fun b q1 q2 => by rw [o5 b q2]; (repeat (first | rw [h_pushL _ _ _ (by simp; omega)] | rw [h_pushL _ _ _ (by omega)] | rw [h_setN _ _ _ _ (by omega)]))
          have Ca5 : Ca h5 s c m M := Ca10.mono (o510 c lc (Ne.symm hc)) (o510 m lm (Ne.symm hm))
          have o50 : ∀ b, b < h.size → b ≠ hb → b ≠ c → b ≠ m → ¬ mfoot s M b → h5[b]? = h[b]? := fun b q1 q2 q3 q4 q5 => by rw [o510 b q1 q2, o109 b q1 q5, o90 b q1 q3 q4]
          have G5 : Gone h h5 s M GM D.B := G10.mono (by simp only [Array.size_push, Array.size_setIfInBounds]; omega) fun b f => by rw [o5 b (fun e => nhG (e ▸ f)), h_setN _ _ _ _ (nS b f)]
          refine gs4 @fnL_len @pS5 @bR5 StopR.v.eq_1 ?_; (try with_reducible exact trivial)
          refine ⟨H5, by omega, ⟨GM, ?_, Ca5.mono (by (repeat (first | rw [h_pushL _ _ _ (by simp; omega)] | rw [h_pushL _ _ _ (by omega)] | rw [h_setN _ _ _ _ (by omega)]))) (by (repeat (first | rw [h_pushL _ _ _ (by simp; omega)] | rw [h_pushL _ _ _ (by omega)] | rw [h_setN _ _ _ _ (by omega)])))⟩, fun b q1 q2 q3 q4 q5 => ?_⟩
          · exact G5.mono (Nat.le_refl _) fun b f => by rw [h_setN _ _ _ _ (nR b f)]
          · rw [h_setN _ _ _ _ (by omega)]; exact o50 b q1 q2 q3 q4 q5)
        | (
          refine FnK.use (do_g (hb := hb) (tb := h.size + 1) (s := s) (M := M) (g := hg t s c) t R1 (by (repeat (first | rw [h_pushL _ _ _ (by simp; omega)] | rw [h_pushL _ _ _ (by omega)] | rw [h_setN _ _ _ _ (by omega)])); exact bh) rfl (by (repeat (first | rw [h_pushL _ _ _ (by simp; omega)] | rw [h_pushL _ _ _ (by omega)] | rw [h_setN _ _ _ _ (by omega)])); exact bt) tok iok (r9.mono fun b f => by (have := r.lt f; (repeat (first | rw [h_pushL _ _ _ (by simp; omega)] | rw [h_pushL _ _ _ (by omega)] | rw [h_setN _ _ _ _ (by omega)])))) (nf _ (by omega)) (by omega)) ?_
          intro x h10 ⟨e10, T10, s10, ⟨GM, G10⟩, o10⟩
          simp only [Array.size_push, Array.size_setIfInBounds] at s10 o10
          rw [hD] at e10 T10 G10
          rw [e10]
          have pS10 : h10[h9.size]? = some (.cells #[.int .i64 R2.kind, .int .i64 R2.fk, .int .u64 R2.fa] 49 (0, 0)) := (o10 (h9.size) (by omega) (by omega) (nf _ (by omega))).trans (by refine gs1 @h_pushE ?_; (try with_reducible exact trivial))
          have bR10 : h10[h.size]? = some (.cells #[.int .i64 0, .int .i64 0, .int .u64 0] 49 (0, 0)) := (o10 h.size (by omega) (by omega) (nf _ (by omega))).trans (by (repeat (first | rw [h_pushL _ _ _ (by simp; omega)] | rw [h_pushL _ _ _ (by omega)] | rw [h_setN _ _ _ _ (by omega)])); exact bR)
          have lS10 := getElem?_lt pS10
          have lR10 := getElem?_lt bR10
          have o109 : ∀ b, b < h.size → ¬ mfoot s M b → h10[b]? = h9[b]? := fun b q1 q2 => (o10 b (by omega) (by omega) q2).trans (by (repeat (first | rw [h_pushL _ _ _ (by simp; omega)] | rw [h_pushL _ _ _ (by omega)] | rw [h_setN _ _ _ _ (by omega)])))
          have bh10 := (o109 hb lh nh).trans bh
          have lt10 := getElem?_lt T10
          have l10 : cellsO 0 35 h10[h.size + 1]? = some (fnL 35 D.t.cell) := by rw [T10, fnL_cells (by omega)]; simp
          have Ca10 : Ca h10 s c m M := k9.mono (o109 c lc nc) (o109 m lm nm)
          have nfG : ∀ b, mfoot s GM b → b < h.size ∨ h9.size ≤ b := fun b f => by
            rcases G10.ft b f with z | z
            · exact .inl (r.lt z)
            · simp only [Array.size_push, Array.size_setIfInBounds] at z; exact .inr (by omega)
          have nhG : ¬ mfoot s GM hb := fun f => by
            rcases G10.ft hb f with z | z
            · exact nh z
            · simp only [Array.size_push, Array.size_setIfInBounds] at z; omega
          have nR : ∀ b, mfoot s GM b → b ≠ h.size := fun b f e => by rcases nfG b f with z | z <;> omega
          have nS : ∀ b, mfoot s GM b → b ≠ h9.size := fun b f e => by
            rcases G10.ft b f with z | z
            · exact nf _ (by omega) (e ▸ z)
            · simp only [Array.size_push, Array.size_setIfInBounds] at z; omega
          refine gs7 @fnL_len @one @setL_35 @pS10 StopR.v.eq_1 @tk2 @l10 ?_; (try with_reducible exact trivial)
          refine hhold_use (t := t) (s := s) (c := c) (by (repeat (first | rw [h_pushL _ _ _ (by simp; omega)] | rw [h_pushL _ _ _ (by omega)] | rw [h_setN _ _ _ _ (by omega)])); exact bh10) (by (repeat (first | rw [h_pushL _ _ _ (by simp; omega)] | rw [h_pushL _ _ _ (by omega)] | rw [h_setN _ _ _ _ (by omega)]))) ?_
          intro h5 H5 z5 o5
          simp only [Array.size_push, Array.size_setIfInBounds] at z5
          have pS5 : h5[h9.size]? = some (.cells #[.int .i64 D.st.kind, .int .i64 D.st.fk, .int .u64 D.st.fa] 49 (0, 0)) := (o5 (h9.size) (by omega)).trans (h_setS _ _ _ lS10)
          have bR5 : h5[h.size]? = some (.cells #[.int .i64 0, .int .i64 0, .int .u64 0] 49 (0, 0)) := (o5 h.size (by omega)).trans (by (repeat (first | rw [h_pushL _ _ _ (by simp; omega)] | rw [h_pushL _ _ _ (by omega)] | rw [h_setN _ _ _ _ (by omega)])); exact bR10)
          have lS5 := getElem?_lt pS5
          have lR5 := getElem?_lt bR5
          have o510 : ∀ b, b < h.size → b ≠ hb → h5[b]? = h10[b]? := fun b q1 q2 => by rw [o5 b q2]; (repeat (first | rw [h_pushL _ _ _ (by simp; omega)] | rw [h_pushL _ _ _ (by omega)] | rw [h_setN _ _ _ _ (by omega)]))
          have Ca5 : Ca h5 s c m M := Ca10.mono (o510 c lc (Ne.symm hc)) (o510 m lm (Ne.symm hm))
          have o50 : ∀ b, b < h.size → b ≠ hb → b ≠ c → b ≠ m → ¬ mfoot s M b → h5[b]? = h[b]? := fun b q1 q2 q3 q4 q5 => by rw [o510 b q1 q2, o109 b q1 q5, o90 b q1 q3 q4]
          have G5 : Gone h h5 s M GM D.B := G10.mono (by simp only [Array.size_push, Array.size_setIfInBounds]; omega) fun b f => by rw [o5 b (fun e => nhG (e ▸ f)), h_setN _ _ _ _ (nS b f)]
          refine gs4 @fnL_len @pS5 @bR5 StopR.v.eq_1 ?_; (try with_reducible exact trivial)
          refine ⟨H5, by omega, ⟨GM, ?_, Ca5.mono (by (repeat (first | rw [h_pushL _ _ _ (by simp; omega)] | rw [h_pushL _ _ _ (by omega)] | rw [h_setN _ _ _ _ (by omega)]))) (by (repeat (first | rw [h_pushL _ _ _ (by simp; omega)] | rw [h_pushL _ _ _ (by omega)] | rw [h_setN _ _ _ _ (by omega)])))⟩, fun b q1 q2 q3 q4 q5 => ?_⟩
          · exact G5.mono (Nat.le_refl _) fun b f => by rw [h_setN _ _ _ _ (nR b f)]
          · rw [h_setN _ _ _ _ (by omega)]; exact o50 b q1 q2 q3 q4 q5))
theorem step_o {h : Heap} {hb s c m : Nat} {M : MemD} (t : HS) (H : h[hb]? = some (.cells (fnL 37 (hg t s c)).toArray 120 (0, 0))) (tok : t.ok) (r : MR h s M) (k : Ca h s c m M) (nc : ¬ mfoot s M c) (nm : ¬ mfoot s M m) (nh : ¬ mfoot s M hb) (hc : hb ≠ c) (hm : hb ≠ m)
    (R1 : InstR) (R2 : StopR) (hRR : readF M.rs (memAt M) t.pc.toNat = (R1, R2)) (tk : (R2.kind = 0) = True) (iok : R1.ok) (D : Out) (hD : doF M.rs (memAt M) t R1 = D) (tk2 : (D.st.kind = 0) = True) (O : Out) (hO : O = ⟨sOk, D.t, D.B⟩) :
    Fn Tryz.prog 31 [ptr hb 0] h fun x h' => x = (O.st).v ∧ h'[hb]? = some (.cells (fnL 37 (hg O.t s c)).toArray 120 (0, 0)) ∧ h.size ≤ h'.size ∧ (∃ M', Gone h h' s M M' O.B ∧ Ca h' s c m M) ∧ ∀ b, b < h.size → b ≠ hb → b ≠ c → b ≠ m → ¬ mfoot s M b → h'[b]? = h[b]? := by
  have lh := getElem?_lt H
  obtain ⟨lc, lm⟩ := k.lt
  have one := cell_one t
  have l1 : cellsO 0 35 h[hb]? = some (fnL 35 t.cell) := by rw [H, fnL_cells (by omega)]; simp only [Nat.zero_add]; exact congrArg some (hg_cells t s c)
  have c35 : cellO 35 h[hb]? = some (ptr s 0) := by rw [H, fnL_cell (by omega)]; rfl
  have c36 : cellO 36 h[hb]? = some (ptr c 0) := by rw [H, fnL_cell (by omega)]; rfl
  have t0 : cellO 0 (some (.cells (fnL 35 t.cell).toArray 63 (0, 0))) = some (.int .u64 t.pc) := by rw [fnL_cell (by omega)]; rfl
  obtain ⟨pc, hpc, lpc⟩ : ∃ n : Nat, t.pc = (n : Int) ∧ n < 18446744073709551616 := ⟨t.pc.toNat, by have := tok.pc; unfold u64R at this; omega, by have := tok.pc; unfold u64R at this; omega⟩
  rw [hpc] at t0
  have epc : t.pc.toNat = pc := by rw [hpc]; rfl
  have nf : ∀ j, h.size ≤ j → ¬ mfoot s M j := fun j q f => by have := r.lt f; omega
  rw [epc] at hRR
  subst hO
  refine Fn_c Tryz.func31 mixed c31 (by kernel_rfl) ?_; rw [r31]
  refine gs7 @fnL_len @l1 @one @setL_35 @c35 @c36 @t0 ?_; (try with_reducible exact trivial)
  repeat' refine And.intro ?_ ?_
  all_goals
     first
     | (
      obtain ⟨Y, eY⟩ : ∃ Y : Heap, Y = (((h.push (.cells #[.int .i64 0, .int .i64 0, .int .u64 0] 49)).push (.cells (fnL 35 t.cell).toArray 63)).push (.cells #[.int .i64 0, .int .i64 0, .int .i64 0, .int .i64 0, .int .i64 0, .int .i64 0, .int .i64 0] 47)).push (.cells #[.int .i64 0, .int .i64 0, .int .u64 0] 49) := ⟨_, rfl⟩
      have KY : Keeps h.size h Y := by rw [eY]; exact (((Keeps.push _ _ (Nat.le_refl _)).push' (Nat.le_refl _)).push' (Nat.le_refl _)).push' (Nat.le_refl _)
      have zY : Y.size = h.size + 4 := by rw [eY]; simp
      have bRY : Y[h.size]? = some (.cells #[.int .i64 0, .int .i64 0, .int .u64 0] 49 (0, 0)) := by rw [eY]; refine gs0 ?_; (try with_reducible exact trivial)
      have btY : Y[h.size + 1]? = some (.cells (fnL 35 t.cell).toArray 63 (0, 0)) := by rw [eY]; refine gs0 ?_; (try with_reducible exact trivial)
      have pIY : Y[h.size + 2]? = some (.cells #[.int .i64 0, .int .i64 0, .int .i64 0, .int .i64 0, .int .i64 0, .int .i64 0, .int .i64 0] 47 (0, 0)) := by rw [eY]; refine gs0 ?_; (try with_reducible exact trivial)
      have pSY : Y[h.size + 3]? = some (.cells #[.int .i64 0, .int .i64 0, .int .u64 0] 49 (0, 0)) := by rw [eY]; refine gs0 ?_; (try with_reducible exact trivial)
      have bhY := KY.at H lh
      have kY : Ca Y s c m M := k.mono (KY.old _ lc) (KY.old _ lm)
      rw [← eY]
      refine FnK.use (kY.fetch pc (r.ext KY) lpc nc nm) ?_
      intro x h9 ⟨e9, k9, s9, o9⟩
      rw [hRR] at e9
      rw [e9]
      have bR := (o9 h.size (by omega) (by omega) (by omega)).trans bRY
      have bt := (o9 (h.size + 1) (by omega) (by omega) (by omega)).trans btY
      have bh := (o9 hb (by omega) hc hm).trans bhY
      have lR := getElem?_lt bR
      have lt := getElem?_lt bt
      have lh9 := getElem?_lt bh
      have r9 : MR h9 s M := (r.ext KY).mono fun b f => o9 b (by have := r.lt f; omega) (fun e => nc (e ▸ f)) (fun e => nm (e ▸ f))
      have o90 : ∀ b, b < h.size → b ≠ c → b ≠ m → h9[b]? = h[b]? := fun b q1 q2 q3 => by rw [o9 b (by omega) q2 q3, KY.old b q1]
      have pI := (o9 (h.size + 2) (by omega) (by omega) (by omega)).trans pIY
      have lI := getElem?_lt pI
      have pS := (o9 (h.size + 3) (by omega) (by omega) (by omega)).trans pSY
      have lS := getElem?_lt pS
      refine gs10 @fnL_len @one @setL_35 @bR @bt @pI @pS InstR.v.eq_1 StopR.v.eq_1 @tk ?_; (try with_reducible exact trivial)
      repeat' refine And.intro ?_ ?_
      all_goals
        first
        | (
          refine FnK.use (do_g (hb := hb) (tb := h.size + 1) (s := s) (M := M) (g := hg t s c) t R1 (by (repeat (first | rw [h_pushL _ _ _ (by simp; omega)] | rw [h_pushL _ _ _ (by omega)] | rw [h_setN _ _ _ _ (by omega)])); exact bh) rfl (by (repeat (first | rw [h_pushL _ _ _ (by simp; omega)] | rw [h_pushL _ _ _ (by omega)] | rw [h_setN _ _ _ _ (by omega)])); exact bt) tok iok (r9.mono fun b f => by (have := r.lt f; (repeat (first | rw [h_pushL _ _ _ (by simp; omega)] | rw [h_pushL _ _ _ (by omega)] | rw [h_setN _ _ _ _ (by omega)])))) (nf _ (by omega)) (by omega)) ?_
          intro x h10 ⟨e10, T10, s10, ⟨GM, G10⟩, o10⟩
          simp only [Array.size_push, Array.size_setIfInBounds] at s10 o10
          rw [hD] at e10 T10 G10
          rw [e10]
          have pS10 : h10[h.size + 3]? = some (.cells #[.int .i64 R2.kind, .int .i64 R2.fk, .int .u64 R2.fa] 49 (0, 0)) := (o10 (h.size + 3) (by omega) (by omega) (nf _ (by omega))).trans (by refine gs2 @pI @pS ?_; (try with_reducible exact trivial))
          have bR10 : h10[h.size]? = some (.cells #[.int .i64 0, .int .i64 0, .int .u64 0] 49 (0, 0)) := (o10 h.size (by omega) (by omega) (nf _ (by omega))).trans (by (repeat (first | rw [h_pushL _ _ _ (by simp; omega)] | rw [h_pushL _ _ _ (by omega)] | rw [h_setN _ _ _ _ (by omega)])); exact bR)
          have lS10 := getElem?_lt pS10
          have lR10 := getElem?_lt bR10
          have o109 : ∀ b, b < h.size → ¬ mfoot s M b → h10[b]? = h9[b]? := fun b q1 q2 => (o10 b (by omega) (by omega) q2).trans (by (repeat (first | rw [h_pushL _ _ _ (by simp; omega)] | rw [h_pushL _ _ _ (by omega)] | rw [h_setN _ _ _ _ (by omega)])))
          have bh10 := (o109 hb lh nh).trans bh
          have lt10 := getElem?_lt T10
          have l10 : cellsO 0 35 h10[h.size + 1]? = some (fnL 35 D.t.cell) := by rw [T10, fnL_cells (by omega)]; simp
          have Ca10 : Ca h10 s c m M := k9.mono (o109 c lc nc) (o109 m lm nm)
          have nfG : ∀ b, mfoot s GM b → b < h.size ∨ h9.size ≤ b := fun b f => by
            rcases G10.ft b f with z | z
            · exact .inl (r.lt z)
            · simp only [Array.size_push, Array.size_setIfInBounds] at z; exact .inr (by omega)
          have nhG : ¬ mfoot s GM hb := fun f => by
            rcases G10.ft hb f with z | z
            · exact nh z
            · simp only [Array.size_push, Array.size_setIfInBounds] at z; omega
          have nR : ∀ b, mfoot s GM b → b ≠ h.size := fun b f e => by rcases nfG b f with z | z <;> omega
          have nS : ∀ b, mfoot s GM b → b ≠ h.size + 3 := fun b f e => by
            rcases G10.ft b f with z | z
            · exact nf _ (by omega) (e ▸ z)
            · simp only [Array.size_push, Array.size_setIfInBounds] at z; omega
          refine gs7 @fnL_len @one @setL_35 @pS10 StopR.v.eq_1 @tk2 @l10 ?_; (try with_reducible exact trivial)
          refine hstate_use (t := t) (t2 := D.t) (s := s) (c := c) (by (repeat (first | rw [h_pushL _ _ _ (by simp; omega)] | rw [h_pushL _ _ _ (by omega)] | rw [h_setN _ _ _ _ (by omega)])); exact bh10) (by (repeat (first | rw [h_pushL _ _ _ (by simp; omega)] | rw [h_pushL _ _ _ (by omega)] | rw [h_setN _ _ _ _ (by omega)]))) ?_
          intro h5 H5 z5 o5
          simp only [Array.size_push, Array.size_setIfInBounds] at z5
          have pS5 : h5[h.size + 3]? = some (.cells #[.int .i64 D.st.kind, .int .i64 D.st.fk, .int .u64 D.st.fa] 49 (0, 0)) := (o5 (h.size + 3) (by omega)).trans (h_setS _ _ _ lS10)
          have bR5 : h5[h.size]? = some (.cells #[.int .i64 0, .int .i64 0, .int .u64 0] 49 (0, 0)) := (o5 h.size (by omega)).trans (by (repeat (first | rw [h_pushL _ _ _ (by simp; omega)] | rw [h_pushL _ _ _ (by omega)] | rw [h_setN _ _ _ _ (by omega)])); exact bR10)
          have lS5 := getElem?_lt pS5
          have lR5 := getElem?_lt bR5
          have o510 : ∀ b, b < h.size → b ≠ hb → h5[b]? = h10[b]? := fun b q1 q2 => by rw [o5 b q2]; (repeat (first | rw [h_pushL _ _ _ (by simp; omega)] | rw [h_pushL _ _ _ (by omega)] | rw [h_setN _ _ _ _ (by omega)]))
          have Ca5 : Ca h5 s c m M := Ca10.mono (o510 c lc (Ne.symm hc)) (o510 m lm (Ne.symm hm))
          have o50 : ∀ b, b < h.size → b ≠ hb → b ≠ c → b ≠ m → ¬ mfoot s M b → h5[b]? = h[b]? := fun b q1 q2 q3 q4 q5 => by rw [o510 b q1 q2, o109 b q1 q5, o90 b q1 q3 q4]
          have G5 : Gone h h5 s M GM D.B := G10.mono (by simp only [Array.size_push, Array.size_setIfInBounds]; omega) fun b f => by rw [o5 b (fun e => nhG (e ▸ f)), h_setN _ _ _ _ (nS b f)]
          refine gs4 @fnL_len @pS5 @bR5 StopR.v.eq_1 ?_; (try with_reducible exact trivial)
          refine ⟨rfl, H5, by omega, ⟨GM, ?_, Ca5.mono (by (repeat (first | rw [h_pushL _ _ _ (by simp; omega)] | rw [h_pushL _ _ _ (by omega)] | rw [h_setN _ _ _ _ (by omega)]))) (by (repeat (first | rw [h_pushL _ _ _ (by simp; omega)] | rw [h_pushL _ _ _ (by omega)] | rw [h_setN _ _ _ _ (by omega)])))⟩, fun b q1 q2 q3 q4 q5 => ?_⟩
          · exact G5.mono (Nat.le_refl _) fun b f => by rw [h_setN _ _ _ _ (nR b f)]
          · rw [h_setN _ _ _ _ (by omega)]; exact o50 b q1 q2 q3 q4 q5))
     | (
      obtain ⟨Y, eY⟩ : ∃ Y : Heap, Y = (((h.push (.cells #[.int .i64 0, .int .i64 0, .int .u64 0] 49)).push (.cells (fnL 35 t.cell).toArray 63)).push (.cells #[.int .i64 0, .int .i64 0, .int .u64 0] 49)).push (.cells #[.int .i64 0, .int .i64 0, .int .i64 0, .int .i64 0, .int .i64 0, .int .i64 0, .int .i64 0] 47) := ⟨_, rfl⟩
      have KY : Keeps h.size h Y := by rw [eY]; exact (((Keeps.push _ _ (Nat.le_refl _)).push' (Nat.le_refl _)).push' (Nat.le_refl _)).push' (Nat.le_refl _)
      have zY : Y.size = h.size + 4 := by rw [eY]; simp
      have bRY : Y[h.size]? = some (.cells #[.int .i64 0, .int .i64 0, .int .u64 0] 49 (0, 0)) := by rw [eY]; refine gs0 ?_; (try with_reducible exact trivial)
      have btY : Y[h.size + 1]? = some (.cells (fnL 35 t.cell).toArray 63 (0, 0)) := by rw [eY]; refine gs0 ?_; (try with_reducible exact trivial)
      have pSY : Y[h.size + 2]? = some (.cells #[.int .i64 0, .int .i64 0, .int .u64 0] 49 (0, 0)) := by rw [eY]; refine gs0 ?_; (try with_reducible exact trivial)
      have pIY : Y[h.size + 3]? = some (.cells #[.int .i64 0, .int .i64 0, .int .i64 0, .int .i64 0, .int .i64 0, .int .i64 0, .int .i64 0] 47 (0, 0)) := by rw [eY]; refine gs0 ?_; (try with_reducible exact trivial)
      have bhY := KY.at H lh
      have kY : Ca Y s c m M := k.mono (KY.old _ lc) (KY.old _ lm)
      rw [← eY]
      refine FnK.use (kY.fetch pc (r.ext KY) lpc nc nm) ?_
      intro x h9 ⟨e9, k9, s9, o9⟩
      rw [hRR] at e9
      rw [e9]
      have bR := (o9 h.size (by omega) (by omega) (by omega)).trans bRY
      have bt := (o9 (h.size + 1) (by omega) (by omega) (by omega)).trans btY
      have bh := (o9 hb (by omega) hc hm).trans bhY
      have lR := getElem?_lt bR
      have lt := getElem?_lt bt
      have lh9 := getElem?_lt bh
      have r9 : MR h9 s M := (r.ext KY).mono fun b f => o9 b (by have := r.lt f; omega) (fun e => nc (e ▸ f)) (fun e => nm (e ▸ f))
      have o90 : ∀ b, b < h.size → b ≠ c → b ≠ m → h9[b]? = h[b]? := fun b q1 q2 q3 => by rw [o9 b (by omega) q2 q3, KY.old b q1]
      have pS := (o9 (h.size + 2) (by omega) (by omega) (by omega)).trans pSY
      have lS := getElem?_lt pS
      have pI := (o9 (h.size + 3) (by omega) (by omega) (by omega)).trans pIY
      have lI := getElem?_lt pI
      refine gs10 @fnL_len @one @setL_35 @bR @bt @pS @pI InstR.v.eq_1 StopR.v.eq_1 @tk ?_; (try with_reducible exact trivial)
      repeat' refine And.intro ?_ ?_
      all_goals
        first
        | (
          refine FnK.use (do_g (hb := hb) (tb := h.size + 1) (s := s) (M := M) (g := hg t s c) t R1 (by (repeat (first | rw [h_pushL _ _ _ (by simp; omega)] | rw [h_pushL _ _ _ (by omega)] | rw [h_setN _ _ _ _ (by omega)])); exact bh) rfl (by (repeat (first | rw [h_pushL _ _ _ (by simp; omega)] | rw [h_pushL _ _ _ (by omega)] | rw [h_setN _ _ _ _ (by omega)])); exact bt) tok iok (r9.mono fun b f => by (have := r.lt f; (repeat (first | rw [h_pushL _ _ _ (by simp; omega)] | rw [h_pushL _ _ _ (by omega)] | rw [h_setN _ _ _ _ (by omega)])))) (nf _ (by omega)) (by omega)) ?_
          intro x h10 ⟨e10, T10, s10, ⟨GM, G10⟩, o10⟩
          simp only [Array.size_push, Array.size_setIfInBounds] at s10 o10
          rw [hD] at e10 T10 G10
          rw [e10]
          have pS10 : h10[h.size + 2]? = some (.cells #[.int .i64 R2.kind, .int .i64 R2.fk, .int .u64 R2.fa] 49 (0, 0)) := (o10 (h.size + 2) (by omega) (by omega) (nf _ (by omega))).trans (by refine gs2 @pS @pI ?_; (try with_reducible exact trivial))
          have bR10 : h10[h.size]? = some (.cells #[.int .i64 0, .int .i64 0, .int .u64 0] 49 (0, 0)) := (o10 h.size (by omega) (by omega) (nf _ (by omega))).trans (by (repeat (first | rw [h_pushL _ _ _ (by simp; omega)] | rw [h_pushL _ _ _ (by omega)] | rw [h_setN _ _ _ _ (by omega)])); exact bR)
          have lS10 := getElem?_lt pS10
          have lR10 := getElem?_lt bR10
          have o109 : ∀ b, b < h.size → ¬ mfoot s M b → h10[b]? = h9[b]? := fun b q1 q2 => (o10 b (by omega) (by omega) q2).trans (by (repeat (first | rw [h_pushL _ _ _ (by simp; omega)] | rw [h_pushL _ _ _ (by omega)] | rw [h_setN _ _ _ _ (by omega)])))
          have bh10 := (o109 hb lh nh).trans bh
          have lt10 := getElem?_lt T10
          have l10 : cellsO 0 35 h10[h.size + 1]? = some (fnL 35 D.t.cell) := by rw [T10, fnL_cells (by omega)]; simp
          have Ca10 : Ca h10 s c m M := k9.mono (o109 c lc nc) (o109 m lm nm)
          have nfG : ∀ b, mfoot s GM b → b < h.size ∨ h9.size ≤ b := fun b f => by
            rcases G10.ft b f with z | z
            · exact .inl (r.lt z)
            · simp only [Array.size_push, Array.size_setIfInBounds] at z; exact .inr (by omega)
          have nhG : ¬ mfoot s GM hb := fun f => by
            rcases G10.ft hb f with z | z
            · exact nh z
            · simp only [Array.size_push, Array.size_setIfInBounds] at z; omega
          have nR : ∀ b, mfoot s GM b → b ≠ h.size := fun b f e => by rcases nfG b f with z | z <;> omega
          have nS : ∀ b, mfoot s GM b → b ≠ h.size + 2 := fun b f e => by
            rcases G10.ft b f with z | z
            · exact nf _ (by omega) (e ▸ z)
            · simp only [Array.size_push, Array.size_setIfInBounds] at z; omega
          refine gs7 @fnL_len @one @setL_35 @pS10 StopR.v.eq_1 @tk2 @l10 ?_; (try with_reducible exact trivial)
          refine hstate_use (t := t) (t2 := D.t) (s := s) (c := c) (by (repeat (first | rw [h_pushL _ _ _ (by simp; omega)] | rw [h_pushL _ _ _ (by omega)] | rw [h_setN _ _ _ _ (by omega)])); exact bh10) (by (repeat (first | rw [h_pushL _ _ _ (by simp; omega)] | rw [h_pushL _ _ _ (by omega)] | rw [h_setN _ _ _ _ (by omega)]))) ?_
          intro h5 H5 z5 o5
          simp only [Array.size_push, Array.size_setIfInBounds] at z5
          have pS5 : h5[h.size + 2]? = some (.cells #[.int .i64 D.st.kind, .int .i64 D.st.fk, .int .u64 D.st.fa] 49 (0, 0)) := (o5 (h.size + 2) (by omega)).trans (h_setS _ _ _ lS10)
          have bR5 : h5[h.size]? = some (.cells #[.int .i64 0, .int .i64 0, .int .u64 0] 49 (0, 0)) := (o5 h.size (by omega)).trans (by (repeat (first | rw [h_pushL _ _ _ (by simp; omega)] | rw [h_pushL _ _ _ (by omega)] | rw [h_setN _ _ _ _ (by omega)])); exact bR10)
          have lS5 := getElem?_lt pS5
          have lR5 := getElem?_lt bR5
          have o510 : ∀ b, b < h.size → b ≠ hb → h5[b]? = h10[b]? := fun b q1 q2 => by rw [o5 b q2]; (repeat (first | rw [h_pushL _ _ _ (by simp; omega)] | rw [h_pushL _ _ _ (by omega)] | rw [h_setN _ _ _ _ (by omega)]))
          have Ca5 : Ca h5 s c m M := Ca10.mono (o510 c lc (Ne.symm hc)) (o510 m lm (Ne.symm hm))
          have o50 : ∀ b, b < h.size → b ≠ hb → b ≠ c → b ≠ m → ¬ mfoot s M b → h5[b]? = h[b]? := fun b q1 q2 q3 q4 q5 => by rw [o510 b q1 q2, o109 b q1 q5, o90 b q1 q3 q4]
          have G5 : Gone h h5 s M GM D.B := G10.mono (by simp only [Array.size_push, Array.size_setIfInBounds]; omega) fun b f => by rw [o5 b (fun e => nhG (e ▸ f)), h_setN _ _ _ _ (nS b f)]
          refine gs4 @fnL_len @pS5 @bR5 StopR.v.eq_1 ?_; (try with_reducible exact trivial)
          refine ⟨rfl, H5, by omega, ⟨GM, ?_, Ca5.mono (by (repeat (first | rw [h_pushL _ _ _ (by simp; omega)] | rw [h_pushL _ _ _ (by omega)] | rw [h_setN _ _ _ _ (by omega)]))) (by (repeat (first | rw [h_pushL _ _ _ (by simp; omega)] | rw [h_pushL _ _ _ (by omega)] | rw [h_setN _ _ _ _ (by omega)])))⟩, fun b q1 q2 q3 q4 q5 => ?_⟩
          · exact G5.mono (Nat.le_refl _) fun b f => by rw [h_setN _ _ _ _ (nR b f)]
          · rw [h_setN _ _ _ _ (by omega)]; exact o50 b q1 q2 q3 q4 q5))
     | (
      obtain ⟨Y, eY⟩ : ∃ Y : Heap, Y = ((h.push (.cells #[.int .i64 0, .int .i64 0, .int .u64 0] 49)).push (.cells (fnL 35 t.cell).toArray 63)).push (.cells #[.int .i64 0, .int .i64 0, .int .i64 0, .int .i64 0, .int .i64 0, .int .i64 0, .int .i64 0] 47) := ⟨_, rfl⟩
      have KY : Keeps h.size h Y := by rw [eY]; exact ((Keeps.push _ _ (Nat.le_refl _)).push' (Nat.le_refl _)).push' (Nat.le_refl _)
      have zY : Y.size = h.size + 3 := by rw [eY]; simp
      have bRY : Y[h.size]? = some (.cells #[.int .i64 0, .int .i64 0, .int .u64 0] 49 (0, 0)) := by rw [eY]; refine gs0 ?_; (try with_reducible exact trivial)
      have btY : Y[h.size + 1]? = some (.cells (fnL 35 t.cell).toArray 63 (0, 0)) := by rw [eY]; refine gs0 ?_; (try with_reducible exact trivial)
      have pIY : Y[h.size + 2]? = some (.cells #[.int .i64 0, .int .i64 0, .int .i64 0, .int .i64 0, .int .i64 0, .int .i64 0, .int .i64 0] 47 (0, 0)) := by rw [eY]; refine gs0 ?_; (try with_reducible exact trivial)
      have bhY := KY.at H lh
      have kY : Ca Y s c m M := k.mono (KY.old _ lc) (KY.old _ lm)
      rw [← eY]
      refine FnK.use (kY.fetch pc (r.ext KY) lpc nc nm) ?_
      intro x h9 ⟨e9, k9, s9, o9⟩
      rw [hRR] at e9
      rw [e9]
      have bR := (o9 h.size (by omega) (by omega) (by omega)).trans bRY
      have bt := (o9 (h.size + 1) (by omega) (by omega) (by omega)).trans btY
      have bh := (o9 hb (by omega) hc hm).trans bhY
      have lR := getElem?_lt bR
      have lt := getElem?_lt bt
      have lh9 := getElem?_lt bh
      have r9 : MR h9 s M := (r.ext KY).mono fun b f => o9 b (by have := r.lt f; omega) (fun e => nc (e ▸ f)) (fun e => nm (e ▸ f))
      have o90 : ∀ b, b < h.size → b ≠ c → b ≠ m → h9[b]? = h[b]? := fun b q1 q2 q3 => by rw [o9 b (by omega) q2 q3, KY.old b q1]
      have pI := (o9 (h.size + 2) (by omega) (by omega) (by omega)).trans pIY
      have lI := getElem?_lt pI
      refine gs9 @fnL_len @one @setL_35 @bR @bt @pI InstR.v.eq_1 StopR.v.eq_1 @tk ?_; (try with_reducible exact trivial)
      repeat' refine And.intro ?_ ?_
      all_goals
        first
        | (
          refine FnK.use (do_g (hb := hb) (tb := h.size + 1) (s := s) (M := M) (g := hg t s c) t R1 (by (repeat (first | rw [h_pushL _ _ _ (by simp; omega)] | rw [h_pushL _ _ _ (by omega)] | rw [h_setN _ _ _ _ (by omega)])); exact bh) rfl (by (repeat (first | rw [h_pushL _ _ _ (by simp; omega)] | rw [h_pushL _ _ _ (by omega)] | rw [h_setN _ _ _ _ (by omega)])); exact bt) tok iok (r9.mono fun b f => by (have := r.lt f; (repeat (first | rw [h_pushL _ _ _ (by simp; omega)] | rw [h_pushL _ _ _ (by omega)] | rw [h_setN _ _ _ _ (by omega)])))) (nf _ (by omega)) (by omega)) ?_
          intro x h10 ⟨e10, T10, s10, ⟨GM, G10⟩, o10⟩
          simp only [Array.size_push, Array.size_setIfInBounds] at s10 o10
          rw [hD] at e10 T10 G10
          rw [e10]
          have pS10 : h10[h9.size]? = some (.cells #[.int .i64 R2.kind, .int .i64 R2.fk, .int .u64 R2.fa] 49 (0, 0)) := (o10 (h9.size) (by omega) (by omega) (nf _ (by omega))).trans (by refine gs1 @pI ?_; (try with_reducible exact trivial))
          have bR10 : h10[h.size]? = some (.cells #[.int .i64 0, .int .i64 0, .int .u64 0] 49 (0, 0)) := (o10 h.size (by omega) (by omega) (nf _ (by omega))).trans (by (repeat (first | rw [h_pushL _ _ _ (by simp; omega)] | rw [h_pushL _ _ _ (by omega)] | rw [h_setN _ _ _ _ (by omega)])); exact bR)
          have lS10 := getElem?_lt pS10
          have lR10 := getElem?_lt bR10
          have o109 : ∀ b, b < h.size → ¬ mfoot s M b → h10[b]? = h9[b]? := fun b q1 q2 => (o10 b (by omega) (by omega) q2).trans (by (repeat (first | rw [h_pushL _ _ _ (by simp; omega)] | rw [h_pushL _ _ _ (by omega)] | rw [h_setN _ _ _ _ (by omega)])))
          have bh10 := (o109 hb lh nh).trans bh
          have lt10 := getElem?_lt T10
          have l10 : cellsO 0 35 h10[h.size + 1]? = some (fnL 35 D.t.cell) := by rw [T10, fnL_cells (by omega)]; simp
          have Ca10 : Ca h10 s c m M := k9.mono (o109 c lc nc) (o109 m lm nm)
          have nfG : ∀ b, mfoot s GM b → b < h.size ∨ h9.size ≤ b := fun b f => by
            rcases G10.ft b f with z | z
            · exact .inl (r.lt z)
            · simp only [Array.size_push, Array.size_setIfInBounds] at z; exact .inr (by omega)
          have nhG : ¬ mfoot s GM hb := fun f => by
            rcases G10.ft hb f with z | z
            · exact nh z
            · simp only [Array.size_push, Array.size_setIfInBounds] at z; omega
          have nR : ∀ b, mfoot s GM b → b ≠ h.size := fun b f e => by rcases nfG b f with z | z <;> omega
          have nS : ∀ b, mfoot s GM b → b ≠ h9.size := fun b f e => by
            rcases G10.ft b f with z | z
            · exact nf _ (by omega) (e ▸ z)
            · simp only [Array.size_push, Array.size_setIfInBounds] at z; omega
          refine gs7 @fnL_len @one @setL_35 @pS10 StopR.v.eq_1 @tk2 @l10 ?_; (try with_reducible exact trivial)
          refine hstate_use (t := t) (t2 := D.t) (s := s) (c := c) (by (repeat (first | rw [h_pushL _ _ _ (by simp; omega)] | rw [h_pushL _ _ _ (by omega)] | rw [h_setN _ _ _ _ (by omega)])); exact bh10) (by (repeat (first | rw [h_pushL _ _ _ (by simp; omega)] | rw [h_pushL _ _ _ (by omega)] | rw [h_setN _ _ _ _ (by omega)]))) ?_
          intro h5 H5 z5 o5
          simp only [Array.size_push, Array.size_setIfInBounds] at z5
          have pS5 : h5[h9.size]? = some (.cells #[.int .i64 D.st.kind, .int .i64 D.st.fk, .int .u64 D.st.fa] 49 (0, 0)) := (o5 (h9.size) (by omega)).trans (h_setS _ _ _ lS10)
          have bR5 : h5[h.size]? = some (.cells #[.int .i64 0, .int .i64 0, .int .u64 0] 49 (0, 0)) := (o5 h.size (by omega)).trans (by (repeat (first | rw [h_pushL _ _ _ (by simp; omega)] | rw [h_pushL _ _ _ (by omega)] | rw [h_setN _ _ _ _ (by omega)])); exact bR10)
          have lS5 := getElem?_lt pS5
          have lR5 := getElem?_lt bR5
          have o510 : ∀ b, b < h.size → b ≠ hb → h5[b]? = h10[b]? := fun b q1 q2 => by rw [o5 b q2]; (repeat (first | rw [h_pushL _ _ _ (by simp; omega)] | rw [h_pushL _ _ _ (by omega)] | rw [h_setN _ _ _ _ (by omega)]))
          have Ca5 : Ca h5 s c m M := Ca10.mono (o510 c lc (Ne.symm hc)) (o510 m lm (Ne.symm hm))
          have o50 : ∀ b, b < h.size → b ≠ hb → b ≠ c → b ≠ m → ¬ mfoot s M b → h5[b]? = h[b]? := fun b q1 q2 q3 q4 q5 => by rw [o510 b q1 q2, o109 b q1 q5, o90 b q1 q3 q4]
          have G5 : Gone h h5 s M GM D.B := G10.mono (by simp only [Array.size_push, Array.size_setIfInBounds]; omega) fun b f => by rw [o5 b (fun e => nhG (e ▸ f)), h_setN _ _ _ _ (nS b f)]
          refine gs4 @fnL_len @pS5 @bR5 StopR.v.eq_1 ?_; (try with_reducible exact trivial)
          refine ⟨rfl, H5, by omega, ⟨GM, ?_, Ca5.mono (by (repeat (first | rw [h_pushL _ _ _ (by simp; omega)] | rw [h_pushL _ _ _ (by omega)] | rw [h_setN _ _ _ _ (by omega)]))) (by (repeat (first | rw [h_pushL _ _ _ (by simp; omega)] | rw [h_pushL _ _ _ (by omega)] | rw [h_setN _ _ _ _ (by omega)])))⟩, fun b q1 q2 q3 q4 q5 => ?_⟩
          · exact G5.mono (Nat.le_refl _) fun b f => by rw [h_setN _ _ _ _ (nR b f)]
          · rw [h_setN _ _ _ _ (by omega)]; exact o50 b q1 q2 q3 q4 q5))
     | (
      obtain ⟨Y, eY⟩ : ∃ Y : Heap, Y = ((h.push (.cells #[.int .i64 0, .int .i64 0, .int .u64 0] 49)).push (.cells (fnL 35 t.cell).toArray 63)).push (.cells #[.int .i64 0, .int .i64 0, .int .u64 0] 49) := ⟨_, rfl⟩
      have KY : Keeps h.size h Y := by rw [eY]; exact ((Keeps.push _ _ (Nat.le_refl _)).push' (Nat.le_refl _)).push' (Nat.le_refl _)
      have zY : Y.size = h.size + 3 := by rw [eY]; simp
      have bRY : Y[h.size]? = some (.cells #[.int .i64 0, .int .i64 0, .int .u64 0] 49 (0, 0)) := by rw [eY]; refine gs0 ?_; (try with_reducible exact trivial)
      have btY : Y[h.size + 1]? = some (.cells (fnL 35 t.cell).toArray 63 (0, 0)) := by rw [eY]; refine gs0 ?_; (try with_reducible exact trivial)
      have pSY : Y[h.size + 2]? = some (.cells #[.int .i64 0, .int .i64 0, .int .u64 0] 49 (0, 0)) := by rw [eY]; refine gs0 ?_; (try with_reducible exact trivial)
      have bhY := KY.at H lh
      have kY : Ca Y s c m M := k.mono (KY.old _ lc) (KY.old _ lm)
      rw [← eY]
      refine FnK.use (kY.fetch pc (r.ext KY) lpc nc nm) ?_
      intro x h9 ⟨e9, k9, s9, o9⟩
      rw [hRR] at e9
      rw [e9]
      have bR := (o9 h.size (by omega) (by omega) (by omega)).trans bRY
      have bt := (o9 (h.size + 1) (by omega) (by omega) (by omega)).trans btY
      have bh := (o9 hb (by omega) hc hm).trans bhY
      have lR := getElem?_lt bR
      have lt := getElem?_lt bt
      have lh9 := getElem?_lt bh
      have r9 : MR h9 s M := (r.ext KY).mono fun b f => o9 b (by have := r.lt f; omega) (fun e => nc (e ▸ f)) (fun e => nm (e ▸ f))
      have o90 : ∀ b, b < h.size → b ≠ c → b ≠ m → h9[b]? = h[b]? := fun b q1 q2 q3 => by rw [o9 b (by omega) q2 q3, KY.old b q1]
      have pS := (o9 (h.size + 2) (by omega) (by omega) (by omega)).trans pSY
      have lS := getElem?_lt pS
      refine gs9 @fnL_len @one @setL_35 @bR @bt @pS InstR.v.eq_1 StopR.v.eq_1 @tk ?_; (try with_reducible exact trivial)
      repeat' refine And.intro ?_ ?_
      all_goals
        first
        | (
          refine FnK.use (do_g (hb := hb) (tb := h.size + 1) (s := s) (M := M) (g := hg t s c) t R1 (by (repeat (first | rw [h_pushL _ _ _ (by simp; omega)] | rw [h_pushL _ _ _ (by omega)] | rw [h_setN _ _ _ _ (by omega)])); exact bh) rfl (by (repeat (first | rw [h_pushL _ _ _ (by simp; omega)] | rw [h_pushL _ _ _ (by omega)] | rw [h_setN _ _ _ _ (by omega)])); exact bt) tok iok (r9.mono fun b f => by (have := r.lt f; (repeat (first | rw [h_pushL _ _ _ (by simp; omega)] | rw [h_pushL _ _ _ (by omega)] | rw [h_setN _ _ _ _ (by omega)])))) (nf _ (by omega)) (by omega)) ?_
          intro x h10 ⟨e10, T10, s10, ⟨GM, G10⟩, o10⟩
          simp only [Array.size_push, Array.size_setIfInBounds] at s10 o10
          rw [hD] at e10 T10 G10
          rw [e10]
          have pS10 : h10[h.size + 2]? = some (.cells #[.int .i64 R2.kind, .int .i64 R2.fk, .int .u64 R2.fa] 49 (0, 0)) := (o10 (h.size + 2) (by omega) (by omega) (nf _ (by omega))).trans (by refine gs1 @pS ?_; (try with_reducible exact trivial))
          have bR10 : h10[h.size]? = some (.cells #[.int .i64 0, .int .i64 0, .int .u64 0] 49 (0, 0)) := (o10 h.size (by omega) (by omega) (nf _ (by omega))).trans (by (repeat (first | rw [h_pushL _ _ _ (by simp; omega)] | rw [h_pushL _ _ _ (by omega)] | rw [h_setN _ _ _ _ (by omega)])); exact bR)
          have lS10 := getElem?_lt pS10
          have lR10 := getElem?_lt bR10
          have o109 : ∀ b, b < h.size → ¬ mfoot s M b → h10[b]? = h9[b]? := fun b q1 q2 => (o10 b (by omega) (by omega) q2).trans (by (repeat (first | rw [h_pushL _ _ _ (by simp; omega)] | rw [h_pushL _ _ _ (by omega)] | rw [h_setN _ _ _ _ (by omega)])))
          have bh10 := (o109 hb lh nh).trans bh
          have lt10 := getElem?_lt T10
          have l10 : cellsO 0 35 h10[h.size + 1]? = some (fnL 35 D.t.cell) := by rw [T10, fnL_cells (by omega)]; simp
          have Ca10 : Ca h10 s c m M := k9.mono (o109 c lc nc) (o109 m lm nm)
          have nfG : ∀ b, mfoot s GM b → b < h.size ∨ h9.size ≤ b := fun b f => by
            rcases G10.ft b f with z | z
            · exact .inl (r.lt z)
            · simp only [Array.size_push, Array.size_setIfInBounds] at z; exact .inr (by omega)
          have nhG : ¬ mfoot s GM hb := fun f => by
            rcases G10.ft hb f with z | z
            · exact nh z
            · simp only [Array.size_push, Array.size_setIfInBounds] at z; omega
          have nR : ∀ b, mfoot s GM b → b ≠ h.size := fun b f e => by rcases nfG b f with z | z <;> omega
          have nS : ∀ b, mfoot s GM b → b ≠ h.size + 2 := fun b f e => by
            rcases G10.ft b f with z | z
            · exact nf _ (by omega) (e ▸ z)
            · simp only [Array.size_push, Array.size_setIfInBounds] at z; omega
          refine gs7 @fnL_len @one @setL_35 @pS10 StopR.v.eq_1 @tk2 @l10 ?_; (try with_reducible exact trivial)
          refine hstate_use (t := t) (t2 := D.t) (s := s) (c := c) (by (repeat (first | rw [h_pushL _ _ _ (by simp; omega)] | rw [h_pushL _ _ _ (by omega)] | rw [h_setN _ _ _ _ (by omega)])); exact bh10) (by (repeat (first | rw [h_pushL _ _ _ (by simp; omega)] | rw [h_pushL _ _ _ (by omega)] | rw [h_setN _ _ _ _ (by omega)]))) ?_
          intro h5 H5 z5 o5
          simp only [Array.size_push, Array.size_setIfInBounds] at z5
          have pS5 : h5[h.size + 2]? = some (.cells #[.int .i64 D.st.kind, .int .i64 D.st.fk, .int .u64 D.st.fa] 49 (0, 0)) := (o5 (h.size + 2) (by omega)).trans (h_setS _ _ _ lS10)
          have bR5 : h5[h.size]? = some (.cells #[.int .i64 0, .int .i64 0, .int .u64 0] 49 (0, 0)) := (o5 h.size (by omega)).trans (by (repeat (first | rw [h_pushL _ _ _ (by simp; omega)] | rw [h_pushL _ _ _ (by omega)] | rw [h_setN _ _ _ _ (by omega)])); exact bR10)
          have lS5 := getElem?_lt pS5
          have lR5 := getElem?_lt bR5
          have o510 : ∀ b, b < h.size → b ≠ hb → h5[b]? = h10[b]? := fun b q1 q2 => by rw [o5 b q2]; (repeat (first | rw [h_pushL _ _ _ (by simp; omega)] | rw [h_pushL _ _ _ (by omega)] | rw [h_setN _ _ _ _ (by omega)]))
          have Ca5 : Ca h5 s c m M := Ca10.mono (o510 c lc (Ne.symm hc)) (o510 m lm (Ne.symm hm))
          have o50 : ∀ b, b < h.size → b ≠ hb → b ≠ c → b ≠ m → ¬ mfoot s M b → h5[b]? = h[b]? := fun b q1 q2 q3 q4 q5 => by rw [o510 b q1 q2, o109 b q1 q5, o90 b q1 q3 q4]
          have G5 : Gone h h5 s M GM D.B := G10.mono (by simp only [Array.size_push, Array.size_setIfInBounds]; omega) fun b f => by rw [o5 b (fun e => nhG (e ▸ f)), h_setN _ _ _ _ (nS b f)]
          refine gs4 @fnL_len @pS5 @bR5 StopR.v.eq_1 ?_; (try with_reducible exact trivial)
          refine ⟨rfl, H5, by omega, ⟨GM, ?_, Ca5.mono (by (repeat (first | rw [h_pushL _ _ _ (by simp; omega)] | rw [h_pushL _ _ _ (by omega)] | rw [h_setN _ _ _ _ (by omega)]))) (by (repeat (first | rw [h_pushL _ _ _ (by simp; omega)] | rw [h_pushL _ _ _ (by omega)] | rw [h_setN _ _ _ _ (by omega)])))⟩, fun b q1 q2 q3 q4 q5 => ?_⟩
          · exact G5.mono (Nat.le_refl _) fun b f => by rw [h_setN _ _ _ _ (nR b f)]
          · rw [h_setN _ _ _ _ (by omega)]; exact o50 b q1 q2 q3 q4 q5))
     | (
      obtain ⟨Y, eY⟩ : ∃ Y : Heap, Y = (h.push (.cells #[.int .i64 0, .int .i64 0, .int .u64 0] 49)).push (.cells (fnL 35 t.cell).toArray 63) := ⟨_, rfl⟩
      have KY : Keeps h.size h Y := by rw [eY]; exact (Keeps.push _ _ (Nat.le_refl _)).push' (Nat.le_refl _)
      have zY : Y.size = h.size + 2 := by rw [eY]; simp
      have bRY : Y[h.size]? = some (.cells #[.int .i64 0, .int .i64 0, .int .u64 0] 49 (0, 0)) := by rw [eY]; refine gs0 ?_; (try with_reducible exact trivial)
      have btY : Y[h.size + 1]? = some (.cells (fnL 35 t.cell).toArray 63 (0, 0)) := by rw [eY]; refine gs0 ?_; (try with_reducible exact trivial)
      have bhY := KY.at H lh
      have kY : Ca Y s c m M := k.mono (KY.old _ lc) (KY.old _ lm)
      rw [← eY]
      refine FnK.use (kY.fetch pc (r.ext KY) lpc nc nm) ?_
      intro x h9 ⟨e9, k9, s9, o9⟩
      rw [hRR] at e9
      rw [e9]
      have bR := (o9 h.size (by omega) (by omega) (by omega)).trans bRY
      have bt := (o9 (h.size + 1) (by omega) (by omega) (by omega)).trans btY
      have bh := (o9 hb (by omega) hc hm).trans bhY
      have lR := getElem?_lt bR
      have lt := getElem?_lt bt
      have lh9 := getElem?_lt bh
      have r9 : MR h9 s M := (r.ext KY).mono fun b f => o9 b (by have := r.lt f; omega) (fun e => nc (e ▸ f)) (fun e => nm (e ▸ f))
      have o90 : ∀ b, b < h.size → b ≠ c → b ≠ m → h9[b]? = h[b]? := fun b q1 q2 q3 => by rw [o9 b (by omega) q2 q3, KY.old b q1]
      refine gs8 @fnL_len @one @setL_35 @bR @bt InstR.v.eq_1 StopR.v.eq_1 @tk ?_; (try with_reducible exact trivial)
      repeat' refine And.intro ?_ ?_
      all_goals
        first
        | (
          refine FnK.use (do_g (hb := hb) (tb := h.size + 1) (s := s) (M := M) (g := hg t s c) t R1 (by (repeat (first | rw [h_pushL _ _ _ (by simp; omega)] | rw [h_pushL _ _ _ (by omega)] | rw [h_setN _ _ _ _ (by omega)])); exact bh) rfl (by (repeat (first | rw [h_pushL _ _ _ (by simp; omega)] | rw [h_pushL _ _ _ (by omega)] | rw [h_setN _ _ _ _ (by omega)])); exact bt) tok iok (r9.mono fun b f => by (have := r.lt f; (repeat (first | rw [h_pushL _ _ _ (by simp; omega)] | rw [h_pushL _ _ _ (by omega)] | rw [h_setN _ _ _ _ (by omega)])))) (nf _ (by omega)) (by omega)) ?_
          intro x h10 ⟨e10, T10, s10, ⟨GM, G10⟩, o10⟩
          simp only [Array.size_push, Array.size_setIfInBounds] at s10 o10
          rw [hD] at e10 T10 G10
          rw [e10]
          have pS10 : h10[h9.size + 1]? = some (.cells #[.int .i64 R2.kind, .int .i64 R2.fk, .int .u64 R2.fa] 49 (0, 0)) := (o10 (h9.size + 1) (by omega) (by omega) (nf _ (by omega))).trans (by refine gs1 @h_pushE ?_; (try with_reducible exact trivial))
          have bR10 : h10[h.size]? = some (.cells #[.int .i64 0, .int .i64 0, .int .u64 0] 49 (0, 0)) := (o10 h.size (by omega) (by omega) (nf _ (by omega))).trans (by (repeat (first | rw [h_pushL _ _ _ (by simp; omega)] | rw [h_pushL _ _ _ (by omega)] | rw [h_setN _ _ _ _ (by omega)])); exact bR)
          have lS10 := getElem?_lt pS10
          have lR10 := getElem?_lt bR10
          have o109 : ∀ b, b < h.size → ¬ mfoot s M b → h10[b]? = h9[b]? := fun b q1 q2 => (o10 b (by omega) (by omega) q2).trans (by (repeat (first | rw [h_pushL _ _ _ (by simp; omega)] | rw [h_pushL _ _ _ (by omega)] | rw [h_setN _ _ _ _ (by omega)])))
          have bh10 := (o109 hb lh nh).trans bh
          have lt10 := getElem?_lt T10
          have l10 : cellsO 0 35 h10[h.size + 1]? = some (fnL 35 D.t.cell) := by rw [T10, fnL_cells (by omega)]; simp
          have Ca10 : Ca h10 s c m M := k9.mono (o109 c lc nc) (o109 m lm nm)
          have nfG : ∀ b, mfoot s GM b → b < h.size ∨ h9.size ≤ b := fun b f => by
            rcases G10.ft b f with z | z
            · exact .inl (r.lt z)
            · simp only [Array.size_push, Array.size_setIfInBounds] at z; exact .inr (by omega)
          have nhG : ¬ mfoot s GM hb := fun f => by
            rcases G10.ft hb f with z | z
            · exact nh z
            · simp only [Array.size_push, Array.size_setIfInBounds] at z; omega
          have nR : ∀ b, mfoot s GM b → b ≠ h.size := fun b f e => by rcases nfG b f with z | z <;> omega
          have nS : ∀ b, mfoot s GM b → b ≠ h9.size + 1 := fun b f e => by
            rcases G10.ft b f with z | z
            · exact nf _ (by omega) (e ▸ z)
            · simp only [Array.size_push, Array.size_setIfInBounds] at z; omega
          refine gs7 @fnL_len @one @setL_35 @pS10 StopR.v.eq_1 @tk2 @l10 ?_; (try with_reducible exact trivial)
          refine hstate_use (t := t) (t2 := D.t) (s := s) (c := c) (by (repeat (first | rw [h_pushL _ _ _ (by simp; omega)] | rw [h_pushL _ _ _ (by omega)] | rw [h_setN _ _ _ _ (by omega)])); exact bh10) (by (repeat (first | rw [h_pushL _ _ _ (by simp; omega)] | rw [h_pushL _ _ _ (by omega)] | rw [h_setN _ _ _ _ (by omega)]))) ?_
          intro h5 H5 z5 o5
          simp only [Array.size_push, Array.size_setIfInBounds] at z5
          have pS5 : h5[h9.size + 1]? = some (.cells #[.int .i64 D.st.kind, .int .i64 D.st.fk, .int .u64 D.st.fa] 49 (0, 0)) := (o5 (h9.size + 1) (by omega)).trans (h_setS _ _ _ lS10)
          have bR5 : h5[h.size]? = some (.cells #[.int .i64 0, .int .i64 0, .int .u64 0] 49 (0, 0)) := (o5 h.size (by omega)).trans (by (repeat (first | rw [h_pushL _ _ _ (by simp; omega)] | rw [h_pushL _ _ _ (by omega)] | rw [h_setN _ _ _ _ (by omega)])); exact bR10)
          have lS5 := getElem?_lt pS5
          have lR5 := getElem?_lt bR5
          have o510 : ∀ b, b < h.size → b ≠ hb → h5[b]? = h10[b]? := fun b q1 q2 => by rw [o5 b q2]; (repeat (first | rw [h_pushL _ _ _ (by simp; omega)] | rw [h_pushL _ _ _ (by omega)] | rw [h_setN _ _ _ _ (by omega)]))
          have Ca5 : Ca h5 s c m M := Ca10.mono (o510 c lc (Ne.symm hc)) (o510 m lm (Ne.symm hm))
          have o50 : ∀ b, b < h.size → b ≠ hb → b ≠ c → b ≠ m → ¬ mfoot s M b → h5[b]? = h[b]? := fun b q1 q2 q3 q4 q5 => by rw [o510 b q1 q2, o109 b q1 q5, o90 b q1 q3 q4]
          have G5 : Gone h h5 s M GM D.B := G10.mono (by simp only [Array.size_push, Array.size_setIfInBounds]; omega) fun b f => by rw [o5 b (fun e => nhG (e ▸ f)), h_setN _ _ _ _ (nS b f)]
          refine gs4 @fnL_len @pS5 @bR5 StopR.v.eq_1 ?_; (try with_reducible exact trivial)
          refine ⟨rfl, H5, by omega, ⟨GM, ?_, Ca5.mono (by (repeat (first | rw [h_pushL _ _ _ (by simp; omega)] | rw [h_pushL _ _ _ (by omega)] | rw [h_setN _ _ _ _ (by omega)]))) (by (repeat (first | rw [h_pushL _ _ _ (by simp; omega)] | rw [h_pushL _ _ _ (by omega)] | rw [h_setN _ _ _ _ (by omega)])))⟩, fun b q1 q2 q3 q4 q5 => ?_⟩
          · exact G5.mono (Nat.le_refl _) fun b f => by rw [h_setN _ _ _ _ (nR b f)]
          · rw [h_setN _ _ _ _ (by omega)]; exact o50 b q1 q2 q3 q4 q5)
        | (
          refine FnK.use (do_g (hb := hb) (tb := h.size + 1) (s := s) (M := M) (g := hg t s c) t R1 (by (repeat (first | rw [h_pushL _ _ _ (by simp; omega)] | rw [h_pushL _ _ _ (by omega)] | rw [h_setN _ _ _ _ (by omega)])); exact bh) rfl (by (repeat (first | rw [h_pushL _ _ _ (by simp; omega)] | rw [h_pushL _ _ _ (by omega)] | rw [h_setN _ _ _ _ (by omega)])); exact bt) tok iok (r9.mono fun b f => by (have := r.lt f; (repeat (first | rw [h_pushL _ _ _ (by simp; omega)] | rw [h_pushL _ _ _ (by omega)] | rw [h_setN _ _ _ _ (by omega)])))) (nf _ (by omega)) (by omega)) ?_
          intro x h10 ⟨e10, T10, s10, ⟨GM, G10⟩, o10⟩
          simp only [Array.size_push, Array.size_setIfInBounds] at s10 o10
          rw [hD] at e10 T10 G10
          rw [e10]
          have pS10 : h10[h9.size]? = some (.cells #[.int .i64 R2.kind, .int .i64 R2.fk, .int .u64 R2.fa] 49 (0, 0)) := (o10 (h9.size) (by omega) (by omega) (nf _ (by omega))).trans (by refine gs1 @h_pushE ?_; (try with_reducible exact trivial))
          have bR10 : h10[h.size]? = some (.cells #[.int .i64 0, .int .i64 0, .int .u64 0] 49 (0, 0)) := (o10 h.size (by omega) (by omega) (nf _ (by omega))).trans (by (repeat (first | rw [h_pushL _ _ _ (by simp; omega)] | rw [h_pushL _ _ _ (by omega)] | rw [h_setN _ _ _ _ (by omega)])); exact bR)
          have lS10 := getElem?_lt pS10
          have lR10 := getElem?_lt bR10
          have o109 : ∀ b, b < h.size → ¬ mfoot s M b → h10[b]? = h9[b]? := fun b q1 q2 => (o10 b (by omega) (by omega) q2).trans (by (repeat (first | rw [h_pushL _ _ _ (by simp; omega)] | rw [h_pushL _ _ _ (by omega)] | rw [h_setN _ _ _ _ (by omega)])))
          have bh10 := (o109 hb lh nh).trans bh
          have lt10 := getElem?_lt T10
          have l10 : cellsO 0 35 h10[h.size + 1]? = some (fnL 35 D.t.cell) := by rw [T10, fnL_cells (by omega)]; simp
          have Ca10 : Ca h10 s c m M := k9.mono (o109 c lc nc) (o109 m lm nm)
          have nfG : ∀ b, mfoot s GM b → b < h.size ∨ h9.size ≤ b := fun b f => by
            rcases G10.ft b f with z | z
            · exact .inl (r.lt z)
            · simp only [Array.size_push, Array.size_setIfInBounds] at z; exact .inr (by omega)
          have nhG : ¬ mfoot s GM hb := fun f => by
            rcases G10.ft hb f with z | z
            · exact nh z
            · simp only [Array.size_push, Array.size_setIfInBounds] at z; omega
          have nR : ∀ b, mfoot s GM b → b ≠ h.size := fun b f e => by rcases nfG b f with z | z <;> omega
          have nS : ∀ b, mfoot s GM b → b ≠ h9.size := fun b f e => by
            rcases G10.ft b f with z | z
            · exact nf _ (by omega) (e ▸ z)
            · simp only [Array.size_push, Array.size_setIfInBounds] at z; omega
          refine gs7 @fnL_len @one @setL_35 @pS10 StopR.v.eq_1 @tk2 @l10 ?_; (try with_reducible exact trivial)
          refine hstate_use (t := t) (t2 := D.t) (s := s) (c := c) (by (repeat (first | rw [h_pushL _ _ _ (by simp; omega)] | rw [h_pushL _ _ _ (by omega)] | rw [h_setN _ _ _ _ (by omega)])); exact bh10) (by (repeat (first | rw [h_pushL _ _ _ (by simp; omega)] | rw [h_pushL _ _ _ (by omega)] | rw [h_setN _ _ _ _ (by omega)]))) ?_
          intro h5 H5 z5 o5
          simp only [Array.size_push, Array.size_setIfInBounds] at z5
          have pS5 : h5[h9.size]? = some (.cells #[.int .i64 D.st.kind, .int .i64 D.st.fk, .int .u64 D.st.fa] 49 (0, 0)) := (o5 (h9.size) (by omega)).trans (h_setS _ _ _ lS10)
          have bR5 : h5[h.size]? = some (.cells #[.int .i64 0, .int .i64 0, .int .u64 0] 49 (0, 0)) := (o5 h.size (by omega)).trans (by (repeat (first | rw [h_pushL _ _ _ (by simp; omega)] | rw [h_pushL _ _ _ (by omega)] | rw [h_setN _ _ _ _ (by omega)])); exact bR10)
          have lS5 := getElem?_lt pS5
          have lR5 := getElem?_lt bR5
          have o510 : ∀ b, b < h.size → b ≠ hb → h5[b]? = h10[b]? := fun b q1 q2 => by rw [o5 b q2]; (repeat (first | rw [h_pushL _ _ _ (by simp; omega)] | rw [h_pushL _ _ _ (by omega)] | rw [h_setN _ _ _ _ (by omega)]))
          have Ca5 : Ca h5 s c m M := Ca10.mono (o510 c lc (Ne.symm hc)) (o510 m lm (Ne.symm hm))
          have o50 : ∀ b, b < h.size → b ≠ hb → b ≠ c → b ≠ m → ¬ mfoot s M b → h5[b]? = h[b]? := fun b q1 q2 q3 q4 q5 => by rw [o510 b q1 q2, o109 b q1 q5, o90 b q1 q3 q4]
          have G5 : Gone h h5 s M GM D.B := G10.mono (by simp only [Array.size_push, Array.size_setIfInBounds]; omega) fun b f => by rw [o5 b (fun e => nhG (e ▸ f)), h_setN _ _ _ _ (nS b f)]
          refine gs4 @fnL_len @pS5 @bR5 StopR.v.eq_1 ?_; (try with_reducible exact trivial)
          refine ⟨rfl, H5, by omega, ⟨GM, ?_, Ca5.mono (by (repeat (first | rw [h_pushL _ _ _ (by simp; omega)] | rw [h_pushL _ _ _ (by omega)] | rw [h_setN _ _ _ _ (by omega)]))) (by (repeat (first | rw [h_pushL _ _ _ (by simp; omega)] | rw [h_pushL _ _ _ (by omega)] | rw [h_setN _ _ _ _ (by omega)])))⟩, fun b q1 q2 q3 q4 q5 => ?_⟩
          · exact G5.mono (Nat.le_refl _) fun b f => by rw [h_setN _ _ _ _ (nR b f)]
          · rw [h_setN _ _ _ _ (by omega)]; exact o50 b q1 q2 q3 q4 q5))
end Go.SX.G
