/- An atomic instruction of a machine, by its space. No condition but on ranges. An atomic instruction of a machine. No condition but on ranges. -/
import Derived.Test.YtajfhnphhdoobaaGreatHT
set_option linter.unusedVariables false
set_option linter.unusedSimpArgs false
namespace Go.SX.G
open Go Go.SX Go.Proofs
set_option maxRecDepth 100000
set_option maxHeartbeats 4000000
theorem stepR_some {n : Nat} {op : Int} {o1 o2 : Option Nat} {ha hn a x sx nx v : Nat} (h : (stepR n op o1 o2 ha hn a x sx nx).st = some v) : o1 = none ∧ n ≠ 0 := by
  unfold stepR at h
  split at h
  · cases h
  · rename_i q0
    refine ⟨?_, q0⟩
    split at h
    · cases h
    · split at h
      · unfold stepC at h
        cases o1 with
        | some b => cases h
        | none => rfl
      · cases o2 with
        | some b => cases h
        | none =>
          simp only [] at h
          split at h
          · cases h
          · cases o1 with
            | some b => cases h
            | none => rfl
theorem atom_g {h : Heap} {s : Nat} {M : MemD} (t : HS) (i : InstR) (tok : t.ok) (r : MR h s M) :
    Fn Tryz.prog 137 [ptr s 0, .agg #[.int .u64 t.ha, .int .i64 t.hn], .int .i64 i.op, .int .u64 (t.get i.rs1), .int .u64 (t.get i.rs2)] h fun y h' => y = stepT (atomF M.rs (memAt M) t i) ∧ (∃ M', Gone h h' s M M' (putB (atomF M.rs (memAt M) t i).st (t.get i.rs1).toNat (widthI i.op).toNat (memAt M))) ∧ h.size ≤ h'.size ∧ ∀ b, b < h.size → ¬ mfoot s M b → h'[b]? = h[b]? := by
  obtain ⟨a, ha, la⟩ : ∃ n : Nat, t.get i.rs1 = n ∧ n < 18446744073709551616 := ⟨(t.get i.rs1).toNat, by have := tok.x i.rs1.toNat; unfold u64R at this; unfold HS.get; omega, by have := tok.x i.rs1.toNat; unfold u64R at this; unfold HS.get; omega⟩
  obtain ⟨x, hx, lx⟩ : ∃ n : Nat, t.get i.rs2 = n ∧ n < 18446744073709551616 := ⟨(t.get i.rs2).toNat, by have := tok.x i.rs2.toNat; unfold u64R at this; unfold HS.get; omega, by have := tok.x i.rs2.toNat; unfold u64R at this; unfold HS.get; omega⟩
  obtain ⟨ka, hka⟩ : ∃ n : Nat, t.ha = n := ⟨t.ha.toNat, by have := tok.ha; unfold u64R at this; omega⟩
  obtain ⟨kn, hkn⟩ : ∃ n : Nat, t.hn = n := ⟨t.hn.toNat, by have := tok.hn; omega⟩
  obtain ⟨n, hn, hn3⟩ := width_nat i.op
  have old : le (peekL M a n) < 18446744073709551616 := by
    have hl : ∀ l : List Nat, (∀ b ∈ l, b < 256) → l.length ≤ 8 → le l < 18446744073709551616 := fun l h1 h2 => Nat.lt_of_lt_of_le (le_lt l h1) (Nat.pow_le_pow_right (n := 256) (by omega) h2)
    refine hl _ (fun b hb => ?_) (by simp [peekL]; omega)
    simp only [peekL, List.mem_map] at hb
    obtain ⟨j, _, rfl⟩ := hb
    exact byteAt_lt r.sr _
  have eA : atomF M.rs (memAt M) t i = stepR n i.op (firstF M.rs a n 2) (firstF M.rs a n 1) ka kn a x (sxN (le (peekL M a n)) n) (nxN (amoF i.op (le (peekL M a n)) x)) := by
    unfold atomF
    rw [ha, hx, hka, hkn, hn]
    rfl
  rw [eA, ha, hx, hka, hkn, hn]
  refine (step_c i.op a x ka kn n (firstF M.rs a n 2) (firstF M.rs a n 1) (amoF i.op (le (peekL M a n)) x) r la lx hn (firstF_ok _ _ _ _) (firstF_ok _ _ _ _) (fun h => do_f i.op _ x old lx h)).mono fun y h' ⟨e, M', g, rs, byte⟩ => ⟨e, ⟨M', g.r, rs, fun y => byte y, g.fx.ft, _, g.sr, fun y q => ?_⟩, g.fx.size, g.fx.old⟩
  rw [byte y] at q
  cases hst : (stepR n i.op (firstF M.rs a n 2) (firstF M.rs a n 1) ka kn a x (sxN (le (peekL M a n)) n) (nxN (amoF i.op (le (peekL M a n)) x))).st with
  | none => rw [hst] at q; exact absurd rfl q
  | some v =>
    rw [hst] at q
    obtain ⟨f1, f2⟩ := stepR_some hst
    have far := firstF_far r.wf f1 (by omega) la (by omega)
    refine ⟨by simp, ?_⟩
    unfold putB at q
    simp only [] at q
    by_cases z : a ≤ y ∧ y < a + n
    · exact ⟨y, z.1, z.2, by omega, rfl⟩
    · exact absurd (if_neg z) q
end Go.SX.G
namespace Go.SX.G
open Go Go.SX Go.Proofs
set_option maxRecDepth 100000
set_option maxHeartbeats 400000000
theorem xset_use {X : Heap} {o : Option Obj} {tb r : Nat} {t : HS} {v : Int} {K : Heap → Prop} (HX : X[tb]? = some (sO t.cell)) (ho : o = X[tb]?) (hr : r < 32)
    (hk : ∀ h', h'[tb]? = some (sO (t.set r v).cell) → h'.size = X.size → (∀ c, c ≠ tb → h'[c]? = X[c]?) → K h') : @obK Heap (wrO X tb (1 + r) [.int .u64 v] o) ⟨K⟩ := by
  obtain ⟨h', w, c, z, o'⟩ := xSet HX r v hr
  rw [ho]
  exact obK.use _ w (hk h' c z o')
theorem hold_use {X : Heap} {o : Option Obj} {tb : Nat} {t : HS} {a n : Int} {K : Heap → Prop} (HX : X[tb]? = some (sO t.cell)) (ho : o = X[tb]?)
    (hk : ∀ h', h'[tb]? = some (sO ({ t with ha := a, hn := n } : HS).cell) → h'.size = X.size → (∀ c, c ≠ tb → h'[c]? = X[c]?) → K h') : @obK Heap (wrO X tb 33 [.int .u64 a, .int .i64 n] o) ⟨K⟩ := by
  obtain ⟨h', w, c, z, o'⟩ := holdSet HX a n
  rw [ho]
  exact obK.use _ w (hk h' c z o')
theorem other_a {h : Heap} {hb tb s : Nat} {M : MemD} {g : Nat → Value} (t : HS) (i : InstR) (H : h[hb]? = some (.cells (fnL 37 g).toArray 120 (0, 0))) (g35 : g 35 = ptr s 0) (HT : h[tb]? = some (sO t.cell)) (tok : t.ok) (ok : i.ok)
    (r : MR h s M) (nt : ¬ mfoot s M tb) (hne : hb ≠ tb) (q0 : i.op ≠ 87) (q1 : i.op ≠ 88) (q2 : i.op ≠ 85) (q3 : i.op ≠ 86) (q4 : i.op ≠ 2) (A : aluE i.op (t.get i.rs1) (secondF t i) = none) :
    Fn Tryz.prog 110 [ptr hb 0, ptr tb 0, i.v] h fun x h' => x = (⟨(atomF M.rs (memAt M) t i).sk, (atomF M.rs (memAt M) t i).fk, (atomF M.rs (memAt M) t i).fa⟩ : StopR).v ∧ h'[tb]? = some (sO ({ t.set i.rd (atomF M.rs (memAt M) t i).res with ha := (atomF M.rs (memAt M) t i).ha, hn := (atomF M.rs (memAt M) t i).hn } : HS).cell) ∧ h.size ≤ h'.size ∧ (∃ M', Gone h h' s M M' (putB (atomF M.rs (memAt M) t i).st (t.get i.rs1).toNat (widthI i.op).toNat (memAt M))) ∧ ∀ b, b < h.size → b ≠ tb → ¬ mfoot s M b → h'[b]? = h[b]? := by
  have lh := getElem?_lt H
  have lt := getElem?_lt HT
  obtain ⟨rd, hrd, lrd⟩ := toN32 ok.rd
  obtain ⟨r1, hr1, lr1⟩ := toN32 ok.rs1
  obtain ⟨r2, hr2, lr2⟩ := toN32 ok.rs2
  have c0 := pcCell HT
  have c1 := xCell HT r1 lr1
  have c2 := xCell HT r2 lr2
  have c35 : cellO 35 h[hb]? = some (ptr s 0) := by rw [H, fnL_cell (by omega), g35]
  have d1 : decide ((rd : Int) < 32) = true := decide_eq_true (by omega)
  have d2 : decide ((rd : Int) < 0) = false := decide_eq_false (by omega)
  have d3 : decide ((r1 : Int) < 32) = true := decide_eq_true (by omega)
  have d4 : decide ((r1 : Int) < 0) = false := decide_eq_false (by omega)
  have d5 : decide ((r2 : Int) < 32) = true := decide_eq_true (by omega)
  have d6 : decide ((r2 : Int) < 0) = false := decide_eq_false (by omega)
  have ntb : ∀ j, h.size + j ≠ tb := fun j => by omega
  have nf : ∀ j, ¬ mfoot s M (h.size + j) := fun j q => by have := r.lt q; omega
  obtain ⟨X, eX⟩ : ∃ X, X = (h.push (.cells #[.int .i64 i.op, .int .i64 rd, .int .i64 r1, .int .i64 r2, .int .i64 i.imm, .int .i64 i.order, .int .i64 i.size] 47)).push (.cells #[.int .i64 0, .int .i64 0, .int .u64 0] 49) := ⟨_, rfl⟩
  have KX : Keeps h.size h X := by rw [eX]; exact (Keeps.push _ _ (Nat.le_refl _)).push' (Nat.le_refl _)
  have zX : X.size = h.size + 2 := by rw [eX]; simp
  have p0 : X[h.size]? = some (.cells #[.int .i64 i.op, .int .i64 rd, .int .i64 r1, .int .i64 r2, .int .i64 i.imm, .int .i64 i.order, .int .i64 i.size] 47 (0, 0)) := by rw [eX]; refine gs0 ?_; (try with_reducible exact trivial)
  have p1 : X[h.size + 1]? = some (.cells #[.int .i64 0, .int .i64 0, .int .u64 0] 49 (0, 0)) := by rw [eX]; refine gs0 ?_; (try with_reducible exact trivial)
  have rX := r.ext KX
  have TX := KX.at HT lt
  have HX := KX.at H lh
  have t0 : (i.op = 87) = False := eq_false q0
  have t1 : (i.op = 88) = False := eq_false q1
  have t2 : (i.op = 85) = False := eq_false q2
  have t3 : (i.op = 86) = False := eq_false q3
  have t4 : (i.op = 2) = False := eq_false q4
  have sec := second_g (h := X) t i TX ok
  unfold InstR.v at sec
  rw [hrd, hr1, hr2] at sec
  have sR := secondF_R tok i
  obtain ⟨sv, hsv⟩ : ∃ sv, sv = secondF t i := ⟨_, rfl⟩
  rw [← hsv] at sec sR A
  rw [hr1] at A ⊢
  have ado := ado_c i.op (t.get r1) sv sR
  rw [A] at ado
  unfold okV at ado
  have atm := fun (h : Heap) (r : MR h s M) => atom_g (h := h) t i tok r
  rw [hr1, hr2] at atm
  obtain ⟨O, hO⟩ : ∃ O, O = atomF M.rs (memAt M) t i := ⟨_, rfl⟩
  simp only [hrd, ← hO] at atm ⊢
  obtain ⟨BB, hBB⟩ : ∃ BB, BB = putB O.st (t.get r1).toNat (widthI i.op).toNat (memAt M) := ⟨_, rfl⟩
  simp only [← hBB] at atm ⊢
  refine Fn_c Tryz.func110 mixed c110 (by kernel_rfl) ?_; rw [r110]
  simp -implicitDefEqProofs (disch := first | omega | (simp only [h_szP, h_szS]; done) | (simp only [h_szP, h_szS]; omega)) only [go_sem, Nat.reduceBEq, reduceCtorEq, Nat.reduceAdd, Int.reduceEq, Int.reduceLT, Int.reduceLE, Int.reduceMul, Int.reduceAdd, Int.reduceSub, reduceIte, Nat.reduceLeDiff, Nat.reduceLT, Nat.reduceMul, Nat.reduceSub, Int.reduceToNat, InstR.v, hrd, hr1, hr2, c0, c1, c2, c35, d1, d2, d3, d4, d5, d6, Nat.mul_one, t0, t1, t2, t3, t4]
  rw [← eX]
  repeat' refine And.intro ?_ ?_
  all_goals
    refine FnK.use sec ?_
    intro x h3 ⟨e3, K3⟩
    rw [e3]
    have s3 := K3.size
    have T3 := K3.at TX (by omega)
    have H3 := K3.at HX (by omega)
    have lt3 := getElem?_lt T3
    have c13 := xCell T3 r1 lr1
    have c23 := xCell T3 r2 lr2
    have cH3 := holdCell T3
    have c353 : cellO 35 h3[hb]? = some (ptr s 0) := by rw [H3, fnL_cell (by omega), g35]
    have p03 := K3.at p0 (by omega)
    have p13 := K3.at p1 (by omega)
    have l03 := getElem?_lt p03
    have l13 := getElem?_lt p13
    have r3 : MR h3 s M := rX.ext K3
    have o3 : ∀ b, b < h.size → h3[b]? = h[b]? := fun b q => by rw [K3.old b (by omega), KX.old b q]
    refine gs6 @p03 @p13 @c13 @d3 @d4 @Nat.mul_one ?_; (try with_reducible exact trivial)
    refine FnK.val (ado _) ?_
    refine gs13 @p03 @p13 @c13 @c23 @c353 @cH3 @d1 @d2 @d3 @d4 @d5 @d6 @Nat.mul_one ?_; (try with_reducible exact trivial)
    repeat' refine And.intro ?_ ?_
    all_goals
     first
     | (
      obtain ⟨Y, eY⟩ : ∃ Y : Heap, Y = (h3.push (.cells #[.int .u64 0, .int .i64 0] 61)).push (.cells #[.int .i64 0, .int .i64 0, .int .u64 0] 49) := ⟨_, rfl⟩
      rw [← eY]
      clear c0 c1 c2 c35 d3 d4 d5 d6 p0 p1 sec ado c13 c23 cH3 c353 H3 sR A q0 q1 q2 q3 q4 t0 t1 t2 t3 t4 TX HX rX K3 KX HT lr1 lr2 e3
      have KY : Keeps h3.size h3 Y := by rw [eY]; exact (Keeps.push _ _ (Nat.le_refl _)).push' (Nat.le_refl _)
      have zY : Y.size = h3.size + 2 := by simp [eY]
      have TY := KY.at T3 lt3
      have p0Y := KY.at p03 l03
      have p1Y := KY.at p13 l13
      have rY := r3.ext KY
      have pHY : Y[h3.size]? = some (.cells #[.int .u64 0, .int .i64 0] 61 (0, 0)) := by rw [eY]; refine gs0 ?_; (try with_reducible exact trivial)
      have pSY : Y[h3.size + 1]? = some (.cells #[.int .i64 0, .int .i64 0, .int .u64 0] 49 (0, 0)) := by rw [eY]; refine gs0 ?_; (try with_reducible exact trivial)
      refine FnK.use (atm Y rY) ?_
      intro y h4 ⟨e4, ⟨M', G4⟩, s4, o4⟩
      rw [e4]
      unfold stepT holdV stopV
      have T4 := (o4 tb (by omega) nt).trans TY
      have lt4 := getElem?_lt T4
      have nfY : ∀ j, h.size ≤ j → ¬ mfoot s M j := fun j q f => by have := r.lt f; omega
      have p04 := (o4 h.size (by omega) (nfY _ (by omega))).trans p0Y
      have p14 := (o4 (h.size + 1) (by omega) (nfY _ (by omega))).trans p1Y
      have l04 := getElem?_lt p04
      have l14 := getElem?_lt p14
      have nfM' : ∀ b, mfoot s M' b → b < h.size ∨ Y.size ≤ b := fun b f => by
        rcases G4.ft b f with z | z
        · exact .inl (r.lt z)
        · exact .inr z
      have ntM' : ¬ mfoot s M' tb := fun f => by
        rcases G4.ft tb f with z | z
        · exact nt z
        · omega
      have pH4 := (o4 (h3.size) (by omega) (nfY _ (by omega))).trans pHY
      have lH4 := getElem?_lt pH4
      have pS4 := (o4 (h3.size + 1) (by omega) (nfY _ (by omega))).trans pSY
      have lS4 := getElem?_lt pS4
      refine gs7 @p04 @p14 @pH4 @pS4 @d1 @d2 @Nat.mul_one ?_; (try with_reducible exact trivial)
      repeat' refine And.intro ?_ ?_
      all_goals
        first
        | (
          refine xset_use (t := t) (by (repeat (first | rw [h_pushL _ _ _ (by simp; omega)] | rw [h_pushL _ _ _ (by omega)] | rw [h_setN _ _ _ _ (by omega)])); exact T4) (by (repeat (first | rw [h_pushL _ _ _ (by simp; omega)] | rw [h_pushL _ _ _ (by omega)] | rw [h_setN _ _ _ _ (by omega)]))) lrd ?_
          intro h5 T5 z5 o5
          simp only [Array.size_push, Array.size_setIfInBounds] at z5
          have pH5 : h5[h3.size]? = some (.cells #[.int .u64 O.ha, .int .i64 O.hn] 61 (0, 0)) := (o5 (h3.size) (by omega)).trans (by refine gs2 @pH4 @pS4 ?_; (try with_reducible exact trivial))
          have pS5 : h5[h3.size + 1]? = some (.cells #[.int .i64 O.sk, .int .i64 O.fk, .int .u64 O.fa] 49 (0, 0)) := (o5 (h3.size + 1) (by omega)).trans (by refine gs2 @pH4 @pS4 ?_; (try with_reducible exact trivial))
          have p15 : h5[h.size + 1]? = _ := (o5 (h.size + 1) (ntb 1)).trans ((by (repeat (first | rw [h_pushL _ _ _ (by simp; omega)] | rw [h_pushL _ _ _ (by omega)] | rw [h_setN _ _ _ _ (by omega)])); exact p14) : _ = some (.cells #[.int .i64 0, .int .i64 0, .int .u64 0] 49 (0, 0)))
          have lH5 := getElem?_lt pH5
          have lS5 := getElem?_lt pS5
          have l15 := getElem?_lt p15
          try refine gs3 @pH5 @pS5 @p15 ?_; (try with_reducible exact trivial)
          refine hold_use (t := t.set rd O.res) T5 rfl ?_
          intro h6 T6 z6 o6
          have pS6 := (o6 (h3.size + 1) (by omega)).trans pS5
          have p16 := (o6 (h.size + 1) (ntb 1)).trans p15
          have lS6 := getElem?_lt pS6
          have l16 := getElem?_lt p16
          refine gs3 @pS6 @p16 StopR.v.eq_1 ?_; (try with_reducible exact trivial)
          refine ⟨T6, by omega, ⟨M', G4.mono (by omega) fun b f => ?_⟩, fun b hb' n1 n2 => ?_⟩
          · have n1 := nfM' b f
            have n2 := G4.r.lt f
            have n3 : b ≠ tb := fun e => ntM' (e ▸ f)
            rw [h_setN _ _ _ _ (by omega), o6 b n3, o5 b n3]
            (repeat (first | rw [h_pushL _ _ _ (by simp; omega)] | rw [h_pushL _ _ _ (by omega)] | rw [h_setN _ _ _ _ (by omega)]))
          · rw [h_setN _ _ _ _ (by omega), o6 b n1, o5 b n1]
            (repeat (first | rw [h_pushL _ _ _ (by simp; omega)] | rw [h_pushL _ _ _ (by omega)] | rw [h_setN _ _ _ _ (by omega)]))
            rw [o4 b (by omega) n2, KY.old b (by omega), o3 b hb']))
     | (
      obtain ⟨Y, eY⟩ : ∃ Y : Heap, Y = (h3.push (.cells #[.int .i64 0, .int .i64 0, .int .u64 0] 49)).push (.cells #[.int .u64 0, .int .i64 0] 61) := ⟨_, rfl⟩
      rw [← eY]
      clear c0 c1 c2 c35 d3 d4 d5 d6 p0 p1 sec ado c13 c23 cH3 c353 H3 sR A q0 q1 q2 q3 q4 t0 t1 t2 t3 t4 TX HX rX K3 KX HT lr1 lr2 e3
      have KY : Keeps h3.size h3 Y := by rw [eY]; exact (Keeps.push _ _ (Nat.le_refl _)).push' (Nat.le_refl _)
      have zY : Y.size = h3.size + 2 := by simp [eY]
      have TY := KY.at T3 lt3
      have p0Y := KY.at p03 l03
      have p1Y := KY.at p13 l13
      have rY := r3.ext KY
      have pSY : Y[h3.size]? = some (.cells #[.int .i64 0, .int .i64 0, .int .u64 0] 49 (0, 0)) := by rw [eY]; refine gs0 ?_; (try with_reducible exact trivial)
      have pHY : Y[h3.size + 1]? = some (.cells #[.int .u64 0, .int .i64 0] 61 (0, 0)) := by rw [eY]; refine gs0 ?_; (try with_reducible exact trivial)
      refine FnK.use (atm Y rY) ?_
      intro y h4 ⟨e4, ⟨M', G4⟩, s4, o4⟩
      rw [e4]
      unfold stepT holdV stopV
      have T4 := (o4 tb (by omega) nt).trans TY
      have lt4 := getElem?_lt T4
      have nfY : ∀ j, h.size ≤ j → ¬ mfoot s M j := fun j q f => by have := r.lt f; omega
      have p04 := (o4 h.size (by omega) (nfY _ (by omega))).trans p0Y
      have p14 := (o4 (h.size + 1) (by omega) (nfY _ (by omega))).trans p1Y
      have l04 := getElem?_lt p04
      have l14 := getElem?_lt p14
      have nfM' : ∀ b, mfoot s M' b → b < h.size ∨ Y.size ≤ b := fun b f => by
        rcases G4.ft b f with z | z
        · exact .inl (r.lt z)
        · exact .inr z
      have ntM' : ¬ mfoot s M' tb := fun f => by
        rcases G4.ft tb f with z | z
        · exact nt z
        · omega
      have pS4 := (o4 (h3.size) (by omega) (nfY _ (by omega))).trans pSY
      have lS4 := getElem?_lt pS4
      have pH4 := (o4 (h3.size + 1) (by omega) (nfY _ (by omega))).trans pHY
      have lH4 := getElem?_lt pH4
      refine gs7 @p04 @p14 @pS4 @pH4 @d1 @d2 @Nat.mul_one ?_; (try with_reducible exact trivial)
      repeat' refine And.intro ?_ ?_
      all_goals
        first
        | (
          refine xset_use (t := t) (by (repeat (first | rw [h_pushL _ _ _ (by simp; omega)] | rw [h_pushL _ _ _ (by omega)] | rw [h_setN _ _ _ _ (by omega)])); exact T4) (by (repeat (first | rw [h_pushL _ _ _ (by simp; omega)] | rw [h_pushL _ _ _ (by omega)] | rw [h_setN _ _ _ _ (by omega)]))) lrd ?_
          intro h5 T5 z5 o5
          simp only [Array.size_push, Array.size_setIfInBounds] at z5
          have pH5 : h5[h3.size + 1]? = some (.cells #[.int .u64 O.ha, .int .i64 O.hn] 61 (0, 0)) := (o5 (h3.size + 1) (by omega)).trans (by refine gs2 @pS4 @pH4 ?_; (try with_reducible exact trivial))
          have pS5 : h5[h3.size]? = some (.cells #[.int .i64 O.sk, .int .i64 O.fk, .int .u64 O.fa] 49 (0, 0)) := (o5 (h3.size) (by omega)).trans (by refine gs2 @pS4 @pH4 ?_; (try with_reducible exact trivial))
          have p15 : h5[h.size + 1]? = _ := (o5 (h.size + 1) (ntb 1)).trans ((by (repeat (first | rw [h_pushL _ _ _ (by simp; omega)] | rw [h_pushL _ _ _ (by omega)] | rw [h_setN _ _ _ _ (by omega)])); exact p14) : _ = some (.cells #[.int .i64 0, .int .i64 0, .int .u64 0] 49 (0, 0)))
          have lH5 := getElem?_lt pH5
          have lS5 := getElem?_lt pS5
          have l15 := getElem?_lt p15
          try refine gs3 @pH5 @pS5 @p15 ?_; (try with_reducible exact trivial)
          refine hold_use (t := t.set rd O.res) T5 rfl ?_
          intro h6 T6 z6 o6
          have pS6 := (o6 (h3.size) (by omega)).trans pS5
          have p16 := (o6 (h.size + 1) (ntb 1)).trans p15
          have lS6 := getElem?_lt pS6
          have l16 := getElem?_lt p16
          refine gs3 @pS6 @p16 StopR.v.eq_1 ?_; (try with_reducible exact trivial)
          refine ⟨T6, by omega, ⟨M', G4.mono (by omega) fun b f => ?_⟩, fun b hb' n1 n2 => ?_⟩
          · have n1 := nfM' b f
            have n2 := G4.r.lt f
            have n3 : b ≠ tb := fun e => ntM' (e ▸ f)
            rw [h_setN _ _ _ _ (by omega), o6 b n3, o5 b n3]
            (repeat (first | rw [h_pushL _ _ _ (by simp; omega)] | rw [h_pushL _ _ _ (by omega)] | rw [h_setN _ _ _ _ (by omega)]))
          · rw [h_setN _ _ _ _ (by omega), o6 b n1, o5 b n1]
            (repeat (first | rw [h_pushL _ _ _ (by simp; omega)] | rw [h_pushL _ _ _ (by omega)] | rw [h_setN _ _ _ _ (by omega)]))
            rw [o4 b (by omega) n2, KY.old b (by omega), o3 b hb']))
     | (
      obtain ⟨Y, eY⟩ : ∃ Y : Heap, Y = h3.push (.cells #[.int .u64 0, .int .i64 0] 61) := ⟨_, rfl⟩
      rw [← eY]
      clear c0 c1 c2 c35 d3 d4 d5 d6 p0 p1 sec ado c13 c23 cH3 c353 H3 sR A q0 q1 q2 q3 q4 t0 t1 t2 t3 t4 TX HX rX K3 KX HT lr1 lr2 e3
      have KY : Keeps h3.size h3 Y := by rw [eY]; exact Keeps.push _ _ (Nat.le_refl _)
      have zY : Y.size = h3.size + 1 := by simp [eY]
      have TY := KY.at T3 lt3
      have p0Y := KY.at p03 l03
      have p1Y := KY.at p13 l13
      have rY := r3.ext KY
      have pHY : Y[h3.size]? = some (.cells #[.int .u64 0, .int .i64 0] 61 (0, 0)) := by rw [eY]; refine gs0 ?_; (try with_reducible exact trivial)
      refine FnK.use (atm Y rY) ?_
      intro y h4 ⟨e4, ⟨M', G4⟩, s4, o4⟩
      rw [e4]
      unfold stepT holdV stopV
      have T4 := (o4 tb (by omega) nt).trans TY
      have lt4 := getElem?_lt T4
      have nfY : ∀ j, h.size ≤ j → ¬ mfoot s M j := fun j q f => by have := r.lt f; omega
      have p04 := (o4 h.size (by omega) (nfY _ (by omega))).trans p0Y
      have p14 := (o4 (h.size + 1) (by omega) (nfY _ (by omega))).trans p1Y
      have l04 := getElem?_lt p04
      have l14 := getElem?_lt p14
      have nfM' : ∀ b, mfoot s M' b → b < h.size ∨ Y.size ≤ b := fun b f => by
        rcases G4.ft b f with z | z
        · exact .inl (r.lt z)
        · exact .inr z
      have ntM' : ¬ mfoot s M' tb := fun f => by
        rcases G4.ft tb f with z | z
        · exact nt z
        · omega
      have pH4 := (o4 (h3.size) (by omega) (nfY _ (by omega))).trans pHY
      have lH4 := getElem?_lt pH4
      refine gs6 @p04 @p14 @pH4 @d1 @d2 @Nat.mul_one ?_; (try with_reducible exact trivial)
      repeat' refine And.intro ?_ ?_
      all_goals
        first
        | (
          refine xset_use (t := t) (by (repeat (first | rw [h_pushL _ _ _ (by simp; omega)] | rw [h_pushL _ _ _ (by omega)] | rw [h_setN _ _ _ _ (by omega)])); exact T4) (by (repeat (first | rw [h_pushL _ _ _ (by simp; omega)] | rw [h_pushL _ _ _ (by omega)] | rw [h_setN _ _ _ _ (by omega)]))) lrd ?_
          intro h5 T5 z5 o5
          simp only [Array.size_push, Array.size_setIfInBounds] at z5
          have pH5 : h5[h3.size]? = some (.cells #[.int .u64 O.ha, .int .i64 O.hn] 61 (0, 0)) := (o5 (h3.size) (by omega)).trans (by refine gs1 @pH4 ?_; (try with_reducible exact trivial))
          have pS5 : h5[h4.size]? = some (.cells #[.int .i64 O.sk, .int .i64 O.fk, .int .u64 O.fa] 49 (0, 0)) := (o5 (h4.size) (by omega)).trans (by refine gs1 @pH4 ?_; (try with_reducible exact trivial))
          have p15 : h5[h.size + 1]? = _ := (o5 (h.size + 1) (ntb 1)).trans ((by (repeat (first | rw [h_pushL _ _ _ (by simp; omega)] | rw [h_pushL _ _ _ (by omega)] | rw [h_setN _ _ _ _ (by omega)])); exact p14) : _ = some (.cells #[.int .i64 0, .int .i64 0, .int .u64 0] 49 (0, 0)))
          have lH5 := getElem?_lt pH5
          have lS5 := getElem?_lt pS5
          have l15 := getElem?_lt p15
          try refine gs3 @pH5 @pS5 @p15 ?_; (try with_reducible exact trivial)
          refine hold_use (t := t.set rd O.res) T5 rfl ?_
          intro h6 T6 z6 o6
          have pS6 := (o6 (h4.size) (by omega)).trans pS5
          have p16 := (o6 (h.size + 1) (ntb 1)).trans p15
          have lS6 := getElem?_lt pS6
          have l16 := getElem?_lt p16
          refine gs3 @pS6 @p16 StopR.v.eq_1 ?_; (try with_reducible exact trivial)
          refine ⟨T6, by omega, ⟨M', G4.mono (by omega) fun b f => ?_⟩, fun b hb' n1 n2 => ?_⟩
          · have n1 := nfM' b f
            have n2 := G4.r.lt f
            have n3 : b ≠ tb := fun e => ntM' (e ▸ f)
            rw [h_setN _ _ _ _ (by omega), o6 b n3, o5 b n3]
            (repeat (first | rw [h_pushL _ _ _ (by simp; omega)] | rw [h_pushL _ _ _ (by omega)] | rw [h_setN _ _ _ _ (by omega)]))
          · rw [h_setN _ _ _ _ (by omega), o6 b n1, o5 b n1]
            (repeat (first | rw [h_pushL _ _ _ (by simp; omega)] | rw [h_pushL _ _ _ (by omega)] | rw [h_setN _ _ _ _ (by omega)]))
            rw [o4 b (by omega) n2, KY.old b (by omega), o3 b hb']))
     | (
      obtain ⟨Y, eY⟩ : ∃ Y : Heap, Y = h3.push (.cells #[.int .i64 0, .int .i64 0, .int .u64 0] 49) := ⟨_, rfl⟩
      rw [← eY]
      clear c0 c1 c2 c35 d3 d4 d5 d6 p0 p1 sec ado c13 c23 cH3 c353 H3 sR A q0 q1 q2 q3 q4 t0 t1 t2 t3 t4 TX HX rX K3 KX HT lr1 lr2 e3
      have KY : Keeps h3.size h3 Y := by rw [eY]; exact Keeps.push _ _ (Nat.le_refl _)
      have zY : Y.size = h3.size + 1 := by simp [eY]
      have TY := KY.at T3 lt3
      have p0Y := KY.at p03 l03
      have p1Y := KY.at p13 l13
      have rY := r3.ext KY
      have pSY : Y[h3.size]? = some (.cells #[.int .i64 0, .int .i64 0, .int .u64 0] 49 (0, 0)) := by rw [eY]; refine gs0 ?_; (try with_reducible exact trivial)
      refine FnK.use (atm Y rY) ?_
      intro y h4 ⟨e4, ⟨M', G4⟩, s4, o4⟩
      rw [e4]
      unfold stepT holdV stopV
      have T4 := (o4 tb (by omega) nt).trans TY
      have lt4 := getElem?_lt T4
      have nfY : ∀ j, h.size ≤ j → ¬ mfoot s M j := fun j q f => by have := r.lt f; omega
      have p04 := (o4 h.size (by omega) (nfY _ (by omega))).trans p0Y
      have p14 := (o4 (h.size + 1) (by omega) (nfY _ (by omega))).trans p1Y
      have l04 := getElem?_lt p04
      have l14 := getElem?_lt p14
      have nfM' : ∀ b, mfoot s M' b → b < h.size ∨ Y.size ≤ b := fun b f => by
        rcases G4.ft b f with z | z
        · exact .inl (r.lt z)
        · exact .inr z
      have ntM' : ¬ mfoot s M' tb := fun f => by
        rcases G4.ft tb f with z | z
        · exact nt z
        · omega
      have pS4 := (o4 (h3.size) (by omega) (nfY _ (by omega))).trans pSY
      have lS4 := getElem?_lt pS4
      refine gs6 @p04 @p14 @pS4 @d1 @d2 @Nat.mul_one ?_; (try with_reducible exact trivial)
      repeat' refine And.intro ?_ ?_
      all_goals
        first
        | (
          refine xset_use (t := t) (by (repeat (first | rw [h_pushL _ _ _ (by simp; omega)] | rw [h_pushL _ _ _ (by omega)] | rw [h_setN _ _ _ _ (by omega)])); exact T4) (by (repeat (first | rw [h_pushL _ _ _ (by simp; omega)] | rw [h_pushL _ _ _ (by omega)] | rw [h_setN _ _ _ _ (by omega)]))) lrd ?_
          intro h5 T5 z5 o5
          simp only [Array.size_push, Array.size_setIfInBounds] at z5
          have pH5 : h5[h4.size]? = some (.cells #[.int .u64 O.ha, .int .i64 O.hn] 61 (0, 0)) := (o5 (h4.size) (by omega)).trans (by refine gs1 @pS4 ?_; (try with_reducible exact trivial))
          have pS5 : h5[h3.size]? = some (.cells #[.int .i64 O.sk, .int .i64 O.fk, .int .u64 O.fa] 49 (0, 0)) := (o5 (h3.size) (by omega)).trans (by refine gs1 @pS4 ?_; (try with_reducible exact trivial))
          have p15 : h5[h.size + 1]? = _ := (o5 (h.size + 1) (ntb 1)).trans ((by (repeat (first | rw [h_pushL _ _ _ (by simp; omega)] | rw [h_pushL _ _ _ (by omega)] | rw [h_setN _ _ _ _ (by omega)])); exact p14) : _ = some (.cells #[.int .i64 0, .int .i64 0, .int .u64 0] 49 (0, 0)))
          have lH5 := getElem?_lt pH5
          have lS5 := getElem?_lt pS5
          have l15 := getElem?_lt p15
          try refine gs3 @pH5 @pS5 @p15 ?_; (try with_reducible exact trivial)
          refine hold_use (t := t.set rd O.res) T5 rfl ?_
          intro h6 T6 z6 o6
          have pS6 := (o6 (h3.size) (by omega)).trans pS5
          have p16 := (o6 (h.size + 1) (ntb 1)).trans p15
          have lS6 := getElem?_lt pS6
          have l16 := getElem?_lt p16
          refine gs3 @pS6 @p16 StopR.v.eq_1 ?_; (try with_reducible exact trivial)
          refine ⟨T6, by omega, ⟨M', G4.mono (by omega) fun b f => ?_⟩, fun b hb' n1 n2 => ?_⟩
          · have n1 := nfM' b f
            have n2 := G4.r.lt f
            have n3 : b ≠ tb := fun e => ntM' (e ▸ f)
            rw [h_setN _ _ _ _ (by omega), o6 b n3, o5 b n3]
            (repeat (first | rw [h_pushL _ _ _ (by simp; omega)] | rw [h_pushL _ _ _ (by omega)] | rw [h_setN _ _ _ _ (by omega)]))
          · rw [h_setN _ _ _ _ (by omega), o6 b n1, o5 b n1]
            (repeat (first | rw [h_pushL _ _ _ (by simp; omega)] | rw [h_pushL _ _ _ (by omega)] | rw [h_setN _ _ _ _ (by omega)]))
            rw [o4 b (by omega) n2, KY.old b (by omega), o3 b hb']))
     | (
      obtain ⟨Y, eY⟩ : ∃ Y : Heap, Y = h3 := ⟨_, rfl⟩
      rw [← eY]
      clear c0 c1 c2 c35 d3 d4 d5 d6 p0 p1 sec ado c13 c23 cH3 c353 H3 sR A q0 q1 q2 q3 q4 t0 t1 t2 t3 t4 TX HX rX K3 KX HT lr1 lr2 e3
      have KY : Keeps h3.size h3 Y := by rw [eY]; exact Keeps.refl'
      have zY : Y.size = h3.size + 0 := by simp [eY]
      have TY := KY.at T3 lt3
      have p0Y := KY.at p03 l03
      have p1Y := KY.at p13 l13
      have rY := r3.ext KY
      refine FnK.use (atm Y rY) ?_
      intro y h4 ⟨e4, ⟨M', G4⟩, s4, o4⟩
      rw [e4]
      unfold stepT holdV stopV
      have T4 := (o4 tb (by omega) nt).trans TY
      have lt4 := getElem?_lt T4
      have nfY : ∀ j, h.size ≤ j → ¬ mfoot s M j := fun j q f => by have := r.lt f; omega
      have p04 := (o4 h.size (by omega) (nfY _ (by omega))).trans p0Y
      have p14 := (o4 (h.size + 1) (by omega) (nfY _ (by omega))).trans p1Y
      have l04 := getElem?_lt p04
      have l14 := getElem?_lt p14
      have nfM' : ∀ b, mfoot s M' b → b < h.size ∨ Y.size ≤ b := fun b f => by
        rcases G4.ft b f with z | z
        · exact .inl (r.lt z)
        · exact .inr z
      have ntM' : ¬ mfoot s M' tb := fun f => by
        rcases G4.ft tb f with z | z
        · exact nt z
        · omega
      refine gs5 @p04 @p14 @d1 @d2 @Nat.mul_one ?_; (try with_reducible exact trivial)
      repeat' refine And.intro ?_ ?_
      all_goals
        first
        | (
          refine xset_use (t := t) (by (repeat (first | rw [h_pushL _ _ _ (by simp; omega)] | rw [h_pushL _ _ _ (by omega)] | rw [h_setN _ _ _ _ (by omega)])); exact T4) (by (repeat (first | rw [h_pushL _ _ _ (by simp; omega)] | rw [h_pushL _ _ _ (by omega)] | rw [h_setN _ _ _ _ (by omega)]))) lrd ?_
          intro h5 T5 z5 o5
          simp only [Array.size_push, Array.size_setIfInBounds] at z5
          have pH5 : h5[h4.size]? = some (.cells #[.int .u64 O.ha, .int .i64 O.hn] 61 (0, 0)) := (o5 (h4.size) (by omega)).trans (by refine gs0 ?_; (try with_reducible exact trivial))
          have pS5 : h5[h4.size + 1]? = some (.cells #[.int .i64 O.sk, .int .i64 O.fk, .int .u64 O.fa] 49 (0, 0)) := (o5 (h4.size + 1) (by omega)).trans (by refine gs0 ?_; (try with_reducible exact trivial))
          have p15 : h5[h.size + 1]? = _ := (o5 (h.size + 1) (ntb 1)).trans ((by (repeat (first | rw [h_pushL _ _ _ (by simp; omega)] | rw [h_pushL _ _ _ (by omega)] | rw [h_setN _ _ _ _ (by omega)])); exact p14) : _ = some (.cells #[.int .i64 0, .int .i64 0, .int .u64 0] 49 (0, 0)))
          have lH5 := getElem?_lt pH5
          have lS5 := getElem?_lt pS5
          have l15 := getElem?_lt p15
          try refine gs3 @pH5 @pS5 @p15 ?_; (try with_reducible exact trivial)
          refine hold_use (t := t.set rd O.res) T5 rfl ?_
          intro h6 T6 z6 o6
          have pS6 := (o6 (h4.size + 1) (by omega)).trans pS5
          have p16 := (o6 (h.size + 1) (ntb 1)).trans p15
          have lS6 := getElem?_lt pS6
          have l16 := getElem?_lt p16
          refine gs3 @pS6 @p16 StopR.v.eq_1 ?_; (try with_reducible exact trivial)
          refine ⟨T6, by omega, ⟨M', G4.mono (by omega) fun b f => ?_⟩, fun b hb' n1 n2 => ?_⟩
          · have n1 := nfM' b f
            have n2 := G4.r.lt f
            have n3 : b ≠ tb := fun e => ntM' (e ▸ f)
            rw [h_setN _ _ _ _ (by omega), o6 b n3, o5 b n3]
            (repeat (first | rw [h_pushL _ _ _ (by simp; omega)] | rw [h_pushL _ _ _ (by omega)] | rw [h_setN _ _ _ _ (by omega)]))
          · rw [h_setN _ _ _ _ (by omega), o6 b n1, o5 b n1]
            (repeat (first | rw [h_pushL _ _ _ (by simp; omega)] | rw [h_pushL _ _ _ (by omega)] | rw [h_setN _ _ _ _ (by omega)]))
            rw [o4 b (by omega) n2, KY.old b (by omega), o3 b hb'])
        | (
          refine xset_use (t := t) (by (repeat (first | rw [h_pushL _ _ _ (by simp; omega)] | rw [h_pushL _ _ _ (by omega)] | rw [h_setN _ _ _ _ (by omega)])); exact T4) (by (repeat (first | rw [h_pushL _ _ _ (by simp; omega)] | rw [h_pushL _ _ _ (by omega)] | rw [h_setN _ _ _ _ (by omega)]))) lrd ?_
          intro h5 T5 z5 o5
          simp only [Array.size_push, Array.size_setIfInBounds] at z5
          have pH5 : h5[h4.size + 1]? = some (.cells #[.int .u64 O.ha, .int .i64 O.hn] 61 (0, 0)) := (o5 (h4.size + 1) (by omega)).trans (by refine gs0 ?_; (try with_reducible exact trivial))
          have pS5 : h5[h4.size]? = some (.cells #[.int .i64 O.sk, .int .i64 O.fk, .int .u64 O.fa] 49 (0, 0)) := (o5 (h4.size) (by omega)).trans (by refine gs0 ?_; (try with_reducible exact trivial))
          have p15 : h5[h.size + 1]? = _ := (o5 (h.size + 1) (ntb 1)).trans ((by (repeat (first | rw [h_pushL _ _ _ (by simp; omega)] | rw [h_pushL _ _ _ (by omega)] | rw [h_setN _ _ _ _ (by omega)])); exact p14) : _ = some (.cells #[.int .i64 0, .int .i64 0, .int .u64 0] 49 (0, 0)))
          have lH5 := getElem?_lt pH5
          have lS5 := getElem?_lt pS5
          have l15 := getElem?_lt p15
          try refine gs3 @pH5 @pS5 @p15 ?_; (try with_reducible exact trivial)
          refine hold_use (t := t.set rd O.res) T5 rfl ?_
          intro h6 T6 z6 o6
          have pS6 := (o6 (h4.size) (by omega)).trans pS5
          have p16 := (o6 (h.size + 1) (ntb 1)).trans p15
          have lS6 := getElem?_lt pS6
          have l16 := getElem?_lt p16
          refine gs3 @pS6 @p16 StopR.v.eq_1 ?_; (try with_reducible exact trivial)
          refine ⟨T6, by omega, ⟨M', G4.mono (by omega) fun b f => ?_⟩, fun b hb' n1 n2 => ?_⟩
          · have n1 := nfM' b f
            have n2 := G4.r.lt f
            have n3 : b ≠ tb := fun e => ntM' (e ▸ f)
            rw [h_setN _ _ _ _ (by omega), o6 b n3, o5 b n3]
            (repeat (first | rw [h_pushL _ _ _ (by simp; omega)] | rw [h_pushL _ _ _ (by omega)] | rw [h_setN _ _ _ _ (by omega)]))
          · rw [h_setN _ _ _ _ (by omega), o6 b n1, o5 b n1]
            (repeat (first | rw [h_pushL _ _ _ (by simp; omega)] | rw [h_pushL _ _ _ (by omega)] | rw [h_setN _ _ _ _ (by omega)]))
            rw [o4 b (by omega) n2, KY.old b (by omega), o3 b hb']))
end Go.SX.G
