/- Many steps. No condition. Many steps: parts and the whole. No program's code here. HartRuns, the walk. No condition. -/
import Derived.Test.YtajfhnphhdoobaaGreatMA
set_option linter.unusedVariables false
set_option linter.unusedSimpArgs false
namespace Go.SX
structure RunO where
  st : StopR
  used : Nat
  t : HS
  B : Nat → Nat
def RunO.add (r : RunO) (i : Nat) : RunO := ⟨r.st, r.used + i, r.t, r.B⟩
end Go.SX
namespace Go.SX.G
open Go Go.SX Go.Proofs
set_option maxRecDepth 100000
set_option maxHeartbeats 8000000
/-- so many steps, till one stops. -/
noncomputable def runF (rs : List Reg) : Nat → (Nat → Nat) → HS → RunO
  | 0, B, t => ⟨⟨6, 0, 0⟩, 0, t, B⟩
  | k + 1, B, t =>
    if (stepF rs B t).st.kind = 0 then
      ⟨(runF rs k (stepF rs B t).B (stepF rs B t).t).st, (runF rs k (stepF rs B t).B (stepF rs B t).t).used + 1, (runF rs k (stepF rs B t).B (stepF rs B t).t).t, (runF rs k (stepF rs B t).B (stepF rs B t).t).B⟩
    else ⟨(stepF rs B t).st, 0, (stepF rs B t).t, (stepF rs B t).B⟩
theorem Mk.le {h0 h : Heap} {hb s c m n n' : Nat} {M : MemD} {t : HS} (w : Mk h0 h hb s c m M t n) (q : n ≤ n') : Mk h0 h hb s c m M t n' :=
  ⟨w.H, w.tok, w.r, w.k, w.nc, w.nm, w.nh, w.hc, w.hm, w.ft, w.lo, w.K, w.iv, by have := w.ck; omega⟩
theorem run_g {h0 h : Heap} {hb s c m n : Nat} {M : MemD} {t : HS} (w : Mk h0 h hb s c m M t n) (k : Nat) (hk : n + k < 1000000) :
    Fn Tryz.prog 38 [ptr hb 0, .int .i64 k] h fun x h' => x = .tuple #[(runF M.rs k (memAt M) t).st.v, .int .i64 (runF M.rs k (memAt M) t).used] ∧ h.size ≤ h'.size ∧ (∃ M', M'.rs = M.rs ∧ (∀ y, memAt M' y = (runF M.rs k (memAt M) t).B y) ∧ (∀ b, mfoot s M' b → mfoot s M b ∨ h.size ≤ b) ∧ Mk h0 h' hb s c m M' (runF M.rs k (memAt M) t).t (n + k)) ∧ ∀ b, h0.size ≤ b → b < h.size → b ≠ hb → b ≠ c → b ≠ m → ¬ mfoot s M b → h'[b]? = h[b]? := by
  refine Fn_c Tryz.func38 mixed c38 (by kernel_rfl) ?_; rw [r38]
  refine gs0 ?_; (try with_reducible exact trivial)
  obtain ⟨X, eX⟩ : ∃ X : Heap, X = h.push (.cells #[.int .i64 0, .int .i64 0, .int .u64 0] 49) := ⟨_, rfl⟩
  have KX : Keeps h.size h X := by rw [eX]; exact Keeps.push _ _ (Nat.le_refl _)
  have zX : X.size = h.size + 1 := by rw [eX]; simp
  have pX : X[h.size]? = some (.cells #[.int .i64 0, .int .i64 0, .int .u64 0] 49 (0, 0)) := by rw [eX]; exact h_pushE _ _ _ rfl
  rw [← eX]
  have lh := getElem?_lt w.H
  obtain ⟨lc, lm⟩ := w.k.lt
  have kz := w.K.size
  obtain ⟨I, hI⟩ : ∃ I : Nat → Fr → Heap → Prop, I = fun k1 fr hh => ∃ (i : Nat) (M1 : MemD) (t1 : HS), i + k1 = k ∧ Mk h0 hh hb s c m M1 t1 (n + i) ∧ M1.rs = M.rs ∧ runF M.rs k (memAt M) t = (runF M.rs k1 (memAt M1) t1).add i ∧ hh[h.size]? = some (.cells #[.int .i64 0, .int .i64 0, .int .u64 0] 49 (0, 0)) ∧ h.size < hh.size ∧ (∀ b, mfoot s M1 b → mfoot s M b ∨ X.size ≤ b) ∧ (∀ b, h0.size ≤ b → b < h.size → b ≠ hb → b ≠ c → b ≠ m → ¬ mfoot s M b → hh[b]? = h[b]?) ∧
      fr = ((((fr0.up 5 (.int .i64 i)).up 4 (ptr h.size 0)).up 1 (.int .i64 k)).up 0 (ptr hb 0)) := ⟨_, rfl⟩
  refine LoopK.use I k (by rw [hI]; exact ⟨0, M, t, by omega, w.ext KX, rfl, rfl, pX, by omega, fun b f => .inl f, fun b _ q _ _ _ _ => KX.old b q, rfl⟩) ?_
  intro k1 fr hh hK
  rw [hI] at hK
  obtain ⟨i, M1, t1, hk1, W, hrs, E, pS, lS, ft, oo, hf⟩ := hK
  subst hf
  by_cases hi : i < k
  · have d1 : decide ((i : Int) < k) = true := decide_eq_true (by omega)
    obtain ⟨k2, rfl⟩ : ∃ k2, k1 = k2 + 1 := ⟨k1 - 1, by omega⟩
    refine gs1 @d1 ?_; (try with_reducible exact trivial)
    refine FnK.use (W.step (by omega)) ?_
    intro x h3 ⟨e3, s3, ⟨M2, rs2, by2, ft2, W2⟩, o3⟩
    rw [hrs] at e3 by2 W2
    rw [e3]
    have nS : ¬ mfoot s M1 h.size := fun f => by
      rcases ft _ f with z | z
      · have := w.r.lt z; omega
      · omega
    have pS3 := (o3 h.size lS (by omega) (by omega) (by omega) nS).trans pS
    have lS3 := getElem?_lt pS3
    have eB : memAt M2 = (stepF M.rs (memAt M1) t1).B := funext by2
    have ft3 : ∀ b, mfoot s M2 b → mfoot s M b ∨ X.size ≤ b := fun b f => by
      rcases ft2 b f with z | z
      · exact ft b z
      · exact .inr (by omega)
    have oo3 : ∀ b, h0.size ≤ b → b < h.size → b ≠ hb → b ≠ c → b ≠ m → ¬ mfoot s M b → h3[b]? = h[b]? := fun b q0 q1 q2 q3 q4 q5 => by
      rw [o3 b (by omega) q2 q3 q4 (fun f => by rcases ft b f with z | z; exact q5 z; omega), oo b q0 q1 q2 q3 q4 q5]
    by_cases qs : (stepF M.rs (memAt M1) t1).st.kind = 0
    · have tk : ((stepF M.rs (memAt M1) t1).st.kind = 0) = True := eq_true qs
      have E2 : runF M.rs k (memAt M) t = (runF M.rs k2 (memAt M2) (stepF M.rs (memAt M1) t1).t).add (i + 1) := by
        rw [E, eB]
        simp only [runF, if_pos qs, RunO.add]
        rw [Nat.add_assoc, Nat.add_comm 1 i]
      refine gs2 StopR.v.eq_1 @tk ?_; (try with_reducible exact trivial)
      refine ⟨k2, by omega, ?_⟩
      rw [hI]
      exact ⟨i + 1, M2, _, by omega, W2.ext (Keeps.push _ _ (Nat.le_refl _)), rs2.trans hrs, E2, by rw [h_pushL _ _ _ lS3]; exact pS3, by simp; omega, ft3, fun b q0 q1 q2 q3 q4 q5 => by rw [h_pushL _ _ _ (by omega)]; exact oo3 b q0 q1 q2 q3 q4 q5, rfl⟩
    · have tk : ((stepF M.rs (memAt M1) t1).st.kind = 0) = False := eq_false qs
      have E2 : runF M.rs k (memAt M) t = ⟨(stepF M.rs (memAt M1) t1).st, 0 + i, (stepF M.rs (memAt M1) t1).t, (stepF M.rs (memAt M1) t1).B⟩ := by
        rw [E]
        simp only [runF, if_neg qs, RunO.add]
      refine gs3 StopR.v.eq_1 @tk @pS3 ?_; (try with_reducible exact trivial)
      rw [E2]
      have nH : ∀ b, b = hb ∨ b = c ∨ b = m ∨ mfoot s M2 b → b ≠ h.size := fun b q e => by
        rcases q with q | q | q | q
        · omega
        · omega
        · omega
        · rcases ft3 b q with z | z
          · have := w.r.lt z; omega
          · omega
      have lH : ∀ b, b = hb ∨ b = c ∨ b = m ∨ mfoot s M2 b → b < h3.size := fun b q => by
        rcases q with q | q | q | q
        · omega
        · omega
        · omega
        · exact W2.r.lt q
      refine ⟨by rw [Nat.zero_add], by omega, ⟨M2, rs2.trans hrs, by2, fun b f => (ft3 b f).imp_right fun q => by omega, (W2.mono (fun b q => by rw [h_pushL _ _ _ (by simp; exact lH b q), h_setN _ _ _ _ (nH b q)]) ⟨by simp; have := W2.K.size; omega, fun b hb' => by rw [h_pushL _ _ _ (by simp; have := W2.K.size; omega), h_setN _ _ _ _ (by omega), W2.K.old b hb']⟩).le (by omega)⟩, fun b q0 q1 q2 q3 q4 q5 => ?_⟩
      rw [h_pushL _ _ _ (by simp; omega), h_setN _ _ _ _ (by omega)]
      exact oo3 b q0 q1 q2 q3 q4 q5
  · have d1 : decide ((i : Int) < k) = false := decide_eq_false (by omega)
    have ek : k1 = 0 := by omega
    subst ek
    have E2 : runF M.rs k (memAt M) t = ⟨⟨6, 0, 0⟩, 0 + i, t1, memAt M1⟩ := by
      rw [E]
      simp only [runF, RunO.add]
    refine gs2 @d1 @pS ?_; (try with_reducible exact trivial)
    rw [E2]
    have nH : ∀ b, b = hb ∨ b = c ∨ b = m ∨ mfoot s M1 b → b ≠ h.size := fun b q e => by
      rcases q with q | q | q | q
      · omega
      · omega
      · omega
      · rcases ft b q with z | z
        · have := w.r.lt z; omega
        · omega
    refine ⟨by rw [Nat.zero_add]; rfl, by omega, ⟨M1, hrs, fun _ => rfl, fun b f => (ft b f).imp_right fun q => by omega, (W.mono (fun b q => by rw [h_setN _ _ _ _ (nH b q)]) ⟨by simp; exact W.K.size, fun b hb' => by rw [h_setN _ _ _ _ (by omega), W.K.old b hb']⟩).le (by omega)⟩, fun b q0 q1 q2 q3 q4 q5 => ?_⟩
    rw [h_setN _ _ _ _ (by omega)]
    exact oo b q0 q1 q2 q3 q4 q5
end Go.SX.G
namespace Go.SX.G
open Go Go.SX Go.Proofs
set_option maxRecDepth 100000
set_option maxHeartbeats 1000000
theorem stepR_k {n : Nat} {op : Int} {o1 o2 : Option Nat} {ha hn a x sx nx : Nat} : (stepR n op o1 o2 ha hn a x sx nx).sk ≠ 6 := by
  unfold stepR
  split
  · show (3 : Nat) ≠ 6; omega
  · split
    · show (5 : Nat) ≠ 6; omega
    · split
      · unfold stepC
        cases o1 with
        | some b => show (4 : Nat) ≠ 6; omega
        | none =>
          simp only []
          split
          · show (0 : Nat) ≠ 6; omega
          · show (0 : Nat) ≠ 6; omega
      · cases o2 with
        | some b => show (4 : Nat) ≠ 6; omega
        | none =>
          simp only []
          split
          · show (0 : Nat) ≠ 6; omega
          · cases o1 with
            | some b => show (4 : Nat) ≠ 6; omega
            | none => show (0 : Nat) ≠ 6; omega
theorem moveF_k {rs : List Reg} {B : Nat → Nat} {t : HS} {i : InstR} {n : Nat} {sg : Bool} : (moveF rs B t i n sg).st.kind ≠ 6 := by
  unfold moveF
  simp only []
  split
  · cases firstF rs (w64 (t.get i.rs1 + w64 i.imm)).toNat n 2 with
    | some b => show (4 : Int) ≠ 6; omega
    | none => show (0 : Int) ≠ 6; omega
  · cases firstF rs (w64 (t.get i.rs1 + w64 i.imm)).toNat n 1 with
    | some b => show (4 : Int) ≠ 6; omega
    | none => show (0 : Int) ≠ 6; omega
theorem otherF_k {rs : List Reg} {B : Nat → Nat} {t : HS} {i : InstR} : (otherF rs B t i).st.kind ≠ 6 := by
  unfold otherF
  split
  · show (1 : Int) ≠ 6; omega
  · split
    · show (2 : Int) ≠ 6; omega
    · split
      · show (0 : Int) ≠ 6; omega
      · split
        · show (0 : Int) ≠ 6; omega
        · split
          · show (0 : Int) ≠ 6; omega
          · cases aluE i.op (t.get i.rs1) (secondF t i) with
            | some x => show (0 : Int) ≠ 6; omega
            | none =>
              show ((atomF rs B t i).sk : Int) ≠ 6
              have : (atomF rs B t i).sk ≠ 6 := stepR_k
              omega
theorem readF_k {rs : List Reg} {B : Nat → Nat} {a : Nat} : (readF rs B a).2.kind ≠ 6 := by
  unfold readF
  split
  · show (4 : Int) ≠ 6; omega
  · split
    · show (3 : Int) ≠ 6; omega
    · show (0 : Int) ≠ 6; omega
theorem stepF_k {rs : List Reg} {B : Nat → Nat} {t : HS} : (stepF rs B t).st.kind ≠ 6 := by
  unfold stepF
  simp only []
  split
  · split
    · show (0 : Int) ≠ 6; omega
    · unfold doF
      simp only []
      split
      · show (0 : Int) ≠ 6; omega
      · split
        · split
          · show (0 : Int) ≠ 6; omega
          · exact moveF_k
        · split
          · show (0 : Int) ≠ 6; omega
          · exact otherF_k
  · exact readF_k
/-- with less fuel it stops earlier, and goes on from there. -/
theorem runF_add (rs : List Reg) : ∀ (a b : Nat) (B : Nat → Nat) (t : HS), runF rs (a + b) B t = if (runF rs a B t).st.kind = 6 then (runF rs b (runF rs a B t).B (runF rs a B t).t).add (runF rs a B t).used else runF rs a B t
  | 0, b, B, t => by
    rw [Nat.zero_add]
    have e : (runF rs 0 B t).st.kind = 6 := rfl
    rw [if_pos e]
    show runF rs b B t = (runF rs b B t).add 0
    rfl
  | a + 1, b, B, t => by
    rw [show a + 1 + b = (a + b) + 1 by omega]
    by_cases q : (stepF rs B t).st.kind = 0
    · simp only [runF, if_pos q]
      rw [runF_add rs a b]
      by_cases q6 : (runF rs a (stepF rs B t).B (stepF rs B t).t).st.kind = 6
      · simp only [if_pos q6, RunO.add]
        rw [Nat.add_assoc]
      · simp only [if_neg q6]
    · simp only [runF, if_neg q, if_neg stepF_k]
end Go.SX.G
namespace Go.SX.G
open Go Go.SX Go.Proofs
set_option maxRecDepth 100000
set_option maxHeartbeats 8000000
theorem runF_used (rs : List Reg) : ∀ (k : Nat) (B : Nat → Nat) (t : HS), (runF rs k B t).used ≤ k
  | 0, B, t => Nat.le_refl 0
  | k + 1, B, t => by
    by_cases q : (stepF rs B t).st.kind = 0
    · simp only [runF, if_pos q]
      have := runF_used rs k (stepF rs B t).B (stepF rs B t).t
      omega
    · simp only [runF, if_neg q]; omega
theorem hartruns_c {h : Heap} {cv rv : Value} {cs ws : List Nat} (hcv : Vs h cv encB 1 cs) (hb : ∀ x ∈ cs, x < 256) (hrv : Vs h rv encW 1 ws) (hw : ∀ x ∈ ws, x < 18446744073709551616) (f : Nat) (hf : f < 256) (g : Nat) (hg : g < 256) :
    Fn Tryz.prog 8 [cv, rv, .int .u8 f, .int .u8 g] h fun x h' => x = .bool true ∧ ∀ b, b < h.size → h'[b]? = h[b]? := by
  obtain ⟨cva, cvc, ec, _⟩ := hcv.shape
  obtain ⟨rva, rvc, er, _⟩ := hrv.shape
  subst ec er
  by_cases lc : cs.length ≤ 8000
  · have dc : decide ((8000 : Int) < cs.length) = false := decide_eq_false (by omega)
    have w1 : IntKind.i64.wrap (f : Int) = (f : Int) := by rw [wrap_i64]; omega
    have w2 : IntKind.i64.wrap (g : Int) = (g : Int) := by rw [wrap_i64]; omega
    have w3 : IntKind.i64.wrap ((f : Int) + (g : Int)) = ((f + g : Nat) : Int) := by rw [wrap_i64]; omega
    refine Fn_c Tryz.func8 mixed c8 (by kernel_rfl) ?_; rw [r8]
    refine gs1 @dc ?_; (try with_reducible exact trivial)
    refine FnK.use (machines_g hcv hb lc hrv hw true) ?_
    intro x h1 ⟨pa, ka, sa, ca, ma, MA, e1, WA, rsA, _, ⟨ivA, ckA⟩, allA⟩
    rw [e1]
    refine gs0 ?_; (try with_reducible exact trivial)
    have A1 := WA.mk0 (Keeps.refl' (h := h)) hw ivA ckA
    have z1 := WA.K.size
    have hcv1 := hcv.mono fun b e => WA.K.old b (hcv.blk_lt e)
    have hrv1 := hrv.mono fun b e => WA.K.old b (hrv.blk_lt e)
    refine FnK.use (machines_g hcv1 hb lc hrv1 hw false) ?_
    intro x h2 ⟨pb, kb, sb, cb, mb, MB, e2, WB, rsB, _, ⟨ivB, ckB⟩, allB⟩
    rw [e2]
    refine gs0 ?_; (try with_reducible exact trivial)
    have B2 := WB.mk0 A1.K hw ivB ckB
    have A2 := A1.ext WB.K
    have z2 := WB.K.size
    have hcv2 := hcv1.mono fun b e => WB.K.old b (hcv1.blk_lt e)
    have hrv2 := hrv1.mono fun b e => WB.K.old b (hrv1.blk_lt e)
    refine FnK.use (machines_g hcv2 hb lc hrv2 hw true) ?_
    intro x h3 ⟨pc, kc, sc, cc, mc, MC, e3, WC, rsC, _, ⟨ivC, ckC⟩, allC⟩
    rw [e3]
    refine gs3 @w1 @w2 @w3 ?_; (try with_reducible exact trivial)
    have C3 := WC.mk0 B2.K hw ivC ckC
    have A3 := A2.ext WC.K
    have B3 := B2.ext WC.K
    have z3 := WC.K.size
    have eA : memAt MA = codeF cs := funext allA
    have eB : memAt MB = codeF cs := funext allB
    have eC : memAt MC = codeF cs := funext allC
    have rgA : ∀ b, b = pa ∨ b = ca ∨ b = ma ∨ mfoot sa MA b → h.size ≤ b ∧ b < h1.size := fun b q => by
      obtain ⟨l1, l2, l3⟩ := WA.lo
      obtain ⟨m1, m2⟩ := WA.k.lt
      have m3 := getElem?_lt WA.H
      rcases q with q | q | q | q
      · omega
      · omega
      · omega
      · exact ⟨WA.ft b q, WA.r.lt q⟩
    have rgB : ∀ b, b = pb ∨ b = cb ∨ b = mb ∨ mfoot sb MB b → h1.size ≤ b ∧ b < h2.size := fun b q => by
      obtain ⟨l1, l2, l3⟩ := WB.lo
      obtain ⟨m1, m2⟩ := WB.k.lt
      have m3 := getElem?_lt WB.H
      rcases q with q | q | q | q
      · omega
      · omega
      · omega
      · exact ⟨WB.ft b q, WB.r.lt q⟩
    have rgC : ∀ b, b = pc ∨ b = cc ∨ b = mc ∨ mfoot sc MC b → h2.size ≤ b ∧ b < h3.size := fun b q => by
      obtain ⟨l1, l2, l3⟩ := WC.lo
      obtain ⟨m1, m2⟩ := WC.k.lt
      have m3 := getElem?_lt WC.H
      rcases q with q | q | q | q
      · omega
      · omega
      · omega
      · exact ⟨WC.ft b q, WC.r.lt q⟩
    have pa' := rgA pa (.inl rfl)
    have ca' := rgA ca (.inr (.inl rfl))
    have ma' := rgA ma (.inr (.inr (.inl rfl)))
    have pb' := rgB pb (.inl rfl)
    have cb' := rgB cb (.inr (.inl rfl))
    have mb' := rgB mb (.inr (.inr (.inl rfl)))
    have pc' := rgC pc (.inl rfl)
    have cc' := rgC cc (.inr (.inl rfl))
    have mc' := rgC mc (.inr (.inr (.inl rfl)))
    clear WA WB WC A1 A2 B2
    refine FnK.use (run_g A3 (f + g) (by omega)) ?_
    intro x h4 ⟨e4, s4, ⟨MA', _, _, _, A4⟩, o4⟩
    rw [rsA, eA] at e4 A4
    obtain ⟨RA, hRA⟩ : ∃ RA, RA = runF RS3 (f + g) (codeF cs) (hs0 ws) := ⟨_, rfl⟩
    rw [← hRA] at e4 A4
    have uA : RA.used ≤ f + g := by rw [hRA]; exact runF_used _ _ _ _
    rw [e4]
    refine gs1 StopR.v.eq_1 ?_; (try with_reducible exact trivial)
    obtain ⟨X4, eX4⟩ : ∃ X : Heap, X = h4.push (.cells #[.int .i64 RA.st.kind, .int .i64 RA.st.fk, .int .u64 RA.st.fa] 49) := ⟨_, rfl⟩
    have KX4 : Keeps h4.size h4 X4 := by rw [eX4]; exact Keeps.push _ _ (Nat.le_refl _)
    have zX4 : X4.size = h4.size + 1 := by rw [eX4]; simp
    have p16 : X4[h4.size]? = some (.cells #[.int .i64 RA.st.kind, .int .i64 RA.st.fk, .int .u64 RA.st.fa] 49 (0, 0)) := by rw [eX4]; exact h_pushE _ _ _ rfl
    rw [← eX4]
    have B4 := (B3.mono (fun b q => by have := rgB b q; exact o4 b (by omega) (by omega) (by omega) (by omega) (by omega) (fun z => by have := rgA b (.inr (.inr (.inr z))); omega)) A4.K).ext KX4
    have C4 := (C3.mono (fun b q => by have := rgC b q; exact o4 b (by omega) (by omega) (by omega) (by omega) (by omega) (fun z => by have := rgA b (.inr (.inr (.inr z))); omega)) A4.K).ext KX4
    have pA4 := KX4.at A4.H (by omega)
    clear A3 B3 C3 o4 A4
    refine FnK.use (run_g B4 f (by omega)) ?_
    intro x h5 ⟨e5, s5, ⟨MB', rsB', byB', ftB', B5⟩, o5⟩
    rw [rsB, eB] at e5 B5 byB'
    obtain ⟨RB, hRB⟩ : ∃ RB, RB = runF RS3 f (codeF cs) (hs0 ws) := ⟨_, rfl⟩
    rw [← hRB] at e5 B5 byB'
    have uB : RB.used ≤ f := by rw [hRB]; exact runF_used _ _ _ _
    rw [e5]
    have C5 := C4.mono (fun b q => by have := rgC b q; exact o5 b (by omega) (by omega) (by omega) (by omega) (by omega) (fun z => by have := rgB b (.inr (.inr (.inr z))); omega)) B5.K
    have pA5 := (o5 pa (by omega) (by omega) (by omega) (by omega) (by omega) (fun z => by have := rgB pa (.inr (.inr (.inr z))); omega)).trans pA4
    have p165 := (o5 h4.size (by omega) (by omega) (by omega) (by omega) (by omega) (fun z => by have := rgB h4.size (.inr (.inr (.inr z))); omega)).trans p16
    clear C4 pA4 p16 o5
    obtain ⟨X5, eX5⟩ : ∃ X : Heap, X = h5.push (.cells #[.int .i64 RB.st.kind, .int .i64 RB.st.fk, .int .u64 RB.st.fa] 49) := ⟨_, rfl⟩
    have KX5 : Keeps h5.size h5 X5 := by rw [eX5]; exact Keeps.push _ _ (Nat.le_refl _)
    have zX5 : X5.size = h5.size + 1 := by rw [eX5]; simp
    have p18 : X5[h5.size]? = some (.cells #[.int .i64 RB.st.kind, .int .i64 RB.st.fk, .int .u64 RB.st.fa] 49 (0, 0)) := by rw [eX5]; exact h_pushE _ _ _ rfl
    have hadd : RA = if RB.st.kind = 6 then (runF RS3 g RB.B RB.t).add RB.used else RB := by rw [hRA, runF_add, ← hRB]
    by_cases q6 : RB.st.kind = 6
    have tk : (RB.st.kind = 6) = True := eq_true q6
    rw [if_pos q6] at hadd
    refine gs3 StopR.v.eq_1 @tk @w2 ?_; (try with_reducible exact trivial)
    rw [← eX5]
    have B5X := B5.ext KX5
    have eB' : memAt MB' = RB.B := funext byB'
    refine FnK.use (run_g B5X g (by omega)) ?_
    intro x h6 ⟨e6, s6, ⟨MB2, _, _, _, B6⟩, o6⟩
    rw [rsB', rsB, eB'] at e6 B6
    obtain ⟨RC, hRC⟩ : ∃ RC, RC = runF RS3 g RB.B RB.t := ⟨_, rfl⟩
    rw [← hRC] at e6 B6 hadd
    have uC : RC.used ≤ g := by rw [hRC]; exact runF_used _ _ _ _
    rw [e6]
    have nB : ∀ b, b = pa ∨ (h2.size ≤ b ∧ b < h3.size) ∨ b = h4.size ∨ b = h5.size → h.size ≤ b ∧ b < X5.size ∧ b ≠ pb ∧ b ≠ cb ∧ b ≠ mb ∧ ¬ mfoot sb MB' b := fun b q => by
      refine ⟨by omega, by omega, by omega, by omega, by omega, fun z => ?_⟩
      rcases ftB' b z with y | y
      · have := rgB b (.inr (.inr (.inr y))); omega
      · have := B5.r.lt z; omega
    have C6 := (C5.ext KX5).mono (fun b q => by have := rgC b q; obtain ⟨n1, n2, n3, n4, n5, n6⟩ := nB b (.inr (.inl this)); exact o6 b n1 n2 n3 n4 n5 n6) B6.K
    have o6' : ∀ b, b = pa ∨ b = h4.size ∨ b = h5.size → h6[b]? = X5[b]? := fun b q => by obtain ⟨n1, n2, n3, n4, n5, n6⟩ := nB b (by omega); exact o6 b n1 n2 n3 n4 n5 n6
    have pA6 := (o6' pa (.inl rfl)).trans (KX5.at pA5 (by omega))
    have p166 := (o6' h4.size (.inr (.inl rfl))).trans (KX5.at p165 (by omega))
    have p186 := (o6' h5.size (.inr (.inr rfl))).trans p18
    have w4 : IntKind.i64.wrap ((RB.used : Int) + (RC.used : Int)) = (RA.used : Int) := by rw [wrap_i64, hadd]; show _ = ((RC.used + RB.used : Nat) : Int); omega
    refine gs3 StopR.v.eq_1 @p186 @w4 ?_; (try with_reducible exact trivial)
    obtain ⟨Y, eY⟩ : ∃ Y : Heap, Y = (((Array.setIfInBounds h6 h5.size (.cells #[.int .i64 RC.st.kind, .int .i64 RC.st.fk, .int .u64 RC.st.fa] 49)).push (.cells #[.int .i64 RC.st.kind, .int .i64 RC.st.fk, .int .u64 RC.st.fa] 49)).push (.cells #[.int .i64 6, .int .i64 0, .int .u64 0] 49)) := ⟨_, rfl⟩
    obtain ⟨p22, e22⟩ : ∃ n, n = h6.size + 1 := ⟨_, rfl⟩
    have est : RC.st = RA.st := by rw [hadd]; rfl
    have ett : RC.t = RA.t := by rw [hadd]; rfl
    rw [← eY, ← e22]
    have zY : Y.size = h6.size + 2 := by rw [eY]; simp
    have oY : ∀ b, b < h6.size → b ≠ h5.size → Y[b]? = h6[b]? := fun b q n => by rw [eY, h_pushL _ _ _ (by simp; omega), h_pushL _ _ _ (by simp; omega), h_setN _ _ _ _ n]
    have c16 := (oY h4.size (by omega) (by omega)).trans p166
    have c18 : Y[h5.size]? = some (.cells #[.int .i64 RA.st.kind, .int .i64 RA.st.fk, .int .u64 RA.st.fa] 49 (0, 0)) := by rw [← est, eY, h_pushL _ _ _ (by simp; omega), h_pushL _ _ _ (by simp; omega)]; exact h_setS _ _ _ (by omega)
    have c22 : Y[p22]? = some (.cells #[.int .i64 6, .int .i64 0, .int .u64 0] 49 (0, 0)) := by rw [eY, e22]; exact h_pushE _ _ _ (by rw [Array.size_push, Array.size_setIfInBounds])
    have cA := (oY pa (by omega) (by omega)).trans pA6
    have cB := (oY pb (by omega) (by omega)).trans B6.H
    rw [ett] at cB
    have CY : Mk h Y pc sc cc mc MC (hs0 ws) 0 := C6.mono (fun b q => by have := rgC b q; exact oY b (by omega) (by omega)) ⟨by omega, fun b hb' => by rw [oY b (by omega) (by omega), C6.K.old b hb']⟩
    have bY : h3.size ≤ h4.size ∧ h4.size < h5.size ∧ h5.size < p22 ∧ p22 < Y.size := ⟨by omega, by omega, by omega, by omega⟩
    clear oY zY eY e22 C6 B6 o6 o6' nB C5 B5 B5X B4 pA6 p166 p186
    revert c16 c18 c22 cA cB CY bY
    rotate_left
    have tk : (RB.st.kind = 6) = False := eq_false q6
    rw [if_neg q6] at hadd
    refine gs2 StopR.v.eq_1 @tk ?_; (try with_reducible exact trivial)
    rw [← eX5]
    obtain ⟨Y, eY⟩ : ∃ Y : Heap, Y = X5.push (.cells #[.int .i64 6, .int .i64 0, .int .u64 0] 49) := ⟨_, rfl⟩
    obtain ⟨p22, e22⟩ : ∃ n, n = h5.size + 1 := ⟨_, rfl⟩
    rw [← eY, ← e22, ← hadd]
    have zY : Y.size = h5.size + 2 := by rw [eY]; simp; omega
    have oX : ∀ b, b < X5.size → Y[b]? = X5[b]? := fun b q => by rw [eY, h_pushL _ _ _ q]
    have oY : ∀ b, b < h5.size → Y[b]? = h5[b]? := fun b q => by rw [oX b (by omega), KX5.old b q]
    have c16 := (oY h4.size (by omega)).trans p165
    have c18 := (oX h5.size (by omega)).trans p18
    have c22 : Y[p22]? = some (.cells #[.int .i64 6, .int .i64 0, .int .u64 0] 49 (0, 0)) := by rw [eY, e22, ← zX5]; exact h_pushE _ _ _ rfl
    have cA := (oY pa (by omega)).trans pA5
    have cB := (oY pb (by omega)).trans B5.H
    rw [← hadd] at cB c18
    have CY : Mk h Y pc sc cc mc MC (hs0 ws) 0 := C5.mono (fun b q => by have := rgC b q; exact oY b (by omega)) ⟨by omega, fun b hb' => by rw [oY b (by omega), C5.K.old b hb']⟩
    have bY : h3.size ≤ h4.size ∧ h4.size < h5.size ∧ h5.size < p22 ∧ p22 < Y.size := ⟨by omega, by omega, by omega, by omega⟩
    clear oY oX zY eY e22 C5 B5 B4 pA5 p165 p18
    revert c16 c18 c22 cA cB CY bY
    all_goals
      intro c16 c18 c22 cA cB CY bY
      obtain ⟨b1, b2, b3, b4⟩ := bY
      obtain ⟨I, hI⟩ : ∃ I : Nat → Fr → Heap → Prop, I = fun k1 fr hh => ∃ (i : Nat) (M1 : MemD) (t1 : HS), i + k1 = f + g ∧ Mk h hh pc sc cc mc M1 t1 i ∧ M1.rs = RS3 ∧ RA = (runF RS3 k1 (memAt M1) t1).add i ∧ Y.size ≤ hh.size ∧ (∀ b, mfoot sc M1 b → mfoot sc MC b ∨ Y.size ≤ b) ∧ (∀ b, h.size ≤ b → b < Y.size → b ≠ pc → b ≠ cc → b ≠ mc → ¬ mfoot sc MC b → hh[b]? = Y[b]?) ∧
          fr = ((((((((((fr0.up 23 (.int .i64 i)).up 22 (ptr p22 0)).up 19 (.int .i64 RA.used)).up 18 (ptr h5.size 0)).up 17 (.int .i64 RA.used)).up 16 (ptr h4.size 0)).up 15 (.int .i64 ((f + g : Nat) : Int))).up 13 (ptr pc 0)).up 11 (ptr pb 0)).up 9 (ptr pa 0)) := ⟨_, rfl⟩
      refine LoopK.use I (f + g) (by rw [hI]; exact ⟨0, MC, hs0 ws, by omega, CY, rsC, by rw [hRA, eC]; rfl, Nat.le_refl _, fun b z => .inl z, fun b _ _ _ _ _ _ => rfl, rfl⟩) ?_
      intro k1 fr hh hK
      rw [hI] at hK
      obtain ⟨i, M1, t1, hk1, W, rs1, E, lY, ft, oo, hfr⟩ := hK
      subst hfr
      have nC : ∀ b, b = pa ∨ b = pb ∨ b = h4.size ∨ b = h5.size ∨ b = p22 → h.size ≤ b ∧ b < Y.size ∧ b ≠ pc ∧ b ≠ cc ∧ b ≠ mc ∧ ¬ mfoot sc M1 b ∧ ¬ mfoot sc MC b := fun b q => by
        have nn : ¬ mfoot sc MC b := fun z => by have := rgC b (.inr (.inr (.inr z))); omega
        refine ⟨by omega, by omega, by omega, by omega, by omega, fun z => ?_, nn⟩
        rcases ft b z with y | y
        · exact nn y
        · omega
      have oh : ∀ b, b = pa ∨ b = pb ∨ b = h4.size ∨ b = h5.size ∨ b = p22 → hh[b]? = Y[b]? := fun b q => by obtain ⟨n1, n2, n3, n4, n5, _, n6⟩ := nC b q; exact oo b n1 n2 n3 n4 n5 n6
      by_cases hi : i < f + g
      have d1 : decide ((i : Int) < ((f + g : Nat) : Int)) = true := decide_eq_true (by omega)
      obtain ⟨k2, rfl⟩ : ∃ k2, k1 = k2 + 1 := ⟨k1 - 1, by omega⟩
      refine gs1 @d1 ?_; (try with_reducible exact trivial)
      refine FnK.use (W.step (by omega)) ?_
      intro x h9 ⟨e9, s9, ⟨M2, rs2, by2, ft2, W2⟩, o9⟩
      rw [rs1] at e9 by2 W2
      rw [e9]
      have eB2 : memAt M2 = (stepF RS3 (memAt M1) t1).B := funext by2
      have o9' : ∀ b, b = pa ∨ b = pb ∨ b = h4.size ∨ b = h5.size ∨ b = p22 → h9[b]? = Y[b]? := fun b q => by
        obtain ⟨n1, n2, n3, n4, n5, n6, _⟩ := nC b q
        exact (o9 b (by omega) n3 n4 n5 n6).trans (oh b q)
      by_cases qs : (stepF RS3 (memAt M1) t1).st.kind = 0
      · have tk : ((stepF RS3 (memAt M1) t1).st.kind = 0) = True := eq_true qs
        have w5 : IntKind.i64.wrap ((i : Int) + 1) = ((i + 1 : Nat) : Int) := by rw [wrap_i64]; omega
        have E2 : RA = (runF RS3 k2 (memAt M2) (stepF RS3 (memAt M1) t1).t).add (i + 1) := by
          rw [E, eB2]
          simp only [runF, if_pos qs, RunO.add]
          rw [Nat.add_assoc, Nat.add_comm 1 i]
        refine gs3 StopR.v.eq_1 @tk @w5 ?_; (try with_reducible exact trivial)
        refine ⟨k2, by omega, ?_⟩
        rw [hI]
        refine ⟨i + 1, M2, _, by omega, W2.ext (Keeps.push _ _ (Nat.le_refl _)), rs2.trans rs1, E2, by simp; omega, fun b z => ?_, fun b q0 q1 q2 q3 q4 q5 => ?_, rfl⟩
        · rcases ft2 b z with y | y
          · exact ft b y
          · exact .inr (by omega)
        · rw [h_pushL _ _ _ (by omega), o9 b (by omega) q2 q3 q4 (fun z => by rcases ft b z with y | y; exact q5 y; omega), oo b q0 q1 q2 q3 q4 q5]
      have tk : ((stepF RS3 (memAt M1) t1).st.kind = 0) = False := eq_false qs
      have E2 : RA = ⟨(stepF RS3 (memAt M1) t1).st, 0 + i, (stepF RS3 (memAt M1) t1).t, (stepF RS3 (memAt M1) t1).B⟩ := by
        rw [E]
        simp only [runF, if_neg qs, RunO.add]
      have est9 : (stepF RS3 (memAt M1) t1).st = RA.st := by rw [E2]
      have ett9 : (stepF RS3 (memAt M1) t1).t = RA.t := by rw [E2]
      have eu : RA.used = i := by rw [E2]; exact Nat.zero_add i
      have p229 := (o9' p22 (by omega)).trans c22
      refine gs3 StopR.v.eq_1 @tk @p229 ?_; (try with_reducible exact trivial)
      rw [est9]
      obtain ⟨V, eV⟩ : ∃ V : Heap, V = (Array.setIfInBounds h9 p22 (.cells #[.int .i64 RA.st.kind, .int .i64 RA.st.fk, .int .u64 RA.st.fa] 49)).push (.cells #[.int .i64 RA.st.kind, .int .i64 RA.st.fk, .int .u64 RA.st.fa] 49) := ⟨_, rfl⟩
      rw [← eV]
      have oV : ∀ b, b < h9.size → b ≠ p22 → V[b]? = h9[b]? := fun b q n => by rw [eV, h_pushL _ _ _ (by simp; omega), h_setN _ _ _ _ n]
      have zV : V.size = h9.size + 1 := by rw [eV]; simp
      have v16 := (oV h4.size (by omega) (by omega)).trans ((o9' h4.size (by omega)).trans c16)
      have v18 := (oV h5.size (by omega) (by omega)).trans ((o9' h5.size (by omega)).trans c18)
      have v22 : V[p22]? = some (.cells #[.int .i64 RA.st.kind, .int .i64 RA.st.fk, .int .u64 RA.st.fa] 49 (0, 0)) := by rw [eV, h_pushL _ _ _ (by simp; omega)]; exact h_setS _ _ _ (by omega)
      have vA := (oV pa (by omega) (by omega)).trans ((o9' pa (by omega)).trans cA)
      have vB := (oV pb (by omega) (by omega)).trans ((o9' pb (by omega)).trans cB)
      have vC := (oV pc (by have := getElem?_lt W2.H; omega) (by omega)).trans W2.H
      rw [ett9] at vC
      have du : decide ((RA.used : Int) = (i : Int)) = true := decide_eq_true (by omega)
      have vK : ∀ b, b < h.size → V[b]? = h[b]? := fun b q => by have := W2.K.size; rw [oV b (by omega) (by omega), W2.K.old b q]
      clear oV eV zV p229 o9 o9' W2 W
      revert v16 v18 v22 vA vB vC du vK
      rotate_left
      have d1 : decide ((i : Int) < ((f + g : Nat) : Int)) = false := decide_eq_false (by omega)
      have ek : k1 = 0 := by omega
      subst ek
      have E2 : RA = ⟨⟨6, 0, 0⟩, 0 + i, t1, memAt M1⟩ := E
      refine gs1 @d1 ?_; (try with_reducible exact trivial)
      have est9 : RA.st = ⟨6, 0, 0⟩ := by rw [E2]
      have ett9 : t1 = RA.t := by rw [E2]
      have eu : RA.used = i := by rw [E2]; exact Nat.zero_add i
      have v16 := (oh h4.size (by omega)).trans c16
      have v18 := (oh h5.size (by omega)).trans c18
      have v22 : hh[p22]? = some (.cells #[.int .i64 RA.st.kind, .int .i64 RA.st.fk, .int .u64 RA.st.fa] 49 (0, 0)) := by rw [est9]; exact (oh p22 (by omega)).trans c22
      have vA := (oh pa (by omega)).trans cA
      have vB := (oh pb (by omega)).trans cB
      have vC := W.H
      rw [ett9] at vC
      have du : decide ((RA.used : Int) = (i : Int)) = true := decide_eq_true (by omega)
      have vK := W.K.old
      clear oh W
      revert v16 v18 v22 vA vB vC du vK
      rotate_left
      all_goals
        intro v16 v18 v22 vA vB vC du vK
        refine FnK.use (answers11_g _) ?_
        intro x h10 ⟨e10, K10⟩
        rw [e10]
        have w16 := K10.at v16 (getElem?_lt v16)
        have w18 := K10.at v18 (getElem?_lt v18)
        have w22 := K10.at v22 (getElem?_lt v22)
        have wA := K10.at vA (getElem?_lt vA)
        have wB := K10.at vB (getElem?_lt vB)
        have wC := K10.at vC (getElem?_lt vC)
        have eqs := fun x y => eqS x y (hs_okS RA.t)
        refine gs5 @w16 @w18 @w22 @eq_stop @du ?_; (try with_reducible exact trivial)
        refine FnK.use (hstate_g wA) ?_
        intro x h11 ⟨e11, K11⟩
        rw [e11]
        unfold sv
        have wB1 := K11.at wB (getElem?_lt wB)
        have wC1 := K11.at wC (getElem?_lt wC)
        have wA1 := K11.at wA (getElem?_lt wA)
        refine gs0 ?_; (try with_reducible exact trivial)
        refine FnK.use (hstate_g wB1) ?_
        intro x h12 ⟨e12, K12⟩
        rw [e12]
        unfold sv
        have wC2 := K12.at wC1 (getElem?_lt wC1)
        have wA2 := K12.at wA1 (getElem?_lt wA1)
        refine gs1 @eqs ?_; (try with_reducible exact trivial)
        refine FnK.use (hstate_g wA2) ?_
        intro x h13 ⟨e13, K13⟩
        rw [e13]
        unfold sv
        have wC3 := K13.at wC2 (getElem?_lt wC2)
        refine gs0 ?_; (try with_reducible exact trivial)
        refine FnK.use (hstate_g wC3) ?_
        intro x h14 ⟨e14, K14⟩
        rw [e14]
        unfold sv
        refine gs1 @eqs ?_; (try with_reducible exact trivial)
        have l0 := getElem?_lt vA
        intro b hb'
        have y1 := K10.size
        have y2 := K11.size
        have y3 := K12.size
        have y4 := K13.size
        rw [K14.old b (by omega), K13.old b (by omega), K12.old b (by omega), K11.old b (by omega), K10.old b (by omega), vK b hb']
  · have dc : decide ((8000 : Int) < cs.length) = true := decide_eq_true (by omega)
    refine Fn_c Tryz.func8 mixed c8 (by kernel_rfl) ?_; rw [r8]
    refine gs1 @dc ?_; (try with_reducible exact trivial)
    refine FnK.use (answers11_g h) ?_
    intro x h1 ⟨e1, K1⟩
    rw [e1]
    refine gs0 ?_; (try with_reducible exact trivial)
    exact K1.old
end Go.SX.G
