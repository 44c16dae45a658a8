/- CacheMany, the walk. No condition. -/
import Derived.Test.YtajfhnphhdoobaaCC
set_option linter.unusedVariables false
set_option linter.unusedSimpArgs false
namespace Go.SX.G
open Go Go.SX Go.Proofs
set_option maxRecDepth 100000
set_option maxHeartbeats 4000000
/-- a space and a cache of it. -/
structure One (h : Heap) (s c m : Nat) (M : MemD) : Prop where
  r : MR h s M
  cc : ∃ n sp es, CR h c m n sp es ∧ (sp = .pointer none ∨ sp = ptr s 0) ∧ (sp = ptr s 0 → ∀ e ∈ es, e.ok M)
  cs : ¬ mfoot s M c ∧ ¬ mfoot s M m
theorem One.fetch {h : Heap} {s c m : Nat} {M : MemD} (w : One h s c m M) (a : Nat) (ha : a < 18446744073709551616) :
    Fn Try.prog 12 [ptr c 0, ptr s 0, .int .u64 a] h fun x h' => x = .tuple #[(readF M.rs (memAt M) a).1.v, (readF M.rs (memAt M) a).2.v] ∧ One h' s c m M ∧ h.size ≤ h'.size ∧ ∀ b, b < h.size → b ≠ c → b ≠ m → h'[b]? = h[b]? := by
  obtain ⟨n, sp, es, C, hsp, o1⟩ := w.cc
  refine (cfetch_on a w.r ha C ?_ o1 w.cs.1 w.cs.2).mono fun x h' ⟨e, n', es', C', ok', z, o⟩ => ⟨e, ⟨w.r.mono fun b f => o b (w.r.lt f) (fun q => w.cs.1 (q ▸ f)) (fun q => w.cs.2 (q ▸ f)), ⟨n', _, es', C', .inr rfl, fun _ => ok'⟩, w.cs⟩, z, o⟩
  rcases hsp with q | q
  · exact .inl q
  · exact .inr ⟨s, _, _, q, w.r.top⟩
theorem One.ext {h h' : Heap} {s c m : Nat} {M : MemD} (w : One h s c m M) (k : Keeps h.size h h') : One h' s c m M := by
  obtain ⟨n, sp, es, C, hsp, o1⟩ := w.cc
  exact ⟨w.r.ext k, ⟨n, sp, es, C.mono (k.old _ C.lt.1) (k.old _ C.lt.2), hsp, o1⟩, w.cs⟩
theorem One.len {h : Heap} {s c m : Nat} {M : MemD} (w : One h s c m M) : Fn Try.prog 13 [ptr c 0] h fun x h' => (∃ n : Nat, x = .int .i64 n ∧ n ≤ 4096) ∧ h' = h := by
  obtain ⟨n, sp, es, C, _⟩ := w.cc
  exact (clen_c C).mono fun x h' ⟨e, e2⟩ => ⟨⟨es.length, e, C.le⟩, e2⟩
theorem or_u8 (a b : Int) : ∃ v : Nat, bitI .or .u8 a b = v ∧ v < 256 := by
  have : bitI .or .u8 a b = IntKind.u8.wrap ((BitVec.ofInt 8 a ||| BitVec.ofInt 8 b).toNat : Int) := rfl
  have w : ∀ x : Int, IntKind.u8.wrap x = x % 256 := fun x => by simp [IntKind.wrap, IntKind.signed, IntKind.bits]
  rw [this, w]
  exact ⟨((BitVec.ofInt 8 a ||| BitVec.ofInt 8 b).toNat % 256), by omega, by omega⟩
theorem cachemany_c {h : Heap} (n : Nat) (hn : n < 65536) (turn : Nat) (ht : turn < 256) :
    Fn Try.prog 4 [.int .u16 n, .int .u8 turn] h fun r h' => r = .bool true ∧ ∀ b, b < h.size → h'[b]? = h[b]? := by
  refine Fn_c Try.func4 mixed c4 (by kernel_rfl) ?_; rw [r4]
  simp -implicitDefEqProofs (disch := first | omega | (simp only [h_szP, h_szS]; done) | (simp only [h_szP, h_szS]; omega)) only [go_sem, Nat.reduceBEq, reduceCtorEq, Nat.reduceAdd, Int.reduceEq, Int.reduceLT, Int.reduceLE, Int.reduceMul, Int.reduceAdd, Int.reduceSub, reduceIte, Nat.reduceLeDiff, Nat.reduceLT, Nat.reduceMul, Nat.reduceSub, Int.reduceToNat, s4, Try.underlying23, Try.underlying5, sl22, ze5, by5, sz5, Try.underlying3, Try.underlying26, Try.underlying42, zc34, zc38, sz34, sz38, sh34, Try.underlying34, sh38, Try.underlying38]
  refine FnK.use (mnew_c h 10 (by omega)) ?_
  intro x h1 ⟨s, M, e1, R, K1, hF, _⟩
  rw [e1]
  simp -implicitDefEqProofs (disch := first | omega | (simp only [h_szP, h_szS]; done) | (simp only [h_szP, h_szS]; omega)) only [go_sem, Nat.reduceBEq, reduceCtorEq, Nat.reduceAdd, Int.reduceEq, Int.reduceLT, Int.reduceLE, Int.reduceMul, Int.reduceAdd, Int.reduceSub, reduceIte, Nat.reduceLeDiff, Nat.reduceLT, Nat.reduceMul, Nat.reduceSub, Int.reduceToNat, s4, Try.underlying23, Try.underlying5, sl22, ze5, by5, sz5, Try.underlying3, Try.underlying26, Try.underlying42, zc34, zc38, sz34, sz38, sh34, Try.underlying34, sh38, Try.underlying38]
  refine FnK.use (answers10_c h1) ?_
  intro x h2 ⟨e2, K2⟩
  rw [e2]
  have s1 := K1.size
  have s2 := K2.size
  have R2 := R.ext K2
  have U2 : Keeps h.size h h2 := K1.of_ext K2 (Nat.le_refl _)
  simp -implicitDefEqProofs (disch := first | omega | (simp only [h_szP, h_szS]; done) | (simp only [h_szP, h_szS]; omega)) only [go_sem, Nat.reduceBEq, reduceCtorEq, Nat.reduceAdd, Int.reduceEq, Int.reduceLT, Int.reduceLE, Int.reduceMul, Int.reduceAdd, Int.reduceSub, reduceIte, Nat.reduceLeDiff, Nat.reduceLT, Nat.reduceMul, Nat.reduceSub, Int.reduceToNat, s4, Try.underlying23, Try.underlying5, sl22, ze5, by5, sz5, Try.underlying3, Try.underlying26, Try.underlying42, zc34, zc38, sz34, sz38, sh34, Try.underlying34, sh38, Try.underlying38]
  refine FnK.use (mmap_c 4096 16384 5 true R2 (by omega) (by omega)) ?_
  intro x h3 hx
  obtain ⟨M1, R3, fx3⟩ := hx.on R2
  clear hx
  obtain ⟨U3, hF3⟩ := fx3.own (h0 := h) hF U2
  have s3 := U3.size
  obtain ⟨v, hv, hv2⟩ := or_u8 (bitI .andNot .u8 turn 3) 1
  simp -implicitDefEqProofs (disch := first | omega | (simp only [h_szP, h_szS]; done) | (simp only [h_szP, h_szS]; omega)) only [go_sem, Nat.reduceBEq, reduceCtorEq, Nat.reduceAdd, Int.reduceEq, Int.reduceLT, Int.reduceLE, Int.reduceMul, Int.reduceAdd, Int.reduceSub, reduceIte, Nat.reduceLeDiff, Nat.reduceLT, Nat.reduceMul, Nat.reduceSub, Int.reduceToNat, s4, Try.underlying23, Try.underlying5, sl22, ze5, by5, sz5, Try.underlying3, Try.underlying26, Try.underlying42, zc34, zc38, sz34, sz38, sh34, Try.underlying34, sh38, Try.underlying38, hv]
  have K4 := Keeps.push h3 (.cells #[.int .u8 v, .int .u8 69] 5) (Nat.le_refl _)
  have hv4 : Vs (h3.push (.cells #[.int .u8 v, .int .u8 69] 5)) (.slice (some ⟨h3.size, 0, none⟩) 2 2) encB 1 [v, 69] :=
    ⟨rfl, .inr ⟨h3.size, 0, 2, #[.int .u8 v, .int .u8 69], 5, _, rfl, Nat.le_refl _, h_pushE _ _ _ rfl, by simp, rfl⟩⟩
  obtain ⟨I, hI⟩ : ∃ I : Nat → Fr → Heap → Prop, I = fun k fr hh => ∃ (i : Nat) (M2 : MemD), i + k = 8192 ∧ MR hh s M2 ∧ (∀ b, mfoot s M2 b → h.size ≤ b) ∧ Keeps h.size h hh ∧ Vs hh (.slice (some ⟨h3.size, 0, none⟩) 2 2) encB 1 [v, 69] ∧ ¬ mfoot s M2 h3.size ∧ h3.size < hh.size ∧
      fr = ((((fr0.up 7 (.int .i64 i)).up 6 (.slice (some ⟨h3.size, 0, none⟩) 2 2)).up 5 (ptr s 0)).up 0 (.int .u16 n)) := ⟨_, rfl⟩
  refine LoopK.use I 8192 (by rw [hI]; exact ⟨0, M1, by omega, R3.ext K4, hF3, U3.push' (by omega), hv4, fun f => by have := R3.lt f; omega, by simp, rfl⟩) ?_
  intro k fr hh hK
  rw [hI] at hK
  obtain ⟨i, M2, hk, R4, hF4, U4, hv5, nf, lz, hf⟩ := hK
  subst hf
  by_cases hi : i < 8192
  · have hd1 : decide ((i : Int) < 8192) = true := decide_eq_true (by omega)
    obtain ⟨a, ha⟩ : ∃ a, a = 4096 + 2 * i := ⟨_, rfl⟩
    have ea : (4096 : Int) + 2 * (i : Int) = (a : Int) := by omega
    simp -implicitDefEqProofs (disch := first | omega | (simp only [h_szP, h_szS]; done) | (simp only [h_szP, h_szS]; omega)) only [go_sem, Nat.reduceBEq, reduceCtorEq, Nat.reduceAdd, Int.reduceEq, Int.reduceLT, Int.reduceLE, Int.reduceMul, Int.reduceAdd, Int.reduceSub, reduceIte, Nat.reduceLeDiff, Nat.reduceLT, Nat.reduceMul, Nat.reduceSub, Int.reduceToNat, s4, Try.underlying23, Try.underlying5, sl22, ze5, by5, sz5, Try.underlying3, Try.underlying26, Try.underlying42, zc34, zc38, sz34, sz38, sh34, Try.underlying34, sh38, Try.underlying38, hd1, ea]
    refine FnK.use (mput_c a R4 (by omega) (by show 2 < 9223372036854775808; omega) hv5 (fun b e f => by simp only [blk, Option.some.injEq] at e; subst e; exact nf f) (by intro x hx; simp at hx; omega)) ?_
    intro x h5 ⟨M3, P⟩
    obtain ⟨U5, hF5⟩ := P.g.fx.own (h0 := h) hF4 U4
    simp -implicitDefEqProofs (disch := first | omega | (simp only [h_szP, h_szS]; done) | (simp only [h_szP, h_szS]; omega)) only [go_sem, Nat.reduceBEq, reduceCtorEq, Nat.reduceAdd, Int.reduceEq, Int.reduceLT, Int.reduceLE, Int.reduceMul, Int.reduceAdd, Int.reduceSub, reduceIte, Nat.reduceLeDiff, Nat.reduceLT, Nat.reduceMul, Nat.reduceSub, Int.reduceToNat, s4, Try.underlying23, Try.underlying5, sl22, ze5, by5, sz5, Try.underlying3, Try.underlying26, Try.underlying42, zc34, zc38, sz34, sz38, sh34, Try.underlying34, sh38, Try.underlying38]
    refine ⟨k - 1, by omega, ?_⟩
    rw [hI]
    refine ⟨i + 1, M3, by omega, P.g.r, hF5, U5, hv5.mono fun b e => ?_, fun f => ?_, by have := P.g.fx.size; omega, rfl⟩
    · simp only [blk, Option.some.injEq] at e
      subst e
      exact P.g.fx.old _ lz nf
    · rcases P.g.fx.ft _ f with q | q
      · exact nf q
      · omega
  · have hd1 : decide ((i : Int) < 8192) = false := decide_eq_false (by omega)
    simp -implicitDefEqProofs (disch := first | omega | (simp only [h_szP, h_szS]; done) | (simp only [h_szP, h_szS]; omega)) only [go_sem, Nat.reduceBEq, reduceCtorEq, Nat.reduceAdd, Int.reduceEq, Int.reduceLT, Int.reduceLE, Int.reduceMul, Int.reduceAdd, Int.reduceSub, reduceIte, Nat.reduceLeDiff, Nat.reduceLT, Nat.reduceMul, Nat.reduceSub, Int.reduceToNat, s4, Try.underlying23, Try.underlying5, sl22, ze5, by5, sz5, Try.underlying3, Try.underlying26, Try.underlying42, zc34, zc38, sz34, sz38, sh34, Try.underlying34, sh38, Try.underlying38, hd1]
    refine FnK.use (cnew_c hh) ?_
    intro x h6 ⟨c, m, e6, C6, lc, lm, K6⟩
    rw [e6]
    have U6 := U4.of_ext K6 (Nat.le_refl _)
    have s6 := U4.size
    have W6 : One h6 s c m M2 := ⟨R4.ext K6, ⟨0, _, _, C6, .inl rfl, fun e => by cases e⟩, fun f => by have := R4.lt f; omega, fun f => by have := R4.lt f; omega⟩
    simp -implicitDefEqProofs (disch := first | omega | (simp only [h_szP, h_szS]; done) | (simp only [h_szP, h_szS]; omega)) only [go_sem, Nat.reduceBEq, reduceCtorEq, Nat.reduceAdd, Int.reduceEq, Int.reduceLT, Int.reduceLE, Int.reduceMul, Int.reduceAdd, Int.reduceSub, reduceIte, Nat.reduceLeDiff, Nat.reduceLT, Nat.reduceMul, Nat.reduceSub, Int.reduceToNat, s4, Try.underlying23, Try.underlying5, sl22, ze5, by5, sz5, Try.underlying3, Try.underlying26, Try.underlying42, zc34, zc38, sz34, sz38, sh34, Try.underlying34, sh38, Try.underlying38]
    obtain ⟨N, hN⟩ : ∃ N, N = n % 9000 := ⟨_, rfl⟩
    have eN : (n : Int) % 9000 = (N : Int) := by omega
    obtain ⟨J, hJ⟩ : ∃ I : Nat → Fr → Heap → Prop, I = fun k fr hh => ∃ (i : Nat), i + k = N ∧ One hh s c m M2 ∧ Keeps h.size h hh ∧ h6.size ≤ hh.size ∧
      fr = (((((fr0.up 10 (.int .i64 i)).up 9 (.pointer none)).up 8 (ptr c 0)).up 5 (ptr s 0)).up 0 (.int .u16 n)) := ⟨_, rfl⟩
    refine LoopK.use J N (by rw [hJ]; exact ⟨0, by omega, W6, U6, Nat.le_refl _, rfl⟩) ?_
    intro k fr g hK
    rw [hJ] at hK
    obtain ⟨j, hk, W, U, lz2, hf⟩ := hK
    subst hf
    by_cases hj : j < N
    · have hd1 : decide ((j : Int) < N) = true := decide_eq_true (by omega)
      obtain ⟨a, ha⟩ : ∃ a, a = 4096 + 2 * j := ⟨_, rfl⟩
      have ea : (4096 : Int) + 2 * (j : Int) = (a : Int) := by omega
      simp -implicitDefEqProofs (disch := first | omega | (simp only [h_szP, h_szS]; done) | (simp only [h_szP, h_szS]; omega)) only [go_sem, Nat.reduceBEq, reduceCtorEq, Nat.reduceAdd, Int.reduceEq, Int.reduceLT, Int.reduceLE, Int.reduceMul, Int.reduceAdd, Int.reduceSub, reduceIte, Nat.reduceLeDiff, Nat.reduceLT, Nat.reduceMul, Nat.reduceSub, Int.reduceToNat, s4, Try.underlying23, Try.underlying5, sl22, ze5, by5, sz5, Try.underlying3, Try.underlying26, Try.underlying42, zc34, zc38, sz34, sz38, sh34, Try.underlying34, sh38, Try.underlying38, eN, hd1, ea]
      refine FnK.use (W.fetch a (by omega)) ?_
      intro x h9 ⟨e9, W9, z9, o9⟩
      obtain ⟨RR, hRR⟩ : ∃ RR, RR = readF M2.rs (memAt M2) a := ⟨_, rfl⟩
      rw [← hRR] at e9
      rw [e9]
      have U9 : Keeps h.size h h9 := ⟨by have := U.size; omega, fun b hb => by rw [o9 b (by have := U.size; omega) (by omega) (by omega), U.old b hb]⟩
      obtain ⟨X, eX⟩ : ∃ X, X = (h9.push (.cells #[.int .i64 RR.1.op, .int .i64 RR.1.rd, .int .i64 RR.1.rs1, .int .i64 RR.1.rs2, .int .i64 RR.1.imm, .int .i64 RR.1.order, .int .i64 RR.1.size] 34)).push (.cells #[.int .i64 RR.2.kind, .int .i64 RR.2.fk, .int .u64 RR.2.fa] 38) := ⟨_, rfl⟩
      have p0 : X[h9.size]? = some (.cells #[.int .i64 RR.1.op, .int .i64 RR.1.rd, .int .i64 RR.1.rs1, .int .i64 RR.1.rs2, .int .i64 RR.1.imm, .int .i64 RR.1.order, .int .i64 RR.1.size] 34 (0, 0)) := by rw [eX]; simp -implicitDefEqProofs (disch := first | omega | (simp only [h_szP, h_szS]; done) | (simp only [h_szP, h_szS]; omega)) only [go_sem, Nat.reduceBEq, reduceCtorEq, Nat.reduceAdd, Int.reduceEq, Int.reduceLT, Int.reduceLE, Int.reduceMul, Int.reduceAdd, Int.reduceSub, reduceIte, Nat.reduceLeDiff, Nat.reduceLT, Nat.reduceMul, Nat.reduceSub, Int.reduceToNat]
      have p1 : X[h9.size + 1]? = some (.cells #[.int .i64 RR.2.kind, .int .i64 RR.2.fk, .int .u64 RR.2.fa] 38 (0, 0)) := by rw [eX]; simp -implicitDefEqProofs (disch := first | omega | (simp only [h_szP, h_szS]; done) | (simp only [h_szP, h_szS]; omega)) only [go_sem, Nat.reduceBEq, reduceCtorEq, Nat.reduceAdd, Int.reduceEq, Int.reduceLT, Int.reduceLE, Int.reduceMul, Int.reduceAdd, Int.reduceSub, reduceIte, Nat.reduceLeDiff, Nat.reduceLT, Nat.reduceMul, Nat.reduceSub, Int.reduceToNat]
      have zX : X.size = h9.size + 2 := by rw [eX]; simp
      have KX : Keeps h9.size h9 X := by rw [eX]; exact (Keeps.push _ _ (Nat.le_refl _)).push' (Nat.le_refl _)
      by_cases q97 : j % 97 = 0
      · have t1 : ((j : Int) % 97 = 0) = True := eq_true (by omega)
        simp -implicitDefEqProofs (disch := first | omega | (simp only [h_szP, h_szS]; done) | (simp only [h_szP, h_szS]; omega)) only [go_sem, Nat.reduceBEq, reduceCtorEq, Nat.reduceAdd, Int.reduceEq, Int.reduceLT, Int.reduceLE, Int.reduceMul, Int.reduceAdd, Int.reduceSub, reduceIte, Nat.reduceLeDiff, Nat.reduceLT, Nat.reduceMul, Nat.reduceSub, Int.reduceToNat, s4, Try.underlying23, Try.underlying5, sl22, ze5, by5, sz5, Try.underlying3, Try.underlying26, Try.underlying42, zc34, zc38, sz34, sz38, sh34, Try.underlying34, sh38, Try.underlying38, InstR.v, StopR.v, t1]
        rw [← eX]
        refine FnK.use (cfetch_nil a (W9.r.ext KX) (by omega)) ?_
        intro x g1 ⟨f1, L1⟩
        rw [← hRR] at f1
        rw [f1]
        have q0 := L1.at p0 (by omega)
        have q1 := L1.at p1 (by omega)
        have lq0 := getElem?_lt q0
        have lq1 := getElem?_lt q1
        have L2 := KX.of_ext L1 (Nat.le_refl _)
        obtain ⟨G, eG⟩ : ∃ G, G = (g1.push (.cells #[.int .i64 RR.1.op, .int .i64 RR.1.rd, .int .i64 RR.1.rs1, .int .i64 RR.1.rs2, .int .i64 RR.1.imm, .int .i64 RR.1.order, .int .i64 RR.1.size] 34)).push (.cells #[.int .i64 RR.2.kind, .int .i64 RR.2.fk, .int .u64 RR.2.fa] 38) := ⟨_, rfl⟩
        have LG : Keeps h9.size h9 G := by rw [eG]; exact (L2.push' (Nat.le_refl _)).push' (Nat.le_refl _)
        simp -implicitDefEqProofs (disch := first | omega | (simp only [h_szP, h_szS]; done) | (simp only [h_szP, h_szS]; omega)) only [go_sem, Nat.reduceBEq, reduceCtorEq, Nat.reduceAdd, Int.reduceEq, Int.reduceLT, Int.reduceLE, Int.reduceMul, Int.reduceAdd, Int.reduceSub, reduceIte, Nat.reduceLeDiff, Nat.reduceLT, Nat.reduceMul, Nat.reduceSub, Int.reduceToNat, s4, Try.underlying23, Try.underlying5, sl22, ze5, by5, sz5, Try.underlying3, Try.underlying26, Try.underlying42, zc34, zc38, sz34, sz38, sh34, Try.underlying34, sh38, Try.underlying38, InstR.v, StopR.v, q0, q1, ne_instU, ne_stopU]
        rw [← eG]
        refine FnK.use (W9.ext LG).len ?_
        intro x g2 ⟨⟨l, f2, l2⟩, f3⟩
        rw [f2, f3]
        have hd3 : decide ((4096 : Int) < l) = false := decide_eq_false (by omega)
        simp -implicitDefEqProofs (disch := first | omega | (simp only [h_szP, h_szS]; done) | (simp only [h_szP, h_szS]; omega)) only [go_sem, Nat.reduceBEq, reduceCtorEq, Nat.reduceAdd, Int.reduceEq, Int.reduceLT, Int.reduceLE, Int.reduceMul, Int.reduceAdd, Int.reduceSub, reduceIte, Nat.reduceLeDiff, Nat.reduceLT, Nat.reduceMul, Nat.reduceSub, Int.reduceToNat, s4, Try.underlying23, Try.underlying5, sl22, ze5, by5, sz5, Try.underlying3, Try.underlying26, Try.underlying42, zc34, zc38, sz34, sz38, sh34, Try.underlying34, sh38, Try.underlying38, hd3]
        refine ⟨k - 1, by omega, ?_⟩
        rw [hJ]
        exact ⟨j + 1, by omega, W9.ext LG, U9.of_ext LG (by have := U9.size; omega), by have := LG.size; omega, rfl⟩
      · have t1 : ((j : Int) % 97 = 0) = False := eq_false (by omega)
        simp -implicitDefEqProofs (disch := first | omega | (simp only [h_szP, h_szS]; done) | (simp only [h_szP, h_szS]; omega)) only [go_sem, Nat.reduceBEq, reduceCtorEq, Nat.reduceAdd, Int.reduceEq, Int.reduceLT, Int.reduceLE, Int.reduceMul, Int.reduceAdd, Int.reduceSub, reduceIte, Nat.reduceLeDiff, Nat.reduceLT, Nat.reduceMul, Nat.reduceSub, Int.reduceToNat, s4, Try.underlying23, Try.underlying5, sl22, ze5, by5, sz5, Try.underlying3, Try.underlying26, Try.underlying42, zc34, zc38, sz34, sz38, sh34, Try.underlying34, sh38, Try.underlying38, InstR.v, StopR.v, t1]
        rw [← eX]
        refine FnK.use (W9.ext KX).len ?_
        intro x g2 ⟨⟨l, f2, l2⟩, f3⟩
        rw [f2, f3]
        have hd3 : decide ((4096 : Int) < l) = false := decide_eq_false (by omega)
        simp -implicitDefEqProofs (disch := first | omega | (simp only [h_szP, h_szS]; done) | (simp only [h_szP, h_szS]; omega)) only [go_sem, Nat.reduceBEq, reduceCtorEq, Nat.reduceAdd, Int.reduceEq, Int.reduceLT, Int.reduceLE, Int.reduceMul, Int.reduceAdd, Int.reduceSub, reduceIte, Nat.reduceLeDiff, Nat.reduceLT, Nat.reduceMul, Nat.reduceSub, Int.reduceToNat, s4, Try.underlying23, Try.underlying5, sl22, ze5, by5, sz5, Try.underlying3, Try.underlying26, Try.underlying42, zc34, zc38, sz34, sz38, sh34, Try.underlying34, sh38, Try.underlying38, hd3]
        refine ⟨k - 1, by omega, ?_⟩
        rw [hJ]
        exact ⟨j + 1, by omega, W9.ext KX, U9.of_ext KX (by have := U9.size; omega), by omega, rfl⟩
    · have hd1 : decide ((j : Int) < N) = false := decide_eq_false (by omega)
      simp -implicitDefEqProofs (disch := first | omega | (simp only [h_szP, h_szS]; done) | (simp only [h_szP, h_szS]; omega)) only [go_sem, Nat.reduceBEq, reduceCtorEq, Nat.reduceAdd, Int.reduceEq, Int.reduceLT, Int.reduceLE, Int.reduceMul, Int.reduceAdd, Int.reduceSub, reduceIte, Nat.reduceLeDiff, Nat.reduceLT, Nat.reduceMul, Nat.reduceSub, Int.reduceToNat, s4, Try.underlying23, Try.underlying5, sl22, ze5, by5, sz5, Try.underlying3, Try.underlying26, Try.underlying42, zc34, zc38, sz34, sz38, sh34, Try.underlying34, sh38, Try.underlying38, eN, hd1]
      exact U.old
end Go.SX.G
