/- CacheSpaces, the walk. No condition. -/
import Derived.Test.YtajfhnphhdoobaaCC
set_option linter.unusedVariables false
set_option linter.unusedSimpArgs false
namespace Go.SX.G
open Go Go.SX Go.Proofs
set_option maxRecDepth 100000
set_option maxHeartbeats 4000000
/-- what the loop keeps: two spaces and a cache. -/
structure Two (h : Heap) (s t c m : Nat) (M N : MemD) : Prop where
  r : MR h s M
  q : MR h t N
  ap : ∀ b, mfoot s M b → ¬ mfoot t N b
  cc : ∃ n sp es, CR h c m n sp es ∧ (sp = .pointer none ∨ sp = ptr s 0 ∨ sp = ptr t 0) ∧ (sp = ptr s 0 → ∀ e ∈ es, e.ok M) ∧ (sp = ptr t 0 → ∀ e ∈ es, e.ok N)
  cs : ¬ mfoot s M c ∧ ¬ mfoot s M m ∧ ¬ mfoot t N c ∧ ¬ mfoot t N m
theorem Two.ne {h : Heap} {s t c m : Nat} {M N : MemD} (w : Two h s t c m M N) : s ≠ t := fun e => w.ap s (.inl rfl) (.inl e)
theorem Two.fetch1 {h : Heap} {s t c m : Nat} {M N : MemD} (w : Two h s t c m M N) (a : Nat) (ha : a < 18446744073709551616) :
    Fn Try.prog 12 [ptr c 0, ptr s 0, .int .u64 a] h fun x h' => x = .tuple #[(readF M.rs (memAt M) a).1.v, (readF M.rs (memAt M) a).2.v] ∧ Two h' s t c m M N ∧ h.size ≤ h'.size ∧ ∀ b, b < h.size → b ≠ c → b ≠ m → h'[b]? = h[b]? := by
  obtain ⟨n, sp, es, C, hsp, o1, o2⟩ := w.cc
  refine (cfetch_on a w.r ha C ?_ o1 w.cs.1 w.cs.2.1).mono fun x h' ⟨e, n', es', C', ok', z, o⟩ => ⟨e, ⟨w.r.mono fun b f => o b (w.r.lt f) (fun q => w.cs.1 (q ▸ f)) (fun q => w.cs.2.1 (q ▸ f)), w.q.mono fun b f => o b (w.q.lt f) (fun q => w.cs.2.2.1 (q ▸ f)) (fun q => w.cs.2.2.2 (q ▸ f)), w.ap, ⟨n', _, es', C', .inr (.inl rfl), fun _ => ok', fun q => ?_⟩, w.cs⟩, z, o⟩
  · rcases hsp with q | q | q
    · exact .inl q
    · exact .inr ⟨s, _, _, q, w.r.top⟩
    · exact .inr ⟨t, _, _, q, w.q.top⟩
  · injection q with q; injection q with q; injection q with q
    exact absurd q w.ne
theorem Two.flip {h : Heap} {s t c m : Nat} {M N : MemD} (w : Two h s t c m M N) : Two h t s c m N M := by
  obtain ⟨n, sp, es, C, hsp, o1, o2⟩ := w.cc
  refine ⟨w.q, w.r, fun b f g => w.ap b g f, ⟨n, sp, es, C, ?_, o2, o1⟩, w.cs.2.2.1, w.cs.2.2.2, w.cs.1, w.cs.2.1⟩
  rcases hsp with q | q | q
  · exact .inl q
  · exact .inr (.inr q)
  · exact .inr (.inl q)
theorem Two.ext {h h' : Heap} {s t c m : Nat} {M N : MemD} (w : Two h s t c m M N) (k : Keeps h.size h h') : Two h' s t c m M N := by
  obtain ⟨n, sp, es, C, hsp, o1, o2⟩ := w.cc
  exact ⟨w.r.ext k, w.q.ext k, w.ap, ⟨n, sp, es, C.mono (k.old _ C.lt.1) (k.old _ C.lt.2), hsp, o1, o2⟩, w.cs⟩
theorem cachespaces_c {h : Heap} {va vb vt : Value} {us vs ws : List Nat} (hva : Vs h va encB 1 us) (hxa : ∀ x ∈ us, x < 256) (hvb : Vs h vb encB 1 vs) (hxb : ∀ x ∈ vs, x < 256) (hvt : Vs h vt encB 1 ws) (hxt : ∀ x ∈ ws, x < 256) :
    Fn Try.prog 3 [va, vb, vt] h fun r h' => r = .bool true ∧ ∀ b, b < h.size → h'[b]? = h[b]? := by
  obtain ⟨a0, ca, ea, _⟩ := hva.shape
  obtain ⟨b0, cb, eb, _⟩ := hvb.shape
  obtain ⟨t0, ct, et, _⟩ := hvt.shape
  subst ea eb et
  by_cases la : us.length ≤ 4000
  · by_cases lb : vs.length ≤ 4000
    · have da : decide ((4000 : Int) < us.length) = false := decide_eq_false (by omega)
      have db : decide ((4000 : Int) < vs.length) = false := decide_eq_false (by omega)
      refine Fn_c Try.func3 mixed c3 (by kernel_rfl) ?_; rw [r3]
      simp -implicitDefEqProofs (disch := first | omega | (simp only [h_szP, h_szS]; done) | (simp only [h_szP, h_szS]; omega)) only [go_sem, Nat.reduceBEq, reduceCtorEq, Nat.reduceAdd, Int.reduceEq, Int.reduceLT, Int.reduceLE, Int.reduceMul, Int.reduceAdd, Int.reduceSub, reduceIte, Nat.reduceLeDiff, Nat.reduceLT, Nat.reduceMul, Nat.reduceSub, Int.reduceToNat, s3, Try.underlying23, Try.underlying22, sl22, ze5, by5, sz5, Try.underlying3, sh5, Try.underlying5, Try.underlying26, zc34, zc38, sz34, sz38, sh34, Try.underlying34, sh38, Try.underlying38]
      refine FnK.use (mnew_c h 2 (by omega)) ?_
      intro x h1 ⟨s, M, e1, R, K1, hF, _⟩
      rw [e1]
      simp -implicitDefEqProofs (disch := first | omega | (simp only [h_szP, h_szS]; done) | (simp only [h_szP, h_szS]; omega)) only [go_sem, Nat.reduceBEq, reduceCtorEq, Nat.reduceAdd, Int.reduceEq, Int.reduceLT, Int.reduceLE, Int.reduceMul, Int.reduceAdd, Int.reduceSub, reduceIte, Nat.reduceLeDiff, Nat.reduceLT, Nat.reduceMul, Nat.reduceSub, Int.reduceToNat, s3, Try.underlying23, Try.underlying22, sl22, ze5, by5, sz5, Try.underlying3, sh5, Try.underlying5, Try.underlying26, zc34, zc38, sz34, sz38, sh34, Try.underlying34, sh38, Try.underlying38]
      refine FnK.use (mnew_c h1 2 (by omega)) ?_
      intro x h2 ⟨t, N, e2, Q, K2, hG, _⟩
      rw [e2]
      simp -implicitDefEqProofs (disch := first | omega | (simp only [h_szP, h_szS]; done) | (simp only [h_szP, h_szS]; omega)) only [go_sem, Nat.reduceBEq, reduceCtorEq, Nat.reduceAdd, Int.reduceEq, Int.reduceLT, Int.reduceLE, Int.reduceMul, Int.reduceAdd, Int.reduceSub, reduceIte, Nat.reduceLeDiff, Nat.reduceLT, Nat.reduceMul, Nat.reduceSub, Int.reduceToNat, s3, Try.underlying23, Try.underlying22, sl22, ze5, by5, sz5, Try.underlying3, sh5, Try.underlying5, Try.underlying26, zc34, zc38, sz34, sz38, sh34, Try.underlying34, sh38, Try.underlying38]
      refine FnK.use (answers10_c h2) ?_
      intro x h3 ⟨e3, K3⟩
      rw [e3]
      simp -implicitDefEqProofs (disch := first | omega | (simp only [h_szP, h_szS]; done) | (simp only [h_szP, h_szS]; omega)) only [go_sem, Nat.reduceBEq, reduceCtorEq, Nat.reduceAdd, Int.reduceEq, Int.reduceLT, Int.reduceLE, Int.reduceMul, Int.reduceAdd, Int.reduceSub, reduceIte, Nat.reduceLeDiff, Nat.reduceLT, Nat.reduceMul, Nat.reduceSub, Int.reduceToNat, s3, Try.underlying23, Try.underlying22, sl22, ze5, by5, sz5, Try.underlying3, sh5, Try.underlying5, Try.underlying26, zc34, zc38, sz34, sz38, sh34, Try.underlying34, sh38, Try.underlying38, da, db]
      have s1 := K1.size
      have s2 := K2.size
      have s3 := K3.size
      have R3 := (R.ext K2).ext K3
      have Q3 := Q.ext K3
      have ap3 : ∀ b, mfoot s M b → ¬ mfoot t N b := fun b f g => by have := R.lt f; have := hG b g; omega
      have U3 : Keeps h.size h h3 := K1.of_ext (K2.of_ext K3 (Nat.le_refl _)) (Nat.le_refl _)
      have hG' : ∀ b, mfoot t N b → h.size ≤ b := fun b f => by have := hG b f; omega
      refine FnK.use (mmap_c 4096 4096 7 true R3 (by omega) (by omega)) ?_
      intro x h4 hx
      obtain ⟨M1, R4, fx4⟩ := hx.on R3
      clear hx
      obtain ⟨Q4, ap4⟩ := Q3.apart fx4 ap3
      obtain ⟨U4, hF4⟩ := fx4.own (h0 := h) hF U3
      simp -implicitDefEqProofs (disch := first | omega | (simp only [h_szP, h_szS]; done) | (simp only [h_szP, h_szS]; omega)) only [go_sem, Nat.reduceBEq, reduceCtorEq, Nat.reduceAdd, Int.reduceEq, Int.reduceLT, Int.reduceLE, Int.reduceMul, Int.reduceAdd, Int.reduceSub, reduceIte, Nat.reduceLeDiff, Nat.reduceLT, Nat.reduceMul, Nat.reduceSub, Int.reduceToNat, s3, Try.underlying23, Try.underlying22, sl22, ze5, by5, sz5, Try.underlying3, sh5, Try.underlying5, Try.underlying26, zc34, zc38, sz34, sz38, sh34, Try.underlying34, sh38, Try.underlying38]
      refine FnK.use (mmap_c 4096 4096 7 true Q4 (by omega) (by omega)) ?_
      intro x h5 hx
      obtain ⟨N1, Q5, fx5⟩ := hx.on Q4
      clear hx
      obtain ⟨R5, ap5⟩ := R4.apart fx5 fun b f g => ap4 b g f
      obtain ⟨U5, hG5⟩ := fx5.own (h0 := h) hG' U4
      have va5 := hva.mono fun b e => U5.old b (hva.blk_lt e)
      simp -implicitDefEqProofs (disch := first | omega | (simp only [h_szP, h_szS]; done) | (simp only [h_szP, h_szS]; omega)) only [go_sem, Nat.reduceBEq, reduceCtorEq, Nat.reduceAdd, Int.reduceEq, Int.reduceLT, Int.reduceLE, Int.reduceMul, Int.reduceAdd, Int.reduceSub, reduceIte, Nat.reduceLeDiff, Nat.reduceLT, Nat.reduceMul, Nat.reduceSub, Int.reduceToNat, s3, Try.underlying23, Try.underlying22, sl22, ze5, by5, sz5, Try.underlying3, sh5, Try.underlying5, Try.underlying26, zc34, zc38, sz34, sz38, sh34, Try.underlying34, sh38, Try.underlying38]
      refine FnK.use (mput_c 4096 R5 (by omega) (by omega) va5 (fun b e f => by have := hF4 b f; have := hva.blk_lt e; omega) hxa) ?_
      intro x h6 ⟨M2, P6⟩
      have R6 := P6.g.r
      obtain ⟨Q6, ap6⟩ := Q5.apart P6.g.fx fun b f g => ap5 b g f
      obtain ⟨U6, hF6⟩ := P6.g.fx.own (h0 := h) hF4 U5
      have vb6 := hvb.mono fun b e => U6.old b (hvb.blk_lt e)
      simp -implicitDefEqProofs (disch := first | omega | (simp only [h_szP, h_szS]; done) | (simp only [h_szP, h_szS]; omega)) only [go_sem, Nat.reduceBEq, reduceCtorEq, Nat.reduceAdd, Int.reduceEq, Int.reduceLT, Int.reduceLE, Int.reduceMul, Int.reduceAdd, Int.reduceSub, reduceIte, Nat.reduceLeDiff, Nat.reduceLT, Nat.reduceMul, Nat.reduceSub, Int.reduceToNat, s3, Try.underlying23, Try.underlying22, sl22, ze5, by5, sz5, Try.underlying3, sh5, Try.underlying5, Try.underlying26, zc34, zc38, sz34, sz38, sh34, Try.underlying34, sh38, Try.underlying38]
      refine FnK.use (mput_c 4096 Q6 (by omega) (by omega) vb6 (fun b e f => by have := hG5 b f; have := hvb.blk_lt e; omega) hxb) ?_
      intro x h7 ⟨N2, P7⟩
      have Q7 := P7.g.r
      obtain ⟨R7, ap7⟩ := R6.apart P7.g.fx fun b f g => ap6 b g f
      obtain ⟨U7, hG7⟩ := P7.g.fx.own (h0 := h) hG5 U6
      have s7 := U7.size
      simp -implicitDefEqProofs (disch := first | omega | (simp only [h_szP, h_szS]; done) | (simp only [h_szP, h_szS]; omega)) only [go_sem, Nat.reduceBEq, reduceCtorEq, Nat.reduceAdd, Int.reduceEq, Int.reduceLT, Int.reduceLE, Int.reduceMul, Int.reduceAdd, Int.reduceSub, reduceIte, Nat.reduceLeDiff, Nat.reduceLT, Nat.reduceMul, Nat.reduceSub, Int.reduceToNat, s3, Try.underlying23, Try.underlying22, sl22, ze5, by5, sz5, Try.underlying3, sh5, Try.underlying5, Try.underlying26, zc34, zc38, sz34, sz38, sh34, Try.underlying34, sh38, Try.underlying38]
      refine FnK.use (cnew_c h7) ?_
      intro x h8 ⟨c, m, e8, C8, lc, lm, K8⟩
      rw [e8]
      have U8 := U7.of_ext K8 (Nat.le_refl _)
      have W8 : Two h8 s t c m M2 N2 := ⟨R7.ext K8, Q7.ext K8, fun b f g => ap7 b g f, ⟨0, _, _, C8, .inl rfl, (fun e => by cases e), (fun e => by cases e)⟩, fun f => by have := R7.lt f; omega, fun f => by have := R7.lt f; omega, fun f => by have := Q7.lt f; omega, fun f => by have := Q7.lt f; omega⟩
      simp -implicitDefEqProofs (disch := first | omega | (simp only [h_szP, h_szS]; done) | (simp only [h_szP, h_szS]; omega)) only [go_sem, Nat.reduceBEq, reduceCtorEq, Nat.reduceAdd, Int.reduceEq, Int.reduceLT, Int.reduceLE, Int.reduceMul, Int.reduceAdd, Int.reduceSub, reduceIte, Nat.reduceLeDiff, Nat.reduceLT, Nat.reduceMul, Nat.reduceSub, Int.reduceToNat, s3, Try.underlying23, Try.underlying22, sl22, ze5, by5, sz5, Try.underlying3, sh5, Try.underlying5, Try.underlying26, zc34, zc38, sz34, sz38, sh34, Try.underlying34, sh38, Try.underlying38]
      obtain ⟨I, hI⟩ : ∃ I : Nat → Fr → Heap → Prop, I = fun k fr hh => ∃ i : Nat, i + k = ws.length ∧ i ≤ 100 ∧ Two hh s t c m M2 N2 ∧ Keeps h.size h hh ∧ h7.size ≤ hh.size ∧
          fr = ((((((fr0.up 11 (.int .i64 i)).up 10 (.pointer none)).up 9 (ptr c 0)).up 8 (ptr t 0)).up 7 (ptr s 0)).up 2 (.slice t0 ws.length ct)) := ⟨_, rfl⟩
      refine LoopK.use I ws.length (by rw [hI]; exact ⟨0, by omega, by omega, W8, U8, K8.size, rfl⟩) ?_
      intro k fr hh hK
      rw [hI] at hK
      obtain ⟨i, hk, hi100, W, U, lz, hf⟩ := hK
      subst hf
      by_cases hi : i < ws.length ∧ i < 100
      · obtain ⟨hi, hi3⟩ := hi
        have hd1 : decide ((i : Int) < ws.length) = true := decide_eq_true (by omega)
        have hd2 : decide ((i : Int) < 100) = true := decide_eq_true (by omega)
        obtain ⟨tb, to, cap', e1, _, hvb'⟩ := hvt.open hi
        cases e1
        obtain ⟨w, hw⟩ : ∃ n, n = ws[i] := ⟨_, rfl⟩
        have hw1 : w < 256 := by rw [hw]; exact hxt _ (List.getElem_mem hi)
        have hE : cellO (to + i) h[tb]? = some (.int .u8 w) := by rw [hw]; have := hvt.field encB_len hi (j := 0) (by omega); simpa [encB] using this
        have hE' := U.old tb hvb'
        obtain ⟨a, ha⟩ : ∃ a, a = 4096 + w / 2 * 2 := ⟨_, rfl⟩
        have ea : (4096 : Int) + (w : Int) / 2 * 2 = (a : Int) := by omega
        by_cases qo : w % 2 = 1
        · have t1 : ((w : Int) % 2 = 1) = True := eq_true (by omega)
          simp -implicitDefEqProofs (disch := first | omega | (simp only [h_szP, h_szS]; done) | (simp only [h_szP, h_szS]; omega)) only [go_sem, Nat.reduceBEq, reduceCtorEq, Nat.reduceAdd, Int.reduceEq, Int.reduceLT, Int.reduceLE, Int.reduceMul, Int.reduceAdd, Int.reduceSub, reduceIte, Nat.reduceLeDiff, Nat.reduceLT, Nat.reduceMul, Nat.reduceSub, Int.reduceToNat, s3, Try.underlying23, Try.underlying22, sl22, ze5, by5, sz5, Try.underlying3, sh5, Try.underlying5, Try.underlying26, zc34, zc38, sz34, sz38, sh34, Try.underlying34, sh38, Try.underlying38, hd1, hd2, hE', hE, Nat.mul_one, t1, ea]
          refine FnK.use (W.flip.fetch1 a (by omega)) ?_
          intro x h9 ⟨e9, W9, z9, o9⟩
          obtain ⟨RR, hRR⟩ : ∃ RR, RR = readF N2.rs (memAt N2) a := ⟨_, rfl⟩
          rw [← hRR] at e9
          rw [e9]
          simp -implicitDefEqProofs (disch := first | omega | (simp only [h_szP, h_szS]; done) | (simp only [h_szP, h_szS]; omega)) only [go_sem, Nat.reduceBEq, reduceCtorEq, Nat.reduceAdd, Int.reduceEq, Int.reduceLT, Int.reduceLE, Int.reduceMul, Int.reduceAdd, Int.reduceSub, reduceIte, Nat.reduceLeDiff, Nat.reduceLT, Nat.reduceMul, Nat.reduceSub, Int.reduceToNat, s3, Try.underlying23, Try.underlying22, sl22, ze5, by5, sz5, Try.underlying3, sh5, Try.underlying5, Try.underlying26, zc34, zc38, sz34, sz38, sh34, Try.underlying34, sh38, Try.underlying38, InstR.v, StopR.v]
          obtain ⟨X, eX⟩ : ∃ X, X = (h9.push (.cells #[.int .i64 RR.1.op, .int .i64 RR.1.rd, .int .i64 RR.1.rs1, .int .i64 RR.1.rs2, .int .i64 RR.1.imm, .int .i64 RR.1.order, .int .i64 RR.1.size] 34)).push (.cells #[.int .i64 RR.2.kind, .int .i64 RR.2.fk, .int .u64 RR.2.fa] 38) := ⟨_, rfl⟩
          have p0 : X[h9.size]? = some (.cells #[.int .i64 RR.1.op, .int .i64 RR.1.rd, .int .i64 RR.1.rs1, .int .i64 RR.1.rs2, .int .i64 RR.1.imm, .int .i64 RR.1.order, .int .i64 RR.1.size] 34 (0, 0)) := by rw [eX]; simp -implicitDefEqProofs (disch := first | omega | (simp only [h_szP, h_szS]; done) | (simp only [h_szP, h_szS]; omega)) only [go_sem, Nat.reduceBEq, reduceCtorEq, Nat.reduceAdd, Int.reduceEq, Int.reduceLT, Int.reduceLE, Int.reduceMul, Int.reduceAdd, Int.reduceSub, reduceIte, Nat.reduceLeDiff, Nat.reduceLT, Nat.reduceMul, Nat.reduceSub, Int.reduceToNat]
          have p1 : X[h9.size + 1]? = some (.cells #[.int .i64 RR.2.kind, .int .i64 RR.2.fk, .int .u64 RR.2.fa] 38 (0, 0)) := by rw [eX]; simp -implicitDefEqProofs (disch := first | omega | (simp only [h_szP, h_szS]; done) | (simp only [h_szP, h_szS]; omega)) only [go_sem, Nat.reduceBEq, reduceCtorEq, Nat.reduceAdd, Int.reduceEq, Int.reduceLT, Int.reduceLE, Int.reduceMul, Int.reduceAdd, Int.reduceSub, reduceIte, Nat.reduceLeDiff, Nat.reduceLT, Nat.reduceMul, Nat.reduceSub, Int.reduceToNat]
          have zX : X.size = h9.size + 2 := by rw [eX]; simp
          have KX : Keeps h9.size h9 X := by rw [eX]; exact (Keeps.push _ _ (Nat.le_refl _)).push' (Nat.le_refl _)
          rw [← eX]
          refine FnK.use (cfetch_nil a (W9.r.ext KX) (by omega)) ?_
          intro x g1 ⟨f1, L1⟩
          rw [← hRR] at f1
          rw [f1]
          have q0 := L1.at p0 (by omega)
          have q1 := L1.at p1 (by omega)
          have lq0 := getElem?_lt q0
          have lq1 := getElem?_lt q1
          have L2 := KX.of_ext L1 (Nat.le_refl _)
          obtain ⟨G, eG⟩ : ∃ G, G = (g1.push (.cells #[.int .i64 RR.1.op, .int .i64 RR.1.rd, .int .i64 RR.1.rs1, .int .i64 RR.1.rs2, .int .i64 RR.1.imm, .int .i64 RR.1.order, .int .i64 RR.1.size] 34)).push (.cells #[.int .i64 RR.2.kind, .int .i64 RR.2.fk, .int .u64 RR.2.fa] 38) := ⟨_, rfl⟩
          have LG : Keeps h9.size h9 G := by rw [eG]; exact (L2.push' (Nat.le_refl _)).push' (Nat.le_refl _)
          simp -implicitDefEqProofs (disch := first | omega | (simp only [h_szP, h_szS]; done) | (simp only [h_szP, h_szS]; omega)) only [go_sem, Nat.reduceBEq, reduceCtorEq, Nat.reduceAdd, Int.reduceEq, Int.reduceLT, Int.reduceLE, Int.reduceMul, Int.reduceAdd, Int.reduceSub, reduceIte, Nat.reduceLeDiff, Nat.reduceLT, Nat.reduceMul, Nat.reduceSub, Int.reduceToNat, s3, Try.underlying23, Try.underlying22, sl22, ze5, by5, sz5, Try.underlying3, sh5, Try.underlying5, Try.underlying26, zc34, zc38, sz34, sz38, sh34, Try.underlying34, sh38, Try.underlying38, InstR.v, StopR.v, q0, q1, ne_instU, ne_stopU]
          rw [← eG]
          refine ⟨k - 1, by omega, ?_⟩
          rw [hI]
          exact ⟨i + 1, by omega, by omega, W9.flip.ext LG, ⟨by have := U.size; have := LG.size; omega, fun b hb => by rw [LG.old b (by have := U.size; omega), o9 b (by have := U.size; omega) (by omega) (by omega), U.old b hb]⟩, by have := LG.size; omega, rfl⟩
        · have t1 : ((w : Int) % 2 = 1) = False := eq_false (by omega)
          simp -implicitDefEqProofs (disch := first | omega | (simp only [h_szP, h_szS]; done) | (simp only [h_szP, h_szS]; omega)) only [go_sem, Nat.reduceBEq, reduceCtorEq, Nat.reduceAdd, Int.reduceEq, Int.reduceLT, Int.reduceLE, Int.reduceMul, Int.reduceAdd, Int.reduceSub, reduceIte, Nat.reduceLeDiff, Nat.reduceLT, Nat.reduceMul, Nat.reduceSub, Int.reduceToNat, s3, Try.underlying23, Try.underlying22, sl22, ze5, by5, sz5, Try.underlying3, sh5, Try.underlying5, Try.underlying26, zc34, zc38, sz34, sz38, sh34, Try.underlying34, sh38, Try.underlying38, hd1, hd2, hE', hE, Nat.mul_one, t1, ea]
          refine FnK.use (W.fetch1 a (by omega)) ?_
          intro x h9 ⟨e9, W9, z9, o9⟩
          obtain ⟨RR, hRR⟩ : ∃ RR, RR = readF M2.rs (memAt M2) a := ⟨_, rfl⟩
          rw [← hRR] at e9
          rw [e9]
          simp -implicitDefEqProofs (disch := first | omega | (simp only [h_szP, h_szS]; done) | (simp only [h_szP, h_szS]; omega)) only [go_sem, Nat.reduceBEq, reduceCtorEq, Nat.reduceAdd, Int.reduceEq, Int.reduceLT, Int.reduceLE, Int.reduceMul, Int.reduceAdd, Int.reduceSub, reduceIte, Nat.reduceLeDiff, Nat.reduceLT, Nat.reduceMul, Nat.reduceSub, Int.reduceToNat, s3, Try.underlying23, Try.underlying22, sl22, ze5, by5, sz5, Try.underlying3, sh5, Try.underlying5, Try.underlying26, zc34, zc38, sz34, sz38, sh34, Try.underlying34, sh38, Try.underlying38, InstR.v, StopR.v]
          obtain ⟨X, eX⟩ : ∃ X, X = (h9.push (.cells #[.int .i64 RR.1.op, .int .i64 RR.1.rd, .int .i64 RR.1.rs1, .int .i64 RR.1.rs2, .int .i64 RR.1.imm, .int .i64 RR.1.order, .int .i64 RR.1.size] 34)).push (.cells #[.int .i64 RR.2.kind, .int .i64 RR.2.fk, .int .u64 RR.2.fa] 38) := ⟨_, rfl⟩
          have p0 : X[h9.size]? = some (.cells #[.int .i64 RR.1.op, .int .i64 RR.1.rd, .int .i64 RR.1.rs1, .int .i64 RR.1.rs2, .int .i64 RR.1.imm, .int .i64 RR.1.order, .int .i64 RR.1.size] 34 (0, 0)) := by rw [eX]; simp -implicitDefEqProofs (disch := first | omega | (simp only [h_szP, h_szS]; done) | (simp only [h_szP, h_szS]; omega)) only [go_sem, Nat.reduceBEq, reduceCtorEq, Nat.reduceAdd, Int.reduceEq, Int.reduceLT, Int.reduceLE, Int.reduceMul, Int.reduceAdd, Int.reduceSub, reduceIte, Nat.reduceLeDiff, Nat.reduceLT, Nat.reduceMul, Nat.reduceSub, Int.reduceToNat]
          have p1 : X[h9.size + 1]? = some (.cells #[.int .i64 RR.2.kind, .int .i64 RR.2.fk, .int .u64 RR.2.fa] 38 (0, 0)) := by rw [eX]; simp -implicitDefEqProofs (disch := first | omega | (simp only [h_szP, h_szS]; done) | (simp only [h_szP, h_szS]; omega)) only [go_sem, Nat.reduceBEq, reduceCtorEq, Nat.reduceAdd, Int.reduceEq, Int.reduceLT, Int.reduceLE, Int.reduceMul, Int.reduceAdd, Int.reduceSub, reduceIte, Nat.reduceLeDiff, Nat.reduceLT, Nat.reduceMul, Nat.reduceSub, Int.reduceToNat]
          have zX : X.size = h9.size + 2 := by rw [eX]; simp
          have KX : Keeps h9.size h9 X := by rw [eX]; exact (Keeps.push _ _ (Nat.le_refl _)).push' (Nat.le_refl _)
          rw [← eX]
          refine FnK.use (cfetch_nil a (W9.r.ext KX) (by omega)) ?_
          intro x g1 ⟨f1, L1⟩
          rw [← hRR] at f1
          rw [f1]
          have q0 := L1.at p0 (by omega)
          have q1 := L1.at p1 (by omega)
          have lq0 := getElem?_lt q0
          have lq1 := getElem?_lt q1
          have L2 := KX.of_ext L1 (Nat.le_refl _)
          obtain ⟨G, eG⟩ : ∃ G, G = (g1.push (.cells #[.int .i64 RR.1.op, .int .i64 RR.1.rd, .int .i64 RR.1.rs1, .int .i64 RR.1.rs2, .int .i64 RR.1.imm, .int .i64 RR.1.order, .int .i64 RR.1.size] 34)).push (.cells #[.int .i64 RR.2.kind, .int .i64 RR.2.fk, .int .u64 RR.2.fa] 38) := ⟨_, rfl⟩
          have LG : Keeps h9.size h9 G := by rw [eG]; exact (L2.push' (Nat.le_refl _)).push' (Nat.le_refl _)
          simp -implicitDefEqProofs (disch := first | omega | (simp only [h_szP, h_szS]; done) | (simp only [h_szP, h_szS]; omega)) only [go_sem, Nat.reduceBEq, reduceCtorEq, Nat.reduceAdd, Int.reduceEq, Int.reduceLT, Int.reduceLE, Int.reduceMul, Int.reduceAdd, Int.reduceSub, reduceIte, Nat.reduceLeDiff, Nat.reduceLT, Nat.reduceMul, Nat.reduceSub, Int.reduceToNat, s3, Try.underlying23, Try.underlying22, sl22, ze5, by5, sz5, Try.underlying3, sh5, Try.underlying5, Try.underlying26, zc34, zc38, sz34, sz38, sh34, Try.underlying34, sh38, Try.underlying38, InstR.v, StopR.v, q0, q1, ne_instU, ne_stopU]
          rw [← eG]
          refine ⟨k - 1, by omega, ?_⟩
          rw [hI]
          exact ⟨i + 1, by omega, by omega, W9.ext LG, ⟨by have := U.size; have := LG.size; omega, fun b hb => by rw [LG.old b (by have := U.size; omega), o9 b (by have := U.size; omega) (by omega) (by omega), U.old b hb]⟩, by have := LG.size; omega, rfl⟩
      · have dd : (decide ((i : Int) < ws.length) = true ∧ decide ((i : Int) < 100) = false) ∨ decide ((i : Int) < ws.length) = false := by
          by_cases q : i < ws.length
          · left; exact ⟨decide_eq_true (by omega), decide_eq_false (by omega)⟩
          · right; exact decide_eq_false (by omega)
        rcases dd with ⟨hd1, hd2⟩ | hd1
        · simp -implicitDefEqProofs (disch := first | omega | (simp only [h_szP, h_szS]; done) | (simp only [h_szP, h_szS]; omega)) only [go_sem, Nat.reduceBEq, reduceCtorEq, Nat.reduceAdd, Int.reduceEq, Int.reduceLT, Int.reduceLE, Int.reduceMul, Int.reduceAdd, Int.reduceSub, reduceIte, Nat.reduceLeDiff, Nat.reduceLT, Nat.reduceMul, Nat.reduceSub, Int.reduceToNat, s3, Try.underlying23, Try.underlying22, sl22, ze5, by5, sz5, Try.underlying3, sh5, Try.underlying5, Try.underlying26, zc34, zc38, sz34, sz38, sh34, Try.underlying34, sh38, Try.underlying38, hd1, hd2]
          exact U.old
        · simp -implicitDefEqProofs (disch := first | omega | (simp only [h_szP, h_szS]; done) | (simp only [h_szP, h_szS]; omega)) only [go_sem, Nat.reduceBEq, reduceCtorEq, Nat.reduceAdd, Int.reduceEq, Int.reduceLT, Int.reduceLE, Int.reduceMul, Int.reduceAdd, Int.reduceSub, reduceIte, Nat.reduceLeDiff, Nat.reduceLT, Nat.reduceMul, Nat.reduceSub, Int.reduceToNat, s3, Try.underlying23, Try.underlying22, sl22, ze5, by5, sz5, Try.underlying3, sh5, Try.underlying5, Try.underlying26, zc34, zc38, sz34, sz38, sh34, Try.underlying34, sh38, Try.underlying38, hd1]
          exact U.old
    · have da : decide ((4000 : Int) < us.length) = false := decide_eq_false (by omega)
      have db : decide ((4000 : Int) < vs.length) = true := decide_eq_true (by omega)
      refine Fn_c Try.func3 mixed c3 (by kernel_rfl) ?_; rw [r3]
      simp -implicitDefEqProofs (disch := first | omega | (simp only [h_szP, h_szS]; done) | (simp only [h_szP, h_szS]; omega)) only [go_sem, Nat.reduceBEq, reduceCtorEq, Nat.reduceAdd, Int.reduceEq, Int.reduceLT, Int.reduceLE, Int.reduceMul, Int.reduceAdd, Int.reduceSub, reduceIte, Nat.reduceLeDiff, Nat.reduceLT, Nat.reduceMul, Nat.reduceSub, Int.reduceToNat, s3, Try.underlying23, Try.underlying22, sl22, ze5, by5, sz5, Try.underlying3, sh5, Try.underlying5, Try.underlying26, zc34, zc38, sz34, sz38, sh34, Try.underlying34, sh38, Try.underlying38]
      refine FnK.use (mnew_c h 2 (by omega)) ?_
      intro x h1 ⟨s, M, e1, R, K1, hF, _⟩
      rw [e1]
      simp -implicitDefEqProofs (disch := first | omega | (simp only [h_szP, h_szS]; done) | (simp only [h_szP, h_szS]; omega)) only [go_sem, Nat.reduceBEq, reduceCtorEq, Nat.reduceAdd, Int.reduceEq, Int.reduceLT, Int.reduceLE, Int.reduceMul, Int.reduceAdd, Int.reduceSub, reduceIte, Nat.reduceLeDiff, Nat.reduceLT, Nat.reduceMul, Nat.reduceSub, Int.reduceToNat, s3, Try.underlying23, Try.underlying22, sl22, ze5, by5, sz5, Try.underlying3, sh5, Try.underlying5, Try.underlying26, zc34, zc38, sz34, sz38, sh34, Try.underlying34, sh38, Try.underlying38]
      refine FnK.use (mnew_c h1 2 (by omega)) ?_
      intro x h2 ⟨t, N, e2, Q, K2, hG, _⟩
      rw [e2]
      simp -implicitDefEqProofs (disch := first | omega | (simp only [h_szP, h_szS]; done) | (simp only [h_szP, h_szS]; omega)) only [go_sem, Nat.reduceBEq, reduceCtorEq, Nat.reduceAdd, Int.reduceEq, Int.reduceLT, Int.reduceLE, Int.reduceMul, Int.reduceAdd, Int.reduceSub, reduceIte, Nat.reduceLeDiff, Nat.reduceLT, Nat.reduceMul, Nat.reduceSub, Int.reduceToNat, s3, Try.underlying23, Try.underlying22, sl22, ze5, by5, sz5, Try.underlying3, sh5, Try.underlying5, Try.underlying26, zc34, zc38, sz34, sz38, sh34, Try.underlying34, sh38, Try.underlying38]
      refine FnK.use (answers10_c h2) ?_
      intro x h3 ⟨e3, K3⟩
      rw [e3]
      simp -implicitDefEqProofs (disch := first | omega | (simp only [h_szP, h_szS]; done) | (simp only [h_szP, h_szS]; omega)) only [go_sem, Nat.reduceBEq, reduceCtorEq, Nat.reduceAdd, Int.reduceEq, Int.reduceLT, Int.reduceLE, Int.reduceMul, Int.reduceAdd, Int.reduceSub, reduceIte, Nat.reduceLeDiff, Nat.reduceLT, Nat.reduceMul, Nat.reduceSub, Int.reduceToNat, s3, Try.underlying23, Try.underlying22, sl22, ze5, by5, sz5, Try.underlying3, sh5, Try.underlying5, Try.underlying26, zc34, zc38, sz34, sz38, sh34, Try.underlying34, sh38, Try.underlying38, da, db]
      refine FnK.use (answers10_c h3) ?_
      intro x h4 ⟨e4, K4⟩
      rw [e4]
      simp -implicitDefEqProofs (disch := first | omega | (simp only [h_szP, h_szS]; done) | (simp only [h_szP, h_szS]; omega)) only [go_sem, Nat.reduceBEq, reduceCtorEq, Nat.reduceAdd, Int.reduceEq, Int.reduceLT, Int.reduceLE, Int.reduceMul, Int.reduceAdd, Int.reduceSub, reduceIte, Nat.reduceLeDiff, Nat.reduceLT, Nat.reduceMul, Nat.reduceSub, Int.reduceToNat, s3, Try.underlying23, Try.underlying22, sl22, ze5, by5, sz5, Try.underlying3, sh5, Try.underlying5, Try.underlying26, zc34, zc38, sz34, sz38, sh34, Try.underlying34, sh38, Try.underlying38]
      exact fun b hb => (K1.of_ext (K2.of_ext (K3.of_ext K4 (Nat.le_refl _)) (Nat.le_refl _)) (Nat.le_refl _)).old b hb
  · have da : decide ((4000 : Int) < us.length) = true := decide_eq_true (by omega)
    refine Fn_c Try.func3 mixed c3 (by kernel_rfl) ?_; rw [r3]
    simp -implicitDefEqProofs (disch := first | omega | (simp only [h_szP, h_szS]; done) | (simp only [h_szP, h_szS]; omega)) only [go_sem, Nat.reduceBEq, reduceCtorEq, Nat.reduceAdd, Int.reduceEq, Int.reduceLT, Int.reduceLE, Int.reduceMul, Int.reduceAdd, Int.reduceSub, reduceIte, Nat.reduceLeDiff, Nat.reduceLT, Nat.reduceMul, Nat.reduceSub, Int.reduceToNat, s3, Try.underlying23, Try.underlying22, sl22, ze5, by5, sz5, Try.underlying3, sh5, Try.underlying5, Try.underlying26, zc34, zc38, sz34, sz38, sh34, Try.underlying34, sh38, Try.underlying38]
    refine FnK.use (mnew_c h 2 (by omega)) ?_
    intro x h1 ⟨s, M, e1, R, K1, hF, _⟩
    rw [e1]
    simp -implicitDefEqProofs (disch := first | omega | (simp only [h_szP, h_szS]; done) | (simp only [h_szP, h_szS]; omega)) only [go_sem, Nat.reduceBEq, reduceCtorEq, Nat.reduceAdd, Int.reduceEq, Int.reduceLT, Int.reduceLE, Int.reduceMul, Int.reduceAdd, Int.reduceSub, reduceIte, Nat.reduceLeDiff, Nat.reduceLT, Nat.reduceMul, Nat.reduceSub, Int.reduceToNat, s3, Try.underlying23, Try.underlying22, sl22, ze5, by5, sz5, Try.underlying3, sh5, Try.underlying5, Try.underlying26, zc34, zc38, sz34, sz38, sh34, Try.underlying34, sh38, Try.underlying38]
    refine FnK.use (mnew_c h1 2 (by omega)) ?_
    intro x h2 ⟨t, N, e2, Q, K2, hG, _⟩
    rw [e2]
    simp -implicitDefEqProofs (disch := first | omega | (simp only [h_szP, h_szS]; done) | (simp only [h_szP, h_szS]; omega)) only [go_sem, Nat.reduceBEq, reduceCtorEq, Nat.reduceAdd, Int.reduceEq, Int.reduceLT, Int.reduceLE, Int.reduceMul, Int.reduceAdd, Int.reduceSub, reduceIte, Nat.reduceLeDiff, Nat.reduceLT, Nat.reduceMul, Nat.reduceSub, Int.reduceToNat, s3, Try.underlying23, Try.underlying22, sl22, ze5, by5, sz5, Try.underlying3, sh5, Try.underlying5, Try.underlying26, zc34, zc38, sz34, sz38, sh34, Try.underlying34, sh38, Try.underlying38]
    refine FnK.use (answers10_c h2) ?_
    intro x h3 ⟨e3, K3⟩
    rw [e3]
    simp -implicitDefEqProofs (disch := first | omega | (simp only [h_szP, h_szS]; done) | (simp only [h_szP, h_szS]; omega)) only [go_sem, Nat.reduceBEq, reduceCtorEq, Nat.reduceAdd, Int.reduceEq, Int.reduceLT, Int.reduceLE, Int.reduceMul, Int.reduceAdd, Int.reduceSub, reduceIte, Nat.reduceLeDiff, Nat.reduceLT, Nat.reduceMul, Nat.reduceSub, Int.reduceToNat, s3, Try.underlying23, Try.underlying22, sl22, ze5, by5, sz5, Try.underlying3, sh5, Try.underlying5, Try.underlying26, zc34, zc38, sz34, sz38, sh34, Try.underlying34, sh38, Try.underlying38, da]
    refine FnK.use (answers10_c h3) ?_
    intro x h4 ⟨e4, K4⟩
    rw [e4]
    simp -implicitDefEqProofs (disch := first | omega | (simp only [h_szP, h_szS]; done) | (simp only [h_szP, h_szS]; omega)) only [go_sem, Nat.reduceBEq, reduceCtorEq, Nat.reduceAdd, Int.reduceEq, Int.reduceLT, Int.reduceLE, Int.reduceMul, Int.reduceAdd, Int.reduceSub, reduceIte, Nat.reduceLeDiff, Nat.reduceLT, Nat.reduceMul, Nat.reduceSub, Int.reduceToNat, s3, Try.underlying23, Try.underlying22, sl22, ze5, by5, sz5, Try.underlying3, sh5, Try.underlying5, Try.underlying26, zc34, zc38, sz34, sz38, sh34, Try.underlying34, sh38, Try.underlying38]
    exact fun b hb => (K1.of_ext (K2.of_ext (K3.of_ext K4 (Nat.le_refl _)) (Nat.le_refl _)) (Nat.le_refl _)).old b hb
end Go.SX.G
