/- The reference's space, page by page: how it is laid. No condition but on sizes. -/
import Derived.Test.YteoiokeiddlchaaGreatMemH
import Derived.Test.YteoiokeiddlchaaGreatBytes
set_option linter.unusedVariables false
set_option linter.unusedSimpArgs false
namespace Go.SX.G
open Go Go.SX Go.Proofs
set_option maxRecDepth 100000
set_option maxHeartbeats 1000000
/-- a page of the reference: its number, what it may, the block of its bytes. -/
structure Pg where
  no : Nat
  prot : Nat
  blk : Nat
def encPg (p : Pg) : List Value := [.int .u64 p.no, .int .i64 p.prot, .slice (some ⟨p.blk, 0, none⟩) 4096 4096]
theorem encPg_len (p : Pg) : (encPg p).length = 3 := rfl
theorem elPg : ElT Tryz.prog 74 81 3 40 (.agg #[.int .u64 0, .int .i64 0, .slice none 0 0]) := ⟨sl74, by81, by decide, ze81, rfl, by rw [Tryz.underlying74]; rfl⟩
/-- all of them, when the span lies behind them. -/
theorem pwithout_c {h : Heap} {v : Value} {ps : List Pg} (s e sp : Nat) (m b f : Value) (ht : h[sp]? = some (.cells #[v, m, b, f] 76 (0, 0))) (hv : Vs h v encPg 3 ps) (hl : ps.length ≤ 1000000) (hs : ∀ p ∈ ps, p.no < 100000000 ∧ p.no * 4096 < s) :
    Fn Tryz.prog 26 [ptr sp 0, .int .u64 s, .int .u64 e] h fun r h' => Ss h' h.size r 81 encPg 3 ps ∧ Keeps h.size h h' := by
  obtain ⟨a, cap, e1, hcap⟩ := hv.shape
  subst e1
  have hsp := getElem?_lt ht
  refine Fn_c Tryz.func26 mixed c26 (by kernel_rfl) ?_; rw [r26]
  simp -implicitDefEqProofs (disch := first | omega | (simp only [h_szP, h_szS]; done) | (simp only [h_szP, h_szS]; omega)) only [go_sem, Nat.reduceBEq, reduceCtorEq, Nat.reduceAdd, Int.reduceEq, Int.reduceLT, Int.reduceLE, Int.reduceMul, Int.reduceAdd, Int.reduceSub, reduceIte, Nat.reduceLeDiff, Nat.reduceLT, Nat.reduceMul, Nat.reduceSub, Int.reduceToNat, s26, fo76_0, sh74, Tryz.underlying74, sl74, ze81, by81, sz81, Tryz.underlying3, fo81_0, sh22, Tryz.underlying22, sh81, ht]
  obtain ⟨I, hI⟩ : ∃ I : Nat → Fr → Heap → Prop, I = fun k fr h1 => ∃ i vo, i + k = ps.length ∧ Keeps h.size h h1 ∧ Ss h1 h.size vo 81 encPg 3 (ps.take i) ∧
      fr = (((((fr0.up 8 (.int .i64 i)).up 7 vo).up 2 (.int .u64 e)).up 1 (.int .u64 s)).up 0 (ptr sp 0)) := ⟨_, rfl⟩
  refine LoopK.use I ps.length (by rw [hI]; exact ⟨0, _, by omega, Keeps.refl', Ss.nil _ _ _, rfl⟩) ?_
  intro k fr h1 hK
  rw [hI] at hK
  obtain ⟨i, vo, hk, K1, S1, hf⟩ := hK
  subst hf
  have ht1 := K1.at ht hsp
  by_cases hi : i < ps.length
  · obtain ⟨b, o, cap', e1, hcap', hb⟩ := hv.open hi
    cases e1
    obtain ⟨r, hr⟩ : ∃ r, r = ps[i] := ⟨_, rfl⟩
    have hE : cellsO (o + i * 3) 3 h[b]? = some [.int .u64 r.no, .int .i64 r.prot, .slice (some ⟨r.blk, 0, none⟩) 4096 4096] := by rw [hr]; exact hv.elem encPg_len hi
    have hE0 : cellO (o + i * 3) h[b]? = some (.int .u64 r.no) := by rw [hr]; exact hv.field encPg_len hi (j := 0) (by omega)
    have hE' := K1.old b hb
    have hrs := hs r (by rw [hr]; exact List.getElem_mem hi)
    have hlt : decide ((i : Int) < ps.length) = true := decide_eq_true (by omega)
    have hw : IntKind.u64.wrap ((r.no : Int) * 4096) = ((r.no * 4096 : Nat) : Int) := by rw [wrap_u64]; omega
    have hd : decide (((r.no * 4096 : Nat) : Int) < s) = true := decide_eq_true (by omega)
    have hsz := K1.size
    simp -implicitDefEqProofs (disch := first | omega | (simp only [h_szP, h_szS]; done) | (simp only [h_szP, h_szS]; omega)) only [go_sem, Nat.reduceBEq, reduceCtorEq, Nat.reduceAdd, Int.reduceEq, Int.reduceLT, Int.reduceLE, Int.reduceMul, Int.reduceAdd, Int.reduceSub, reduceIte, Nat.reduceLeDiff, Nat.reduceLT, Nat.reduceMul, Nat.reduceSub, Int.reduceToNat, s26, fo76_0, sh74, Tryz.underlying74, sl74, ze81, by81, sz81, Tryz.underlying3, fo81_0, sh22, Tryz.underlying22, sh81, ht1, hE', hE, hE0, hlt, hw, hd]
    refine app_push r elPg encPg_len S1 rfl rfl rfl (by rw [List.length_take]; omega) K1.1 ?_
    intro v' h' S' K' F' B'
    simp -implicitDefEqProofs (disch := first | omega | (simp only [h_szP, h_szS]; done) | (simp only [h_szP, h_szS]; omega)) only [go_sem, Nat.reduceBEq, reduceCtorEq, Nat.reduceAdd, Int.reduceEq, Int.reduceLT, Int.reduceLE, Int.reduceMul, Int.reduceAdd, Int.reduceSub, reduceIte, Nat.reduceLeDiff, Nat.reduceLT, Nat.reduceMul, Nat.reduceSub, Int.reduceToNat, s26, fo76_0, sh74, Tryz.underlying74, sl74, ze81, by81, sz81, Tryz.underlying3, fo81_0, sh22, Tryz.underlying22, sh81]
    refine ⟨k - 1, by omega, ?_⟩
    rw [hI]
    rw [hr, ← take_snoc _ _ hi] at S'
    exact ⟨i + 1, v', by omega, K1.trans K', S', rfl⟩
  · have e1 : i = ps.length := by omega
    subst e1
    simp -implicitDefEqProofs (disch := first | omega | (simp only [h_szP, h_szS]; done) | (simp only [h_szP, h_szS]; omega)) only [go_sem, Nat.reduceBEq, reduceCtorEq, Nat.reduceAdd, Int.reduceEq, Int.reduceLT, Int.reduceLE, Int.reduceMul, Int.reduceAdd, Int.reduceSub, reduceIte, Nat.reduceLeDiff, Nat.reduceLT, Nat.reduceMul, Nat.reduceSub, Int.reduceToNat, s26, fo76_0, sh74, Tryz.underlying74, sl74, ze81, by81, sz81, Tryz.underlying3, fo81_0, sh22, Tryz.underlying22, sh81, ht1]
    rw [List.take_length] at S1
    exact ⟨S1, K1⟩
/-- regions are at most as many as pages. -/
theorem pregions_c {h : Heap} {v : Value} {ps : List Pg} (hv : Vs h v encPg 3 ps) (hl : ps.length ≤ 1000000) (hs : ∀ p ∈ ps, p.no < 100000000) :
    Fn Tryz.prog 27 [v] h fun r h' => (∃ rs : List Reg, rs.length ≤ ps.length ∧ Ss h' h.size r 85 encR 3 rs) ∧ Keeps h.size h h' := by
  obtain ⟨a, cap, e1, hcap⟩ := hv.shape
  subst e1
  refine Fn_c Tryz.func27 mixed c27 (by kernel_rfl) ?_; rw [r27]
  simp -implicitDefEqProofs (disch := first | omega | (simp only [h_szP, h_szS]; done) | (simp only [h_szP, h_szS]; omega)) only [go_sem, Nat.reduceBEq, reduceCtorEq, Nat.reduceAdd, Int.reduceEq, Int.reduceLT, Int.reduceLE, Int.reduceMul, Int.reduceAdd, Int.reduceSub, reduceIte, Nat.reduceLeDiff, Nat.reduceLT, Nat.reduceMul, Nat.reduceSub, Int.reduceToNat, s27, Tryz.underlying74, sl74, ze81, by81, sz81, Tryz.underlying3, Tryz.underlying82, sl82, ze85, by85, sz85, fo81_0, sh22, Tryz.underlying22, fo85_1, fo85_2, sh3, fo81_1, sz22, zc85, sd85, pl85_0, pl85_1, pl85_2]
  obtain ⟨I, hI⟩ : ∃ I : Nat → Fr → Heap → Prop, I = fun k fr h1 => ∃ (i : Nat) (vo : Value) (rs : List Reg), i + k = ps.length ∧ rs.length ≤ i ∧ Keeps h.size h h1 ∧ Ss h1 h.size vo 85 encR 3 rs ∧
      fr = (((fr0.up 4 (.int .i64 i)).up 3 vo).up 0 (.slice a ps.length cap)) := ⟨_, rfl⟩
  refine LoopK.use I ps.length (by rw [hI]; exact ⟨0, _, [], by omega, by simp, Keeps.refl', Ss.nil _ _ _, rfl⟩) ?_
  intro k fr h1 hK
  rw [hI] at hK
  obtain ⟨i, vo, rs, hk, hrl, K1, S1, hf⟩ := hK
  subst hf
  by_cases hi : i < ps.length
  · obtain ⟨b, o, cap', e1, hcap', hb⟩ := hv.open hi
    cases e1
    obtain ⟨r, hr⟩ : ∃ r, r = ps[i] := ⟨_, rfl⟩
    have hE0 : cellO (o + i * 3) h[b]? = some (.int .u64 r.no) := by rw [hr]; exact hv.field encPg_len hi (j := 0) (by omega)
    have hE1 : cellO (o + i * 3 + 1) h[b]? = some (.int .i64 r.prot) := by rw [hr]; exact hv.field encPg_len hi (j := 1) (by omega)
    have hE' := K1.old b hb
    have hrs := hs r (by rw [hr]; exact List.getElem_mem hi)
    have hlt : decide ((i : Int) < ps.length) = true := decide_eq_true (by omega)
    have hw : IntKind.u64.wrap ((r.no : Int) * 4096) = ((r.no * 4096 : Nat) : Int) := by rw [wrap_u64]; omega
    have hw2 : IntKind.u64.wrap (((r.no * 4096 : Nat) : Int) + 4096) = ((r.no * 4096 + 4096 : Nat) : Int) := by rw [wrap_u64]; omega
    have hsz := K1.size
    have hap : ∀ {K : Value → Heap → Prop}, (∀ v' h', Ss h' h.size v' 85 encR 3 (rs ++ [⟨r.no * 4096, r.no * 4096 + 4096, r.prot⟩]) → Keeps h.size h h' → K v' h') →
        @appK Tryz.prog (h1.push (.cells #[.int .u64 (r.no * 4096 : Nat), .int .u64 (r.no * 4096 + 4096 : Nat), .int .i64 r.prot] 85)) 82 82 vo (.slice (some ⟨h1.size, 0, none⟩) 1 1) ⟨K⟩ := by
      intro K hk
      refine app_push ⟨r.no * 4096, r.no * 4096 + 4096, r.prot⟩ elR encR_len S1 rfl rfl rfl (by omega) K1.1 ?_
      intro v' h' S' K' F' B'
      exact hk v' h' S' (K1.trans K')
    rcases List.eq_nil_or_concat rs with hn | ⟨out, q, hn⟩
    · obtain ⟨ao, co, e2, hco⟩ := S1.vs.shape
      rw [hn] at e2
      subst e2
      simp -implicitDefEqProofs (disch := first | omega | (simp only [h_szP, h_szS]; done) | (simp only [h_szP, h_szS]; omega)) only [go_sem, Nat.reduceBEq, reduceCtorEq, Nat.reduceAdd, Int.reduceEq, Int.reduceLT, Int.reduceLE, Int.reduceMul, Int.reduceAdd, Int.reduceSub, reduceIte, Nat.reduceLeDiff, Nat.reduceLT, Nat.reduceMul, Nat.reduceSub, Int.reduceToNat, s27, Tryz.underlying74, sl74, ze81, by81, sz81, Tryz.underlying3, Tryz.underlying82, sl82, ze85, by85, sz85, fo81_0, sh22, Tryz.underlying22, fo85_1, fo85_2, sh3, fo81_1, sz22, zc85, sd85, pl85_0, pl85_1, pl85_2, hE', hE0, hE1, hlt, hw, hw2]
      refine hap ?_
      intro v' h' S' K'
      simp -implicitDefEqProofs (disch := first | omega | (simp only [h_szP, h_szS]; done) | (simp only [h_szP, h_szS]; omega)) only [go_sem, Nat.reduceBEq, reduceCtorEq, Nat.reduceAdd, Int.reduceEq, Int.reduceLT, Int.reduceLE, Int.reduceMul, Int.reduceAdd, Int.reduceSub, reduceIte, Nat.reduceLeDiff, Nat.reduceLT, Nat.reduceMul, Nat.reduceSub, Int.reduceToNat, s27, Tryz.underlying74, sl74, ze81, by81, sz81, Tryz.underlying3, Tryz.underlying82, sl82, ze85, by85, sz85, fo81_0, sh22, Tryz.underlying22, fo85_1, fo85_2, sh3, fo81_1, sz22, zc85, sd85, pl85_0, pl85_1, pl85_2]
      refine ⟨k - 1, by omega, ?_⟩
      rw [hI]
      exact ⟨i + 1, v', _, by omega, by simp; omega, K', S', rfl⟩
    · rw [List.concat_eq_append] at hn
      subst hn
      have hln : (out ++ [q]).length = out.length + 1 := by simp
      obtain ⟨b2, cap2, e3, hcap2, hlo2, hb2⟩ := S1.open (i := out.length) (by omega)
      rw [hln] at e3 hcap2 hrl
      subst e3
      have hq : (out ++ [q])[out.length]'(by omega) = q := by simp
      have hQ1 := S1.vs.field encR_len (i := out.length) (j := 1) (by omega) (by omega)
      have hQ2 := S1.vs.field encR_len (i := out.length) (j := 2) (by omega) (by omega)
      rw [hq] at hQ1 hQ2
      have hQ1 : cellO (out.length * 3 + 1) h1[b2]? = some (.int .u64 q.e) := by simpa [encR] using hQ1
      have hQ2 : cellO (out.length * 3 + 2) h1[b2]? = some (.int .i64 q.p) := by simpa [encR] using hQ2
      have e4 : (((out.length + 1 : Nat) : Int) - 1) = (out.length : Int) := by omega
      have e5 : ((out.length : Int) < ((out.length + 1 : Nat) : Int)) = True := eq_true (by omega)
      have e6 : ((0 : Int) < ((out.length + 1 : Nat) : Int)) = True := eq_true (by omega)
      simp -implicitDefEqProofs (disch := first | omega | (simp only [h_szP, h_szS]; done) | (simp only [h_szP, h_szS]; omega)) only [go_sem, Nat.reduceBEq, reduceCtorEq, Nat.reduceAdd, Int.reduceEq, Int.reduceLT, Int.reduceLE, Int.reduceMul, Int.reduceAdd, Int.reduceSub, reduceIte, Nat.reduceLeDiff, Nat.reduceLT, Nat.reduceMul, Nat.reduceSub, Int.reduceToNat, s27, Tryz.underlying74, sl74, ze81, by81, sz81, Tryz.underlying3, Tryz.underlying82, sl82, ze85, by85, sz85, fo81_0, sh22, Tryz.underlying22, fo85_1, fo85_2, sh3, fo81_1, sz22, zc85, sd85, pl85_0, pl85_1, pl85_2, hE', hE0, hE1, hlt, hw, hw2, hQ1, hQ2, e4, e5, e6]
      refine ⟨fun q1 => ⟨fun q2 => ?_, fun q2 => ?_⟩, fun q1 => ?_⟩
      · obtain ⟨h', hw', S', sz', K', F'⟩ := S1.store encR_len (i := out.length) (j := 1) (vs := [.int .u64 (r.no * 4096 + 4096 : Nat)]) ⟨q.s, r.no * 4096 + 4096, q.p⟩ (by omega) (by simp) (by rw [hq]; rfl) rfl
        rw [Nat.zero_add] at hw'
        refine obK.use _ hw' ?_
        simp -implicitDefEqProofs (disch := first | omega | (simp only [h_szP, h_szS]; done) | (simp only [h_szP, h_szS]; omega)) only [go_sem, Nat.reduceBEq, reduceCtorEq, Nat.reduceAdd, Int.reduceEq, Int.reduceLT, Int.reduceLE, Int.reduceMul, Int.reduceAdd, Int.reduceSub, reduceIte, Nat.reduceLeDiff, Nat.reduceLT, Nat.reduceMul, Nat.reduceSub, Int.reduceToNat, s27, Tryz.underlying74, sl74, ze81, by81, sz81, Tryz.underlying3, Tryz.underlying82, sl82, ze85, by85, sz85, fo81_0, sh22, Tryz.underlying22, fo85_1, fo85_2, sh3, fo81_1, sz22, zc85, sd85, pl85_0, pl85_1, pl85_2]
        refine ⟨k - 1, by omega, ?_⟩
        rw [hI]
        exact ⟨i + 1, _, _, by omega, by simp; omega, K1.trans K', S', rfl⟩
      · refine hap ?_
        intro v' h' S' K'
        simp -implicitDefEqProofs (disch := first | omega | (simp only [h_szP, h_szS]; done) | (simp only [h_szP, h_szS]; omega)) only [go_sem, Nat.reduceBEq, reduceCtorEq, Nat.reduceAdd, Int.reduceEq, Int.reduceLT, Int.reduceLE, Int.reduceMul, Int.reduceAdd, Int.reduceSub, reduceIte, Nat.reduceLeDiff, Nat.reduceLT, Nat.reduceMul, Nat.reduceSub, Int.reduceToNat, s27, Tryz.underlying74, sl74, ze81, by81, sz81, Tryz.underlying3, Tryz.underlying82, sl82, ze85, by85, sz85, fo81_0, sh22, Tryz.underlying22, fo85_1, fo85_2, sh3, fo81_1, sz22, zc85, sd85, pl85_0, pl85_1, pl85_2]
        refine ⟨k - 1, by omega, ?_⟩
        rw [hI]
        exact ⟨i + 1, v', _, by omega, by simp; omega, K', S', rfl⟩
      · refine hap ?_
        intro v' h' S' K'
        simp -implicitDefEqProofs (disch := first | omega | (simp only [h_szP, h_szS]; done) | (simp only [h_szP, h_szS]; omega)) only [go_sem, Nat.reduceBEq, reduceCtorEq, Nat.reduceAdd, Int.reduceEq, Int.reduceLT, Int.reduceLE, Int.reduceMul, Int.reduceAdd, Int.reduceSub, reduceIte, Nat.reduceLeDiff, Nat.reduceLT, Nat.reduceMul, Nat.reduceSub, Int.reduceToNat, s27, Tryz.underlying74, sl74, ze81, by81, sz81, Tryz.underlying3, Tryz.underlying82, sl82, ze85, by85, sz85, fo81_0, sh22, Tryz.underlying22, fo85_1, fo85_2, sh3, fo81_1, sz22, zc85, sd85, pl85_0, pl85_1, pl85_2]
        refine ⟨k - 1, by omega, ?_⟩
        rw [hI]
        exact ⟨i + 1, v', _, by omega, by simp; omega, K', S', rfl⟩
  · have e1 : i = ps.length := by omega
    subst e1
    simp -implicitDefEqProofs (disch := first | omega | (simp only [h_szP, h_szS]; done) | (simp only [h_szP, h_szS]; omega)) only [go_sem, Nat.reduceBEq, reduceCtorEq, Nat.reduceAdd, Int.reduceEq, Int.reduceLT, Int.reduceLE, Int.reduceMul, Int.reduceAdd, Int.reduceSub, reduceIte, Nat.reduceLeDiff, Nat.reduceLT, Nat.reduceMul, Nat.reduceSub, Int.reduceToNat, s27, Tryz.underlying74, sl74, ze81, by81, sz81, Tryz.underlying3, Tryz.underlying82, sl82, ze85, by85, sz85, fo81_0, sh22, Tryz.underlying22, fo85_1, fo85_2, sh3, fo81_1, sz22, zc85, sd85, pl85_0, pl85_1, pl85_2]
    exact ⟨⟨rs, hrl, S1⟩, K1⟩
/-- one page more, behind the others. -/
structure PLaid (h h' : Heap) (sp : Nat) (m b f : Value) (ps : List Pg) (q : Pg) : Prop where
  ex : ∃ (v : Value) (bn : Nat), h'[sp]? = some (.cells #[v, m, b, f] 76 (0, 0)) ∧ Vs h' v encPg 3 (ps ++ [⟨q.no, q.prot, bn⟩]) ∧ h.size ≤ bn ∧ h'[bn]? = some (.cells (List.replicate 4096 (Value.int .u8 0)).toArray 5 (0, 0)) ∧ ∀ c, blk v = some c → h.size ≤ c ∧ c ≠ bn
  size : h.size ≤ h'.size
  old : ∀ c, c < h.size → c ≠ sp → h'[c]? = h[c]?
theorem playd_c {h : Heap} {v : Value} {ps : List Pg} (N sp prot most : Nat) (b f : Value) (ht : h[sp]? = some (.cells #[v, .int .i64 most, b, f] 76 (0, 0))) (hv : Vs h v encPg 3 ps) (hl : ps.length + 1 ≤ most) (hm : most ≤ 100) (hN : N < 1000000) (hs : ∀ p ∈ ps, p.no < N) :
    Fn Tryz.prog 14 [ptr sp 0, .int .u64 (N * 4096 : Nat), .int .u64 (N * 4096 + 4096 : Nat), .int .i64 prot] h fun r h' => r = .int .i64 0 ∧ PLaid h h' sp (.int .i64 most) b f ps ⟨N, prot, 0⟩ := by
  obtain ⟨a, cap, e1, hcap⟩ := hv.shape
  subst e1
  have hd1 : decide ((8192 : Int) < (((N * 4096 + 4096 : Nat) : Int) - (N * 4096 : Nat)) / 4096) = false := decide_eq_false (by omega)
  have hw1 : IntKind.u64.wrap (((N * 4096 + 4096 : Nat) : Int) - (N * 4096 : Nat)) = 4096 := by rw [wrap_u64]; omega
  refine Fn_c Tryz.func14 mixed c14 (by kernel_rfl) ?_; rw [r14]
  have hd2 : (4096 : Int) / 4096 = 1 := by decide
  simp -implicitDefEqProofs (disch := first | omega | (simp only [h_szP, h_szS]; done) | (simp only [h_szP, h_szS]; omega)) only [go_sem, Nat.reduceBEq, reduceCtorEq, Nat.reduceAdd, Int.reduceEq, Int.reduceLT, Int.reduceLE, Int.reduceMul, Int.reduceAdd, Int.reduceSub, reduceIte, Nat.reduceLeDiff, Nat.reduceLT, Nat.reduceMul, Nat.reduceSub, Int.reduceToNat, s14, Tryz.underlying22, Tryz.underlying74, sl74, ze81, by81, sz81, Tryz.underlying3, fo76_1, sh3, fo81_0, sh22, sh81, sl48, ze5, by5, sz5, zc81, sd81, pl81_0, pl81_1, pl81_2, Tryz.underlying82, sl82, ze85, by85, sz85, fo76_0, sz74, ht, hw1, hd2]
  refine FnK.use (pwithout_c (N * 4096) (N * 4096 + 4096) sp _ _ _ ht hv (by omega) (fun p q => by have := hs p q; omega)) ?_
  intro v1 h1 ⟨S1, K1⟩
  obtain ⟨a1, cap1, e1, hcap1⟩ := S1.vs.shape
  subst e1
  have hsp := getElem?_lt ht
  have ht1 := K1.at ht hsp
  simp -implicitDefEqProofs (disch := first | omega | (simp only [h_szP, h_szS]; done) | (simp only [h_szP, h_szS]; omega)) only [go_sem, Nat.reduceBEq, reduceCtorEq, Nat.reduceAdd, Int.reduceEq, Int.reduceLT, Int.reduceLE, Int.reduceMul, Int.reduceAdd, Int.reduceSub, reduceIte, Nat.reduceLeDiff, Nat.reduceLT, Nat.reduceMul, Nat.reduceSub, Int.reduceToNat, s14, Tryz.underlying22, Tryz.underlying74, sl74, ze81, by81, sz81, Tryz.underlying3, fo76_1, sh3, fo81_0, sh22, sh81, sl48, ze5, by5, sz5, zc81, sd81, pl81_0, pl81_1, pl81_2, Tryz.underlying82, sl82, ze85, by85, sz85, fo76_0, sz74, ht1, hw1, hd2]
  refine ⟨fun q => absurd q (by omega), fun _ => ?_⟩
  obtain ⟨I, hI⟩ : ∃ I : Nat → Fr → Heap → Prop, I = fun k fr h2 => ∃ (i : Nat) (vo : Value), i + k = ps.length ∧ Keeps h1.size h1 h2 ∧ Ss h2 h1.size vo 81 encPg 3 (ps.take i) ∧
      fr = (((((((fr0.up 11 (.int .i64 i)).up 10 vo).up 9 (.slice a1 ps.length cap1)).up 3 (.int .i64 prot)).up 2 (.int .u64 (N * 4096 + 4096 : Nat))).up 1 (.int .u64 (N * 4096 : Nat))).up 0 (ptr sp 0)) := ⟨_, rfl⟩
  refine LoopK.use I ps.length (by rw [hI]; exact ⟨0, _, by omega, Keeps.refl', Ss.nil _ _ _, rfl⟩) ?_
  intro k fr h2 hK
  rw [hI] at hK
  obtain ⟨i, vo, hk, K2, S2, hf⟩ := hK
  subst hf
  have V1 := S1.vs
  by_cases hi : i < ps.length
  · obtain ⟨b, o, cap', e1, hcap', hb⟩ := V1.open hi
    cases e1
    obtain ⟨r, hr⟩ : ∃ r, r = ps[i] := ⟨_, rfl⟩
    have hE : cellsO (o + i * 3) 3 h1[b]? = some [.int .u64 r.no, .int .i64 r.prot, .slice (some ⟨r.blk, 0, none⟩) 4096 4096] := by rw [hr]; exact V1.elem encPg_len hi
    have hE0 : cellO (o + i * 3) h1[b]? = some (.int .u64 r.no) := by rw [hr]; exact V1.field encPg_len hi (j := 0) (by omega)
    have hE' := K2.old b hb
    have hrs := hs r (by rw [hr]; exact List.getElem_mem hi)
    have hlt : decide ((i : Int) < ps.length) = true := decide_eq_true (by omega)
    have hw : IntKind.u64.wrap ((r.no : Int) * 4096) = ((r.no * 4096 : Nat) : Int) := by rw [wrap_u64]; omega
    have hd : decide (((r.no * 4096 : Nat) : Int) < ((N * 4096 : Nat) : Int)) = true := decide_eq_true (by omega)
    have hsz := K2.size
    simp -implicitDefEqProofs (disch := first | omega | (simp only [h_szP, h_szS]; done) | (simp only [h_szP, h_szS]; omega)) only [go_sem, Nat.reduceBEq, reduceCtorEq, Nat.reduceAdd, Int.reduceEq, Int.reduceLT, Int.reduceLE, Int.reduceMul, Int.reduceAdd, Int.reduceSub, reduceIte, Nat.reduceLeDiff, Nat.reduceLT, Nat.reduceMul, Nat.reduceSub, Int.reduceToNat, s14, Tryz.underlying22, Tryz.underlying74, sl74, ze81, by81, sz81, Tryz.underlying3, fo76_1, sh3, fo81_0, sh22, sh81, sl48, ze5, by5, sz5, zc81, sd81, pl81_0, pl81_1, pl81_2, Tryz.underlying82, sl82, ze85, by85, sz85, fo76_0, sz74, hE', hE, hE0, hlt, hw, hd]
    refine app_push r elPg encPg_len S2 rfl rfl rfl (by rw [List.length_take]; omega) K2.1 ?_
    intro v' h' S' K' F' B'
    simp -implicitDefEqProofs (disch := first | omega | (simp only [h_szP, h_szS]; done) | (simp only [h_szP, h_szS]; omega)) only [go_sem, Nat.reduceBEq, reduceCtorEq, Nat.reduceAdd, Int.reduceEq, Int.reduceLT, Int.reduceLE, Int.reduceMul, Int.reduceAdd, Int.reduceSub, reduceIte, Nat.reduceLeDiff, Nat.reduceLT, Nat.reduceMul, Nat.reduceSub, Int.reduceToNat, s14, Tryz.underlying22, Tryz.underlying74, sl74, ze81, by81, sz81, Tryz.underlying3, fo76_1, sh3, fo81_0, sh22, sh81, sl48, ze5, by5, sz5, zc81, sd81, pl81_0, pl81_1, pl81_2, Tryz.underlying82, sl82, ze85, by85, sz85, fo76_0, sz74]
    refine ⟨k - 1, by omega, ?_⟩
    rw [hI]
    rw [hr, ← take_snoc _ _ hi] at S'
    exact ⟨i + 1, v', by omega, K2.trans K', S', rfl⟩
  have e1 : i = ps.length := by omega
  subst e1
  rw [List.take_length] at S2
  simp -implicitDefEqProofs (disch := first | omega | (simp only [h_szP, h_szS]; done) | (simp only [h_szP, h_szS]; omega)) only [go_sem, Nat.reduceBEq, reduceCtorEq, Nat.reduceAdd, Int.reduceEq, Int.reduceLT, Int.reduceLE, Int.reduceMul, Int.reduceAdd, Int.reduceSub, reduceIte, Nat.reduceLeDiff, Nat.reduceLT, Nat.reduceMul, Nat.reduceSub, Int.reduceToNat, s14, Tryz.underlying22, Tryz.underlying74, sl74, ze81, by81, sz81, Tryz.underlying3, fo76_1, sh3, fo81_0, sh22, sh81, sl48, ze5, by5, sz5, zc81, sd81, pl81_0, pl81_1, pl81_2, Tryz.underlying82, sl82, ze85, by85, sz85, fo76_0, sz74]
  obtain ⟨J, hJ⟩ : ∃ I : Nat → Fr → Heap → Prop, I = fun k fr hh => (k = 1 ∧ hh = h2 ∧ fr = (((((((fr0.up 12 (.int .u64 (N * 4096 : Nat))).up 11 (.int .i64 ps.length)).up 10 vo).up 9 (.slice a1 ps.length cap1)).up 3 (.int .i64 prot)).up 2 (.int .u64 (N * 4096 + 4096 : Nat))).up 0 (ptr sp 0))) ∨
      (k = 0 ∧ ∃ (vo2 : Value) (bn : Nat), Keeps h1.size h1 hh ∧ Ss hh h1.size vo2 81 encPg 3 (ps ++ [⟨N, prot, bn⟩]) ∧ h1.size ≤ bn ∧ hh[bn]? = some (.cells (List.replicate 4096 (Value.int .u8 0)).toArray 5 (0, 0)) ∧ blk vo2 ≠ some bn ∧
        fr = (((((((fr0.up 12 (.int .u64 (N * 4096 + 4096 : Nat))).up 11 (.int .i64 ps.length)).up 10 vo2).up 9 (.slice a1 ps.length cap1)).up 3 (.int .i64 prot)).up 2 (.int .u64 (N * 4096 + 4096 : Nat))).up 0 (ptr sp 0))) := ⟨_, rfl⟩
  refine LoopK.use J 1 (by rw [hJ]; exact .inl ⟨rfl, rfl, rfl⟩) ?_
  intro k3 fr h3 hK
  rw [hJ] at hK
  rcases hK with ⟨hk3, eh, hf⟩ | ⟨hk3, vo2, bn, K3, S3, hbn, hbb, hne, hf⟩
  · have eh := eh.symm
    subst eh
    subst hf
    have hd : decide (((N * 4096 : Nat) : Int) < ((N * 4096 + 4096 : Nat) : Int)) = true := decide_eq_true (by omega)
    have hq : ((N * 4096 : Nat) : Int) / 4096 = N := by omega
    have hw2 : IntKind.u64.wrap (((N * 4096 : Nat) : Int) + 4096) = ((N * 4096 + 4096 : Nat) : Int) := by rw [wrap_u64]; omega
    have hsz := K2.size
    simp -implicitDefEqProofs (disch := first | omega | (simp only [h_szP, h_szS]; done) | (simp only [h_szP, h_szS]; omega)) only [go_sem, Nat.reduceBEq, reduceCtorEq, Nat.reduceAdd, Int.reduceEq, Int.reduceLT, Int.reduceLE, Int.reduceMul, Int.reduceAdd, Int.reduceSub, reduceIte, Nat.reduceLeDiff, Nat.reduceLT, Nat.reduceMul, Nat.reduceSub, Int.reduceToNat, s14, Tryz.underlying22, Tryz.underlying74, sl74, ze81, by81, sz81, Tryz.underlying3, fo76_1, sh3, fo81_0, sh22, sh81, sl48, ze5, by5, sz5, zc81, sd81, pl81_0, pl81_1, pl81_2, Tryz.underlying82, sl82, ze85, by85, sz85, fo76_0, sz74, hd, hq, hw2]
    refine mks_one (by_ := 1) (n := 4096) sl48 by5 ze5 rfl (by omega) (by omega) ?_
    simp -implicitDefEqProofs (disch := first | omega | (simp only [h_szP, h_szS]; done) | (simp only [h_szP, h_szS]; omega)) only [go_sem, Nat.reduceBEq, reduceCtorEq, Nat.reduceAdd, Int.reduceEq, Int.reduceLT, Int.reduceLE, Int.reduceMul, Int.reduceAdd, Int.reduceSub, reduceIte, Nat.reduceLeDiff, Nat.reduceLT, Nat.reduceMul, Nat.reduceSub, Int.reduceToNat, s14, Tryz.underlying22, Tryz.underlying74, sl74, ze81, by81, sz81, Tryz.underlying3, fo76_1, sh3, fo81_0, sh22, sh81, sl48, ze5, by5, sz5, zc81, sd81, pl81_0, pl81_1, pl81_2, Tryz.underlying82, sl82, ze85, by85, sz85, fo76_0, sz74, hd, hq, hw2]
    have S3 := S2.push (.cells (List.replicate 4096 (Value.int .u8 0)).toArray 5 (0, 0))
    refine app_push ⟨N, prot, h2.size⟩ elPg encPg_len S3 (by simp) rfl rfl (by omega) (by simp; omega) ?_
    intro v' h' S' K' F' B'
    simp -implicitDefEqProofs (disch := first | omega | (simp only [h_szP, h_szS]; done) | (simp only [h_szP, h_szS]; omega)) only [go_sem, Nat.reduceBEq, reduceCtorEq, Nat.reduceAdd, Int.reduceEq, Int.reduceLT, Int.reduceLE, Int.reduceMul, Int.reduceAdd, Int.reduceSub, reduceIte, Nat.reduceLeDiff, Nat.reduceLT, Nat.reduceMul, Nat.reduceSub, Int.reduceToNat, s14, Tryz.underlying22, Tryz.underlying74, sl74, ze81, by81, sz81, Tryz.underlying3, fo76_1, sh3, fo81_0, sh22, sh81, sl48, ze5, by5, sz5, zc81, sd81, pl81_0, pl81_1, pl81_2, Tryz.underlying82, sl82, ze85, by85, sz85, fo76_0, sz74]
    refine ⟨0, by omega, ?_⟩
    rw [hJ]
    have hnb : blk vo ≠ some h2.size := fun e => by have := (S2.blk e).2; omega
    refine .inr ⟨rfl, v', h2.size, (K2.push' (Nat.le_refl _)).trans K', S', K2.1, ?_, fun e => ?_, rfl⟩
    · rw [F' h2.size (by simp) hnb]; exact h_pushE _ _ _ rfl
    · rcases B' _ e with q | q
      · exact hnb q
      · simp at q; omega
  · subst hf
    have hd : decide (((N * 4096 + 4096 : Nat) : Int) < ((N * 4096 + 4096 : Nat) : Int)) = false := decide_eq_false (by omega)
    simp -implicitDefEqProofs (disch := first | omega | (simp only [h_szP, h_szS]; done) | (simp only [h_szP, h_szS]; omega)) only [go_sem, Nat.reduceBEq, reduceCtorEq, Nat.reduceAdd, Int.reduceEq, Int.reduceLT, Int.reduceLE, Int.reduceMul, Int.reduceAdd, Int.reduceSub, reduceIte, Nat.reduceLeDiff, Nat.reduceLT, Nat.reduceMul, Nat.reduceSub, Int.reduceToNat, s14, Tryz.underlying22, Tryz.underlying74, sl74, ze81, by81, sz81, Tryz.underlying3, fo76_1, sh3, fo81_0, sh22, sh81, sl48, ze5, by5, sz5, zc81, sd81, pl81_0, pl81_1, pl81_2, Tryz.underlying82, sl82, ze85, by85, sz85, fo76_0, sz74, hd]
    have hsz3 := K3.size
    have fin : ∀ {K : Value → Heap → Prop} (x : Value), lenOfV x = some 0 → srcCells h3 (0 * 3) x = some [] → strOK 3 x = true →
        (∀ v' h', Ss h' h1.size v' 81 encPg 3 (ps ++ [⟨N, prot, bn⟩]) → Keeps h1.size h1 h' → h'[bn]? = some (.cells (List.replicate 4096 (Value.int .u8 0)).toArray 5 (0, 0)) → blk v' ≠ some bn → K v' h') →
        @appK Tryz.prog h3 74 74 vo2 x ⟨K⟩ := by
      intro K x x1 x2 x3 hk
      refine app_sl (n := 0) (new := []) elPg S3 x1 x2 (by simp) (by simp) (by simp; omega) x3 (by omega) ?_
      intro v' h' S' g
      have hbl := getElem?_lt hbb
      refine hk v' h' (by rw [List.append_nil] at S'; exact S') (K3.trans (g.keeps (fun b hb => (S3.blk hb).1) (by omega))) (by rw [g.2.1 bn hbl hne]; exact hbb) (fun e => ?_)
      rcases g.2.2 with q | q
      · exact hne (q ▸ e)
      · rw [q] at e; simp only [Option.some.injEq] at e; omega
    refine fin _ ?_ ?_ ?_ ?_
    · simp [lenOfV]
    · have V3 := (S1.vs.ext K3)
      rcases V3.2 with ⟨e1, e2⟩ | ⟨b1, o1, c1, cc, ee, ff, e1, e2, e3, e4, e5⟩
      · have e6 : a1 = none := by injection e1
        subst e6
        simp [srcCells]
      · cases e1
        have := Vw.srcDrop V3 (i := ps.length) (Nat.le_refl _) (ps.length - ps.length) (cap1 - ps.length)
        rw [Nat.sub_self] at this
        have hd : (flat encPg ps).drop (ps.length * 3) = [] := List.drop_eq_nil_of_le (by rw [flat_len encPg_len]; omega)
        rw [hd] at this
        split
        · have := Vw.src V3 (k := 0) (by omega)
          simpa [srcCells] using this
        · rw [Nat.sub_self]
          simp only [Option.map_some, addA, Addr.add]
          split
          · rename_i z; rw [z, Nat.add_zero] at this; exact this
          · exact this
    · simp [strOK]
    intro v4 h4 S4 K4 hb4 hn4
    simp -implicitDefEqProofs (disch := first | omega | (simp only [h_szP, h_szS]; done) | (simp only [h_szP, h_szS]; omega)) only [go_sem, Nat.reduceBEq, reduceCtorEq, Nat.reduceAdd, Int.reduceEq, Int.reduceLT, Int.reduceLE, Int.reduceMul, Int.reduceAdd, Int.reduceSub, reduceIte, Nat.reduceLeDiff, Nat.reduceLT, Nat.reduceMul, Nat.reduceSub, Int.reduceToNat, s14, Tryz.underlying22, Tryz.underlying74, sl74, ze81, by81, sz81, Tryz.underlying3, fo76_1, sh3, fo81_0, sh22, sh81, sl48, ze5, by5, sz5, zc81, sd81, pl81_0, pl81_1, pl81_2, Tryz.underlying82, sl82, ze85, by85, sz85, fo76_0, sz74]
    have hsN : ∀ p ∈ ps ++ [⟨N, prot, bn⟩], p.no < 100000000 := fun p q => by
      rcases List.mem_append.1 q with z | z
      · have := hs p z; omega
      · rw [List.mem_singleton.1 z]; show N < _; omega
    refine FnK.use (pregions_c S4.vs (by simp; omega) hsN) ?_
    intro v5 h5 ⟨⟨rs, hrl, S5⟩, K5⟩
    obtain ⟨a5, cap5, e5, _⟩ := S5.vs.shape
    subst e5
    obtain ⟨a4, cap4, e4, _⟩ := S4.vs.shape
    rw [List.length_append, List.length_singleton] at e4 hrl
    subst e4
    have hd1 : decide ((256 : Int) < rs.length) = false := decide_eq_false (by omega)
    have hd2 : decide ((most : Int) < ((ps.length + 1 : Nat) : Int)) = false := decide_eq_false (by omega)
    have ht5 := (K1.of_ext (K4.of_ext K5 (Nat.le_refl _)) (Nat.le_refl _)).at ht hsp
    simp -implicitDefEqProofs (disch := first | omega | (simp only [h_szP, h_szS]; done) | (simp only [h_szP, h_szS]; omega)) only [go_sem, Nat.reduceBEq, reduceCtorEq, Nat.reduceAdd, Int.reduceEq, Int.reduceLT, Int.reduceLE, Int.reduceMul, Int.reduceAdd, Int.reduceSub, reduceIte, Nat.reduceLeDiff, Nat.reduceLT, Nat.reduceMul, Nat.reduceSub, Int.reduceToNat, s14, Tryz.underlying22, Tryz.underlying74, sl74, ze81, by81, sz81, Tryz.underlying3, fo76_1, sh3, fo81_0, sh22, sh81, sl48, ze5, by5, sz5, zc81, sd81, pl81_0, pl81_1, pl81_2, Tryz.underlying82, sl82, ze85, by85, sz85, fo76_0, sz74, hd1, hd2, ht5]
    have KK : Keeps h.size h h5 := K1.of_ext (K4.of_ext K5 (Nat.le_refl _)) (Nat.le_refl _)
    have hs5 := getElem?_lt ht5
    have hbl := getElem?_lt hb4
    have hk1 := K1.size
    have nset : ∀ c, c ≠ sp → ∀ o, (h5.setIfInBounds sp o)[c]? = h5[c]? := fun c q o => h_setN _ _ _ _ q
    have V5 := S4.vs.ext K5
    refine ⟨⟨_, bn, h_setS _ _ _ hs5, ?_, by omega, ?_, fun c q => ?_⟩, by simp; have := KK.size; omega, fun c q z => by rw [nset c z]; exact KK.old c q⟩
    · exact V5.mono fun c q => nset c (fun e => by have := (S4.blk q).1; omega) _
    · rw [nset bn (by omega), K5.old bn hbl]; exact hb4
    · exact ⟨by have := (S4.blk q).1; omega, fun e => hn4 (e ▸ q)⟩
end Go.SX.G
