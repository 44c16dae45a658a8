/- The reference's space of HartNone: how it is laid, and what is put into it. No condition. -/
import Derived.Test.YteoiokeiddlchaaGreatRefS
set_option linter.unusedVariables false
set_option linter.unusedSimpArgs false
namespace Go.SX.G
open Go Go.SX Go.Proofs
set_option maxRecDepth 100000
set_option maxHeartbeats 2000000
theorem Ss.ne {α : Type} {size : Nat} {enc : α → List Value} {h : Heap} {lo e b : Nat} {v : Value} {xs : List α} {o : Obj} (S : Ss h lo v e enc size xs) (hb : h[b]? = some o) (ho : ∀ cs f, o ≠ .cells cs e f) : blk v ≠ some b := by
  intro q
  rcases S.2 with ⟨e, _⟩ | ⟨b', cap, e, _, _, rest, hB, _⟩
  · rw [e] at q; simp [blk] at q
  · rw [e] at q
    simp only [blk, Option.some.injEq] at q
    subst q
    rw [hb] at hB
    exact ho _ _ (Option.some.inj hB)
theorem rnew20_c (h : Heap) : Fn Tryz.prog 12 [.int .i64 20] h fun x h' => x = ptr h.size 0 ∧ h' = h.push (.cells #[.slice none 0 0, .int .i64 20, .int .u64 0, .int .u64 0] 76 (0, 0)) := by
  refine Fn_c Tryz.func12 mixed c12 (by kernel_rfl) ?_; rw [r12]
  simp -implicitDefEqProofs (disch := first | omega | (simp only [h_szP, h_szS]; done) | (simp only [h_szP, h_szS]; omega)) only [go_sem, Nat.reduceBEq, reduceCtorEq, Nat.reduceAdd, Int.reduceEq, Int.reduceLT, Int.reduceLE, Int.reduceMul, Int.reduceAdd, Int.reduceSub, reduceIte, Nat.reduceLeDiff, Nat.reduceLT, Nat.reduceMul, Nat.reduceSub, Int.reduceToNat, s12, Tryz.underlying3, zc76, sd76, pl76_1]
/-- the reference's space, its pages' blocks not below 'lo'. -/
structure RQ (h : Heap) (lo sp : Nat) (v : Value) (ps : List Pg) : Prop where
  top : h[sp]? = some (.cells #[v, .int .i64 20, .int .u64 0, .int .u64 0] 76 (0, 0))
  vs : Vs h v encPg 3 ps
  pg : ∀ p ∈ ps, lo ≤ p.blk ∧ ∃ C : Array Value, C.size = 4096 ∧ h[p.blk]? = some (.cells C 5 (0, 0))
  ls : lo ≤ sp
  lv : ∀ b, blk v = some b → lo ≤ b
  ne : ∀ p ∈ ps, blk v ≠ some p.blk
theorem RQ.mono {h h' : Heap} {lo sp : Nat} {v : Value} {ps : List Pg} (R : RQ h lo sp v ps) (ks : h'[sp]? = h[sp]?) (kv : ∀ b, blk v = some b → h'[b]? = h[b]?) (kp : ∀ p ∈ ps, h'[p.blk]? = h[p.blk]?) : RQ h' lo sp v ps :=
  ⟨ks.trans R.top, R.vs.mono kv, fun p hp => ⟨(R.pg p hp).1, by obtain ⟨C, c1, c2⟩ := (R.pg p hp).2; exact ⟨C, c1, (kp p hp).trans c2⟩⟩, R.ls, R.lv, R.ne⟩
theorem RQ.ext {h h' : Heap} {lo sp : Nat} {v : Value} {ps : List Pg} (R : RQ h lo sp v ps) (k : Keeps h.size h h') : RQ h' lo sp v ps :=
  R.mono (k.old _ (getElem?_lt R.top)) (fun b hb => k.old b (R.vs.blk_lt hb)) fun p hp => by obtain ⟨C, c1, c2⟩ := (R.pg p hp).2; exact k.old _ (getElem?_lt c2)
def rqf (sp : Nat) (v : Value) (ps : List Pg) (b : Nat) : Prop := b = sp ∨ blk v = some b ∨ ∃ p ∈ ps, b = p.blk
theorem RQ.lt {h : Heap} {lo sp : Nat} {v : Value} {ps : List Pg} (R : RQ h lo sp v ps) {b : Nat} (f : rqf sp v ps b) : b < h.size := by
  rcases f with rfl | f | ⟨p, hp, rfl⟩
  · exact getElem?_lt R.top
  · exact R.vs.blk_lt f
  · obtain ⟨C, c1, c2⟩ := (R.pg p hp).2; exact getElem?_lt c2
theorem RQ.monof {h h' : Heap} {lo sp : Nat} {v : Value} {ps : List Pg} (R : RQ h lo sp v ps) (k : ∀ b, rqf sp v ps b → h'[b]? = h[b]?) : RQ h' lo sp v ps :=
  R.mono (k _ (.inl rfl)) (fun b hb => k b (.inr (.inl hb))) fun p hp => k _ (.inr (.inr ⟨p, hp, rfl⟩))
/-- pages behind all others. -/
theorem rlay_c {h : Heap} {lo : Nat} {v : Value} {ps : List Pg} (N c sp prot : Nat) (R : RQ h lo sp v ps) (lh : lo ≤ h.size) (hc : 1 ≤ c ∧ c ≤ 2) (hl : ps.length + c ≤ 20) (hN : N < 1000000) (hs : ∀ p ∈ ps, p.no < N) :
    Fn Tryz.prog 14 [ptr sp 0, .int .u64 (N * 4096 : Nat), .int .u64 ((N + c) * 4096 : Nat), .int .i64 prot] h fun r h' => (∃ (v' : Value) (qs : List Pg), RQ h' lo sp v' (ps ++ qs) ∧ qs.length = c ∧ (∀ i (hi : i < qs.length), qs[i].no = N + i) ∧ ∀ b, rqf sp v' (ps ++ qs) b → rqf sp v ps b ∨ h.size ≤ b) ∧ h.size ≤ h'.size ∧ ∀ b, b < h.size → b ≠ sp → h'[b]? = h[b]? := by
  have ht := R.top
  have hv := R.vs
  obtain ⟨a, cap, e1, hcap⟩ := hv.shape
  subst e1
  have hq0 : ((((N + c) * 4096 : Nat) : Int) - (N * 4096 : Nat)) = ((c * 4096 : Nat) : Int) := by omega
  have hw1 : IntKind.u64.wrap (((c * 4096 : Nat) : Int)) = ((c * 4096 : Nat) : Int) := by rw [wrap_u64]; omega
  have hd2 : ((c * 4096 : Nat) : Int) / 4096 = (c : Int) := by omega
  refine Fn_c Tryz.func14 mixed c14 (by kernel_rfl) ?_; rw [r14]
  have dc : ((8192 : Int) < (c : Int)) = False := eq_false (by omega)
  have dl : ((20 : Int) < (ps.length : Int) + c) = False := eq_false (by omega)
  simp -implicitDefEqProofs (disch := first | omega | (simp only [h_szP, h_szS]; done) | (simp only [h_szP, h_szS]; omega)) only [go_sem, Nat.reduceBEq, reduceCtorEq, Nat.reduceAdd, Int.reduceEq, Int.reduceLT, Int.reduceLE, Int.reduceMul, Int.reduceAdd, Int.reduceSub, reduceIte, Nat.reduceLeDiff, Nat.reduceLT, Nat.reduceMul, Nat.reduceSub, Int.reduceToNat, s14, Tryz.underlying22, Tryz.underlying74, sl74, ze81, by81, sz81, Tryz.underlying3, fo76_1, sh3, fo81_0, sh22, sh81, sl48, ze5, by5, sz5, zc81, sd81, pl81_0, pl81_1, pl81_2, Tryz.underlying82, sl82, ze85, by85, sz85, fo76_0, sz74, ht, hq0, hw1, hd2, dc]
  refine FnK.use (pwithout_c (N * 4096) ((N + c) * 4096) sp _ _ _ ht hv (by omega) (fun p q => by have := hs p q; omega)) ?_
  intro v1 h1 ⟨S1, K1⟩
  obtain ⟨a1, cap1, e1, hcap1⟩ := S1.vs.shape
  subst e1
  have hsp := getElem?_lt ht
  have ht1 := K1.at ht hsp
  simp -implicitDefEqProofs (disch := first | omega | (simp only [h_szP, h_szS]; done) | (simp only [h_szP, h_szS]; omega)) only [go_sem, Nat.reduceBEq, reduceCtorEq, Nat.reduceAdd, Int.reduceEq, Int.reduceLT, Int.reduceLE, Int.reduceMul, Int.reduceAdd, Int.reduceSub, reduceIte, Nat.reduceLeDiff, Nat.reduceLT, Nat.reduceMul, Nat.reduceSub, Int.reduceToNat, s14, Tryz.underlying22, Tryz.underlying74, sl74, ze81, by81, sz81, Tryz.underlying3, fo76_1, sh3, fo81_0, sh22, sh81, sl48, ze5, by5, sz5, zc81, sd81, pl81_0, pl81_1, pl81_2, Tryz.underlying82, sl82, ze85, by85, sz85, fo76_0, sz74, ht1, hq0, hw1, hd2, dl]
  obtain ⟨I, hI⟩ : ∃ I : Nat → Fr → Heap → Prop, I = fun k fr h2 => ∃ (i : Nat) (vo : Value), i + k = ps.length ∧ Keeps h1.size h1 h2 ∧ Ss h2 h1.size vo 81 encPg 3 (ps.take i) ∧
      fr = (((((((fr0.up 11 (.int .i64 i)).up 10 vo).up 9 (.slice a1 ps.length cap1)).up 3 (.int .i64 prot)).up 2 (.int .u64 ((N + c) * 4096 : Nat))).up 1 (.int .u64 (N * 4096 : Nat))).up 0 (ptr sp 0)) := ⟨_, rfl⟩
  refine LoopK.use I ps.length (by rw [hI]; exact ⟨0, _, by omega, Keeps.refl', Ss.nil _ _ _, rfl⟩) ?_
  intro k fr h2 hK
  rw [hI] at hK
  obtain ⟨i, vo, hk, K2, S2, hf⟩ := hK
  subst hf
  have V1 := S1.vs
  by_cases hi : i < ps.length
  · obtain ⟨b, o, cap', e1, hcap', hb⟩ := V1.open hi
    cases e1
    obtain ⟨r, hr⟩ : ∃ r, r = ps[i] := ⟨_, rfl⟩
    have hE : cellsO (o + i * 3) 3 h1[b]? = some [.int .u64 r.no, .int .i64 r.prot, .slice (some ⟨r.blk, 0, none⟩) 4096 4096] := by rw [hr]; exact V1.elem encPg_len hi
    have hE0 : cellO (o + i * 3) h1[b]? = some (.int .u64 r.no) := by rw [hr]; exact V1.field encPg_len hi (j := 0) (by omega)
    have hE' := K2.old b hb
    have hrs := hs r (by rw [hr]; exact List.getElem_mem hi)
    have hlt : decide ((i : Int) < ps.length) = true := decide_eq_true (by omega)
    have hw : IntKind.u64.wrap ((r.no : Int) * 4096) = ((r.no * 4096 : Nat) : Int) := by rw [wrap_u64]; omega
    have hd : decide (((r.no * 4096 : Nat) : Int) < ((N * 4096 : Nat) : Int)) = true := decide_eq_true (by omega)
    have hsz := K2.size
    simp -implicitDefEqProofs (disch := first | omega | (simp only [h_szP, h_szS]; done) | (simp only [h_szP, h_szS]; omega)) only [go_sem, Nat.reduceBEq, reduceCtorEq, Nat.reduceAdd, Int.reduceEq, Int.reduceLT, Int.reduceLE, Int.reduceMul, Int.reduceAdd, Int.reduceSub, reduceIte, Nat.reduceLeDiff, Nat.reduceLT, Nat.reduceMul, Nat.reduceSub, Int.reduceToNat, s14, Tryz.underlying22, Tryz.underlying74, sl74, ze81, by81, sz81, Tryz.underlying3, fo76_1, sh3, fo81_0, sh22, sh81, sl48, ze5, by5, sz5, zc81, sd81, pl81_0, pl81_1, pl81_2, Tryz.underlying82, sl82, ze85, by85, sz85, fo76_0, sz74, hE', hE, hE0, hlt, hw, hd]
    refine app_push r elPg encPg_len S2 rfl rfl rfl (by rw [List.length_take]; omega) K2.1 ?_
    intro v' h' S' K' F' B'
    simp -implicitDefEqProofs (disch := first | omega | (simp only [h_szP, h_szS]; done) | (simp only [h_szP, h_szS]; omega)) only [go_sem, Nat.reduceBEq, reduceCtorEq, Nat.reduceAdd, Int.reduceEq, Int.reduceLT, Int.reduceLE, Int.reduceMul, Int.reduceAdd, Int.reduceSub, reduceIte, Nat.reduceLeDiff, Nat.reduceLT, Nat.reduceMul, Nat.reduceSub, Int.reduceToNat, s14, Tryz.underlying22, Tryz.underlying74, sl74, ze81, by81, sz81, Tryz.underlying3, fo76_1, sh3, fo81_0, sh22, sh81, sl48, ze5, by5, sz5, zc81, sd81, pl81_0, pl81_1, pl81_2, Tryz.underlying82, sl82, ze85, by85, sz85, fo76_0, sz74]
    refine ⟨k - 1, by omega, ?_⟩
    rw [hI]
    rw [hr, ← take_snoc _ _ hi] at S'
    exact ⟨i + 1, v', by omega, K2.trans K', S', rfl⟩
  have e1 : i = ps.length := by omega
  subst e1
  rw [List.take_length] at S2
  simp -implicitDefEqProofs (disch := first | omega | (simp only [h_szP, h_szS]; done) | (simp only [h_szP, h_szS]; omega)) only [go_sem, Nat.reduceBEq, reduceCtorEq, Nat.reduceAdd, Int.reduceEq, Int.reduceLT, Int.reduceLE, Int.reduceMul, Int.reduceAdd, Int.reduceSub, reduceIte, Nat.reduceLeDiff, Nat.reduceLT, Nat.reduceMul, Nat.reduceSub, Int.reduceToNat, s14, Tryz.underlying22, Tryz.underlying74, sl74, ze81, by81, sz81, Tryz.underlying3, fo76_1, sh3, fo81_0, sh22, sh81, sl48, ze5, by5, sz5, zc81, sd81, pl81_0, pl81_1, pl81_2, Tryz.underlying82, sl82, ze85, by85, sz85, fo76_0, sz74]
  obtain ⟨J, hJ⟩ : ∃ I : Nat → Fr → Heap → Prop, I = fun k fr hh => ∃ (j : Nat) (vo2 : Value) (qs : List Pg), j + k = c ∧ qs.length = j ∧ (∀ i (hi : i < qs.length), qs[i].no = N + i) ∧ Keeps h1.size h1 hh ∧ Ss hh h1.size vo2 81 encPg 3 (ps ++ qs) ∧
      (∀ p ∈ qs, h1.size ≤ p.blk ∧ ∃ C : Array Value, C.size = 4096 ∧ hh[p.blk]? = some (.cells C 5 (0, 0))) ∧
      fr = (((((((fr0.up 12 (.int .u64 ((N + j) * 4096 : Nat))).up 11 (.int .i64 ps.length)).up 10 vo2).up 9 (.slice a1 ps.length cap1)).up 3 (.int .i64 prot)).up 2 (.int .u64 ((N + c) * 4096 : Nat))).up 0 (ptr sp 0)) := ⟨_, rfl⟩
  refine LoopK.use J c (by rw [hJ]; exact ⟨0, vo, [], by omega, rfl, fun i hi => absurd hi (by simp), K2, by rw [List.append_nil]; exact S2, fun p hp => (by cases hp), rfl⟩) ?_
  intro k3 fr h3 hK
  rw [hJ] at hK
  obtain ⟨j, vo2, qs, hk3, hql, hqn, K3, S3, hqb, hf⟩ := hK
  subst hf
  have hsz := K3.size
  by_cases hj : j < c
  · have hd : decide ((((N + j) * 4096 : Nat) : Int) < (((N + c) * 4096 : Nat) : Int)) = true := decide_eq_true (by omega)
    have hq : (((N + j) * 4096 : Nat) : Int) / 4096 = ((N + j : Nat) : Int) := by omega
    have hw2 : IntKind.u64.wrap ((((N + j) * 4096 : Nat) : Int) + 4096) = (((N + (j + 1)) * 4096 : Nat) : Int) := by rw [wrap_u64]; omega
    have hw3 : (((N + j) * 4096 : Nat) : Int) + 4096 = (((N + (j + 1)) * 4096 : Nat) : Int) := by omega
    simp -implicitDefEqProofs (disch := first | omega | (simp only [h_szP, h_szS]; done) | (simp only [h_szP, h_szS]; omega)) only [go_sem, Nat.reduceBEq, reduceCtorEq, Nat.reduceAdd, Int.reduceEq, Int.reduceLT, Int.reduceLE, Int.reduceMul, Int.reduceAdd, Int.reduceSub, reduceIte, Nat.reduceLeDiff, Nat.reduceLT, Nat.reduceMul, Nat.reduceSub, Int.reduceToNat, s14, Tryz.underlying22, Tryz.underlying74, sl74, ze81, by81, sz81, Tryz.underlying3, fo76_1, sh3, fo81_0, sh22, sh81, sl48, ze5, by5, sz5, zc81, sd81, pl81_0, pl81_1, pl81_2, Tryz.underlying82, sl82, ze85, by85, sz85, fo76_0, sz74, hd, hq, hw2, hw3]
    refine mks_one (by_ := 1) (n := 4096) sl48 by5 ze5 rfl (by omega) (by omega) ?_
    simp -implicitDefEqProofs (disch := first | omega | (simp only [h_szP, h_szS]; done) | (simp only [h_szP, h_szS]; omega)) only [go_sem, Nat.reduceBEq, reduceCtorEq, Nat.reduceAdd, Int.reduceEq, Int.reduceLT, Int.reduceLE, Int.reduceMul, Int.reduceAdd, Int.reduceSub, reduceIte, Nat.reduceLeDiff, Nat.reduceLT, Nat.reduceMul, Nat.reduceSub, Int.reduceToNat, s14, Tryz.underlying22, Tryz.underlying74, sl74, ze81, by81, sz81, Tryz.underlying3, fo76_1, sh3, fo81_0, sh22, sh81, sl48, ze5, by5, sz5, zc81, sd81, pl81_0, pl81_1, pl81_2, Tryz.underlying82, sl82, ze85, by85, sz85, fo76_0, sz74, hd, hq, hw2, hw3]
    have S3' := S3.push (.cells (List.replicate 4096 (Value.int .u8 0)).toArray 5 (0, 0))
    refine app_push ⟨N + j, prot, h3.size⟩ elPg encPg_len S3' (by simp) rfl rfl (by simp; omega) (by simp; omega) ?_
    intro v' h' S' K' F' B'
    rw [List.append_assoc] at S'
    simp -implicitDefEqProofs (disch := first | omega | (simp only [h_szP, h_szS]; done) | (simp only [h_szP, h_szS]; omega)) only [go_sem, Nat.reduceBEq, reduceCtorEq, Nat.reduceAdd, Int.reduceEq, Int.reduceLT, Int.reduceLE, Int.reduceMul, Int.reduceAdd, Int.reduceSub, reduceIte, Nat.reduceLeDiff, Nat.reduceLT, Nat.reduceMul, Nat.reduceSub, Int.reduceToNat, s14, Tryz.underlying22, Tryz.underlying74, sl74, ze81, by81, sz81, Tryz.underlying3, fo76_1, sh3, fo81_0, sh22, sh81, sl48, ze5, by5, sz5, zc81, sd81, pl81_0, pl81_1, pl81_2, Tryz.underlying82, sl82, ze85, by85, sz85, fo76_0, sz74, hw3]
    refine ⟨k3 - 1, by omega, ?_⟩
    rw [hJ]
    have hnb : blk vo2 ≠ some h3.size := fun e => by have := (S3.blk e).2; omega
    refine ⟨j + 1, v', qs ++ [⟨N + j, prot, h3.size⟩], by omega, by simp [hql], fun i hi => ?_, (K3.push' (Nat.le_refl _)).trans K', S', fun p hp => ?_, rfl⟩
    · by_cases q : i < qs.length
      · rw [List.getElem_append_left q]; exact hqn i q
      · have : i = qs.length := by simp at hi; omega
        subst this
        simp [hql]
    · rcases List.mem_append.1 hp with z | z
      · obtain ⟨p1, C, c1, c2⟩ := hqb p z
        have lp := getElem?_lt c2
        refine ⟨p1, C, c1, ?_⟩
        rw [F' p.blk (by simp; omega) (Ss.ne S3 c2 (fun cs f => by simp)), h_pushL _ _ _ lp]
        exact c2
      · rw [List.mem_singleton.1 z]
        refine ⟨hsz, (List.replicate 4096 (Value.int .u8 0)).toArray, by simp, ?_⟩
        show h'[h3.size]? = _
        rw [F' h3.size (by simp) hnb]
        exact h_pushE _ _ _ rfl
  · have ej : j = c := by omega
    have hd : decide ((((N + j) * 4096 : Nat) : Int) < (((N + c) * 4096 : Nat) : Int)) = false := decide_eq_false (by omega)
    simp -implicitDefEqProofs (disch := first | omega | (simp only [h_szP, h_szS]; done) | (simp only [h_szP, h_szS]; omega)) only [go_sem, Nat.reduceBEq, reduceCtorEq, Nat.reduceAdd, Int.reduceEq, Int.reduceLT, Int.reduceLE, Int.reduceMul, Int.reduceAdd, Int.reduceSub, reduceIte, Nat.reduceLeDiff, Nat.reduceLT, Nat.reduceMul, Nat.reduceSub, Int.reduceToNat, s14, Tryz.underlying22, Tryz.underlying74, sl74, ze81, by81, sz81, Tryz.underlying3, fo76_1, sh3, fo81_0, sh22, sh81, sl48, ze5, by5, sz5, zc81, sd81, pl81_0, pl81_1, pl81_2, Tryz.underlying82, sl82, ze85, by85, sz85, fo76_0, sz74, hd]
    have fin : ∀ {K : Value → Heap → Prop} (x : Value), lenOfV x = some 0 → srcCells h3 (0 * 3) x = some [] → strOK 3 x = true →
        (∀ v' h', Ss h' h1.size v' 81 encPg 3 (ps ++ qs) → Keeps h1.size h1 h' → (∀ p ∈ qs, h1.size ≤ p.blk ∧ ∃ C : Array Value, C.size = 4096 ∧ h'[p.blk]? = some (.cells C 5 (0, 0))) → K v' h') →
        @appK Tryz.prog h3 74 74 vo2 x ⟨K⟩ := by
      intro K x x1 x2 x3 hk
      refine app_sl (n := 0) (new := []) elPg S3 x1 x2 (by simp) (by simp) (by simp; omega) x3 (by omega) ?_
      intro v' h' S' g
      refine hk v' h' (by rw [List.append_nil] at S'; exact S') (K3.trans (g.keeps (fun b hb => (S3.blk hb).1) (by omega))) (fun p hp => ?_)
      obtain ⟨p1, C, c1, c2⟩ := hqb p hp
      exact ⟨p1, C, c1, by rw [g.2.1 p.blk (getElem?_lt c2) (Ss.ne S3 c2 (fun cs f => by simp))]; exact c2⟩
    refine fin _ ?_ ?_ ?_ ?_
    · simp [lenOfV]
    · have V3 := (S1.vs.ext K3)
      rcases V3.2 with ⟨e1, e2⟩ | ⟨b1, o1, c1, cc, ee, ff, e1, e2, e3, e4, e5⟩
      · have e6 : a1 = none := by injection e1
        subst e6
        simp [srcCells]
      · cases e1
        have := Vw.srcDrop V3 (i := ps.length) (Nat.le_refl _) (ps.length - ps.length) (cap1 - ps.length)
        rw [Nat.sub_self] at this
        have hd : (flat encPg ps).drop (ps.length * 3) = [] := List.drop_eq_nil_of_le (by rw [flat_len encPg_len]; omega)
        rw [hd] at this
        split
        · have := Vw.src V3 (k := 0) (by omega)
          simpa [srcCells] using this
        · rw [Nat.sub_self]
          simp only [Option.map_some, addA, Addr.add]
          split
          · rename_i z; rw [z, Nat.add_zero] at this; exact this
          · exact this
    · simp [strOK]
    intro v4 h4 S4 K4 hb4
    simp -implicitDefEqProofs (disch := first | omega | (simp only [h_szP, h_szS]; done) | (simp only [h_szP, h_szS]; omega)) only [go_sem, Nat.reduceBEq, reduceCtorEq, Nat.reduceAdd, Int.reduceEq, Int.reduceLT, Int.reduceLE, Int.reduceMul, Int.reduceAdd, Int.reduceSub, reduceIte, Nat.reduceLeDiff, Nat.reduceLT, Nat.reduceMul, Nat.reduceSub, Int.reduceToNat, s14, Tryz.underlying22, Tryz.underlying74, sl74, ze81, by81, sz81, Tryz.underlying3, fo76_1, sh3, fo81_0, sh22, sh81, sl48, ze5, by5, sz5, zc81, sd81, pl81_0, pl81_1, pl81_2, Tryz.underlying82, sl82, ze85, by85, sz85, fo76_0, sz74]
    have hsN : ∀ p ∈ ps ++ qs, p.no < 100000000 := fun p q => by
      rcases List.mem_append.1 q with z | z
      · have := hs p z; omega
      · obtain ⟨i, hi, rfl⟩ := List.mem_iff_getElem.1 z
        rw [hqn i hi]; omega
    refine FnK.use (pregions_c S4.vs (by simp; omega) hsN) ?_
    intro v5 h5 ⟨⟨rs, hrl, S5⟩, K5⟩
    obtain ⟨a5, cap5, e5, _⟩ := S5.vs.shape
    subst e5
    obtain ⟨a4, cap4, e4, _⟩ := S4.vs.shape
    rw [List.length_append] at e4 hrl
    subst e4
    have hd1 : decide ((256 : Int) < rs.length) = false := decide_eq_false (by omega)
    have hd2 : decide ((20 : Int) < ((ps.length + qs.length : Nat) : Int)) = false := decide_eq_false (by omega)
    have KK : Keeps h.size h h5 := K1.of_ext (K4.of_ext K5 (Nat.le_refl _)) (Nat.le_refl _)
    have ht5 := KK.at ht hsp
    simp -implicitDefEqProofs (disch := first | omega | (simp only [h_szP, h_szS]; done) | (simp only [h_szP, h_szS]; omega)) only [go_sem, Nat.reduceBEq, reduceCtorEq, Nat.reduceAdd, Int.reduceEq, Int.reduceLT, Int.reduceLE, Int.reduceMul, Int.reduceAdd, Int.reduceSub, reduceIte, Nat.reduceLeDiff, Nat.reduceLT, Nat.reduceMul, Nat.reduceSub, Int.reduceToNat, s14, Tryz.underlying22, Tryz.underlying74, sl74, ze81, by81, sz81, Tryz.underlying3, fo76_1, sh3, fo81_0, sh22, sh81, sl48, ze5, by5, sz5, zc81, sd81, pl81_0, pl81_1, pl81_2, Tryz.underlying82, sl82, ze85, by85, sz85, fo76_0, sz74, hd1, hd2, ht5]
    have hs5 := getElem?_lt ht5
    have hk1 := K1.size
    have nset : ∀ c, c ≠ sp → ∀ o, (h5.setIfInBounds sp o)[c]? = h5[c]? := fun c q o => h_setN _ _ _ _ q
    have V5 := S4.vs.ext K5
    refine ⟨⟨_, qs, ⟨h_setS _ _ _ hs5, ?_, fun p hp => ?_, R.ls, fun b q => ?_, fun p hp => ?_⟩, by omega, hqn, fun b f => ?_⟩, by have := KK.size; first | omega | (simp; omega), fun b q z => by rw [nset b z]; exact KK.old b q⟩
    · exact V5.mono fun c q => nset c (fun e => by have := (S4.blk q).1; omega) _
    · rcases List.mem_append.1 hp with z | z
      · obtain ⟨p1, C, c1, c2⟩ := R.pg p z
        have n1 : p.blk ≠ sp := fun e => by have := R.top; rw [← e, c2] at this; simp at this
        exact ⟨p1, C, c1, by rw [nset _ n1, KK.old _ (getElem?_lt c2)]; exact c2⟩
      · obtain ⟨p1, C, c1, c2⟩ := hb4 p z
        exact ⟨by omega, C, c1, by rw [nset _ (by omega), K5.old _ (getElem?_lt c2)]; exact c2⟩
    · have := (S4.blk q).1; omega
    · rcases List.mem_append.1 hp with z | z
      · intro e
        obtain ⟨p1, C, c1, c2⟩ := R.pg p z
        have := (S4.blk e).1
        have := getElem?_lt c2
        omega
      · obtain ⟨p1, C, c1, c2⟩ := hb4 p z
        exact Ss.ne S4 c2 (fun cs f => by simp)
    · rcases f with f | f | ⟨p, hp, f⟩
      · exact .inl (.inl f)
      · have := (S4.blk f).1; exact .inr (by omega)
      · rcases List.mem_append.1 hp with z | z
        · exact .inl (.inr (.inr ⟨p, z, f⟩))
        · obtain ⟨p1, _⟩ := hb4 p z; exact .inr (by omega)
/-- where a page is, of five. -/
theorem rat5_c {h : Heap} {lo sp : Nat} {v : Value} {ps : List Pg} (R : RQ h lo sp v ps) (hl : ps.length = 5) (hn : ∀ i (hi : i < ps.length), ps[i].no = [16, 17, 32, 33, 34].getD i 0) :
    Fn Tryz.prog 49 [ptr sp 0, .int .u64 16] h fun r h' => r = .tuple #[.int .i64 0, .bool true] ∧ h' = h := by
  have ht := R.top
  obtain ⟨a, cap, e1, hcap⟩ := R.vs.shape
  have hv := R.vs
  subst e1
  rw [hl] at ht hv
  have hE : ∀ i, i < 5 → ∃ (b o : Nat), a = some ⟨b, o, none⟩ ∧ cellO (o + i * 3) h[b]? = some (.int .u64 ([16, 17, 32, 33, 34].getD i 0 : Nat)) := by
    intro i hi
    have hi' : i < ps.length := by omega
    have hv' := R.vs
    obtain ⟨b, o, cap', e1, _, hb⟩ := hv'.open hi'
    injection e1 with e1 e2 e3
    subst e1
    refine ⟨b, o, rfl, ?_⟩
    have := hv'.field encPg_len hi' (j := 0) (by omega)
    simpa [encPg, hn i hi'] using this
  obtain ⟨b, o, ea, E0⟩ := hE 0 (by omega)
  subst ea
  have E1 : cellO (o + 1 * 3) h[b]? = some (.int .u64 17) := by obtain ⟨b', o', e, E⟩ := hE 1 (by omega); cases e; exact E
  have E2 : cellO (o + 2 * 3) h[b]? = some (.int .u64 32) := by obtain ⟨b', o', e, E⟩ := hE 2 (by omega); cases e; exact E
  have E0 : cellO o h[b]? = some (.int .u64 16) := by simpa using E0
  refine Fn_c Tryz.func49 mixed c49 (by kernel_rfl) ?_; rw [r49]
  simp -implicitDefEqProofs (disch := first | omega | (simp only [h_szP, h_szS]; done) | (simp only [h_szP, h_szS]; omega)) only [go_sem, Nat.reduceBEq, reduceCtorEq, Nat.reduceAdd, Int.reduceEq, Int.reduceLT, Int.reduceLE, Int.reduceMul, Int.reduceAdd, Int.reduceSub, reduceIte, Nat.reduceLeDiff, Nat.reduceLT, Nat.reduceMul, Nat.reduceSub, Int.reduceToNat, s49, fo76_0, sh74, Tryz.underlying74, sl74, ze81, by81, sz81, Tryz.underlying3, fo81_0, sh22, Tryz.underlying22, ht]
  obtain ⟨I, hI⟩ : ∃ I : Nat → Fr → Heap → Prop, I = fun k fr hh => hh = h ∧ ∃ hi : Nat, ((k = 3 ∧ hi = 5) ∨ (k = 2 ∧ hi = 2) ∨ (k = 1 ∧ hi = 1) ∨ (k = 0 ∧ hi = 0)) ∧
      fr = ((((fr0.up 7 (.int .i64 hi)).up 6 (.int .i64 0)).up 1 (.int .u64 16)).up 0 (ptr sp 0)) := ⟨_, rfl⟩
  refine LoopK.use I 3 (by rw [hI]; exact ⟨rfl, 5, .inl ⟨rfl, rfl⟩, rfl⟩) ?_
  intro k fr hh hK
  rw [hI] at hK
  obtain ⟨e0, hi, hc, hf⟩ := hK
  subst hf
  subst e0
  rcases hc with ⟨rfl, rfl⟩ | ⟨rfl, rfl⟩ | ⟨rfl, rfl⟩ | ⟨rfl, rfl⟩
  · have q : ((5 : Int) / 2).toNat = 2 := by decide
    have q' : (5 : Int) / 2 = 2 := by decide
    simp -implicitDefEqProofs (disch := first | omega | (simp only [h_szP, h_szS]; done) | (simp only [h_szP, h_szS]; omega)) only [go_sem, Nat.reduceBEq, reduceCtorEq, Nat.reduceAdd, Int.reduceEq, Int.reduceLT, Int.reduceLE, Int.reduceMul, Int.reduceAdd, Int.reduceSub, reduceIte, Nat.reduceLeDiff, Nat.reduceLT, Nat.reduceMul, Nat.reduceSub, Int.reduceToNat, s49, fo76_0, sh74, Tryz.underlying74, sl74, ze81, by81, sz81, Tryz.underlying3, fo81_0, sh22, Tryz.underlying22, ht, E2, q, q', Nat.zero_mul, Nat.add_zero]
    refine ⟨2, by omega, ?_⟩
    rw [hI]
    exact ⟨rfl, 2, by omega, rfl⟩
  · have q : ((2 : Int) / 2).toNat = 1 := by decide
    have q' : (2 : Int) / 2 = 1 := by decide
    simp -implicitDefEqProofs (disch := first | omega | (simp only [h_szP, h_szS]; done) | (simp only [h_szP, h_szS]; omega)) only [go_sem, Nat.reduceBEq, reduceCtorEq, Nat.reduceAdd, Int.reduceEq, Int.reduceLT, Int.reduceLE, Int.reduceMul, Int.reduceAdd, Int.reduceSub, reduceIte, Nat.reduceLeDiff, Nat.reduceLT, Nat.reduceMul, Nat.reduceSub, Int.reduceToNat, s49, fo76_0, sh74, Tryz.underlying74, sl74, ze81, by81, sz81, Tryz.underlying3, fo81_0, sh22, Tryz.underlying22, ht, E1, q, q', Nat.zero_mul, Nat.add_zero]
    refine ⟨1, by omega, ?_⟩
    rw [hI]
    exact ⟨rfl, 1, by omega, rfl⟩
  · have q : ((1 : Int) / 2).toNat = 0 := by decide
    have q' : (1 : Int) / 2 = 0 := by decide
    simp -implicitDefEqProofs (disch := first | omega | (simp only [h_szP, h_szS]; done) | (simp only [h_szP, h_szS]; omega)) only [go_sem, Nat.reduceBEq, reduceCtorEq, Nat.reduceAdd, Int.reduceEq, Int.reduceLT, Int.reduceLE, Int.reduceMul, Int.reduceAdd, Int.reduceSub, reduceIte, Nat.reduceLeDiff, Nat.reduceLT, Nat.reduceMul, Nat.reduceSub, Int.reduceToNat, s49, fo76_0, sh74, Tryz.underlying74, sl74, ze81, by81, sz81, Tryz.underlying3, fo81_0, sh22, Tryz.underlying22, ht, E0, q, q', Nat.zero_mul, Nat.add_zero]
    refine ⟨0, by omega, ?_⟩
    rw [hI]
    exact ⟨rfl, 0, by omega, rfl⟩
  · simp -implicitDefEqProofs (disch := first | omega | (simp only [h_szP, h_szS]; done) | (simp only [h_szP, h_szS]; omega)) only [go_sem, Nat.reduceBEq, reduceCtorEq, Nat.reduceAdd, Int.reduceEq, Int.reduceLT, Int.reduceLE, Int.reduceMul, Int.reduceAdd, Int.reduceSub, reduceIte, Nat.reduceLeDiff, Nat.reduceLT, Nat.reduceMul, Nat.reduceSub, Int.reduceToNat, s49, fo76_0, sh74, Tryz.underlying74, sl74, ze81, by81, sz81, Tryz.underlying3, fo81_0, sh22, Tryz.underlying22, ht, E0]
    done
end Go.SX.G
