/- Both spaces of three pages. No condition. -/
import Derived.Test.YtcnalkdgdbhedaaRefS
import Derived.Test.YtcnalkdgdbhedaaStepPlain
set_option linter.unusedVariables false
set_option linter.unusedSimpArgs false
namespace Go.SX.G
open Go Go.SX Go.Proofs
set_option maxRecDepth 100000
set_option maxHeartbeats 2000000
theorem rep_range (n : Nat) (v : Value) : List.replicate n v = (List.range n).map fun _ => v := by
  apply List.ext_getElem
  · simp
  · intro i h1 h2; simp
/-- the reference's space: pages, and what stands in them. -/
structure RS (h : Heap) (sp : Nat) (pv : Value) (ps : List Pg) (C : Nat → Nat) : Prop where
  top : h[sp]? = some (.cells #[pv, .int .i64 10, .int .u64 0, .int .u64 0] 126 (0, 0))
  vs : Vs h pv encPg 3 ps
  pg : ∀ p ∈ ps, h[p.blk]? = some (.cells ((List.range 4096).map fun i => Value.int .u8 (C (p.no * 4096 + i) : Nat)).toArray 5 (0, 0))
  nos : ∀ i (hi : i < ps.length), ps[i].no = i + 1
  blks : ps.Pairwise fun a b => a.blk ≠ b.blk
  nsp : ∀ p ∈ ps, p.blk ≠ sp ∧ Go.SX.blk pv ≠ some p.blk
  npv : Go.SX.blk pv ≠ some sp
def rfoot (sp : Nat) (pv : Value) (ps : List Pg) (b : Nat) : Prop := b = sp ∨ blk pv = some b ∨ ∃ p ∈ ps, b = p.blk
theorem RS.lt {h : Heap} {sp : Nat} {pv : Value} {ps : List Pg} {C : Nat → Nat} (r : RS h sp pv ps C) {b : Nat} (f : rfoot sp pv ps b) : b < h.size := by
  rcases f with rfl | f | ⟨p, hp, rfl⟩
  · exact getElem?_lt r.top
  · exact r.vs.blk_lt f
  · exact getElem?_lt (r.pg p hp)
theorem RS.mono {h h' : Heap} {sp : Nat} {pv : Value} {ps : List Pg} {C : Nat → Nat} (r : RS h sp pv ps C) (k : ∀ b, rfoot sp pv ps b → h'[b]? = h[b]?) : RS h' sp pv ps C :=
  ⟨by rw [k sp (.inl rfl)]; exact r.top, r.vs.mono fun b e => k b (.inr (.inl e)), fun p hp => by rw [k p.blk (.inr (.inr ⟨p, hp, rfl⟩))]; exact r.pg p hp, r.nos, r.blks, r.nsp, r.npv⟩
theorem RS.ext {h h' : Heap} {sp : Nat} {pv : Value} {ps : List Pg} {C : Nat → Nat} (r : RS h sp pv ps C) (k : Keeps h.size h h') : RS h' sp pv ps C := r.mono fun b f => k.old b (r.lt f)
theorem rnew06_c (h : Heap) : Fn Try.prog 60 [.int .i64 10] h fun x h' => x = ptr h.size 0 ∧ h' = h.push (.cells #[.slice none 0 0, .int .i64 10, .int .u64 0, .int .u64 0] 126 (0, 0)) := by
  refine Fn_c Try.func60 mixed c60 (by kernel_rfl) ?_; rw [r60]
  simp -implicitDefEqProofs (disch := first | omega | (simp only [h_szP, h_szS]; done) | (simp only [h_szP, h_szS]; omega)) only [go_sem, Nat.reduceBEq, reduceCtorEq, Nat.reduceAdd, Int.reduceEq, Int.reduceLT, Int.reduceLE, Int.reduceMul, Int.reduceAdd, Int.reduceSub, reduceIte, Nat.reduceLeDiff, Nat.reduceLT, Nat.reduceMul, Nat.reduceSub, Int.reduceToNat, s60, Try.underlying3, zc126, sd126, pl126_1]
structure Hold9 (X : Prop) : Prop where
  x : X
theorem merge9 {X G : Prop} (f : Hold9 X → G) (t : X) : G := f ⟨t⟩
def hartO (a n sp : Nat) : Obj := .cells (List.toArray (Value.int .u64 0 :: Value.int .u64 0 :: Value.int .u64 0 :: Value.int .u64 0 :: Value.int .u64 0 :: Value.int .u64 0 :: Value.int .u64 0 :: Value.int .u64 0 :: Value.int .u64 0 :: Value.int .u64 0 :: Value.int .u64 0 :: Value.int .u64 0 :: Value.int .u64 0 :: Value.int .u64 0 :: Value.int .u64 0 :: Value.int .u64 0 :: Value.int .u64 0 :: Value.int .u64 0 :: Value.int .u64 0 :: Value.int .u64 0 :: Value.int .u64 0 :: Value.int .u64 0 :: Value.int .u64 0 :: Value.int .u64 0 :: Value.int .u64 0 :: Value.int .u64 0 :: Value.int .u64 0 :: Value.int .u64 0 :: Value.int .u64 0 :: Value.int .u64 0 :: Value.int .u64 0 :: Value.int .u64 0 :: Value.int .u64 0 :: Value.int .u64 a :: Value.int .i64 n :: ptr sp 0 :: [])) 77 (0, 0)
def hartZ (sp : Nat) : Obj := .cells (List.toArray (Value.int .u64 0 :: Value.int .u64 0 :: Value.int .u64 0 :: Value.int .u64 0 :: Value.int .u64 0 :: Value.int .u64 0 :: Value.int .u64 0 :: Value.int .u64 0 :: Value.int .u64 0 :: Value.int .u64 0 :: Value.int .u64 0 :: Value.int .u64 0 :: Value.int .u64 0 :: Value.int .u64 0 :: Value.int .u64 0 :: Value.int .u64 0 :: Value.int .u64 0 :: Value.int .u64 0 :: Value.int .u64 0 :: Value.int .u64 0 :: Value.int .u64 0 :: Value.int .u64 0 :: Value.int .u64 0 :: Value.int .u64 0 :: Value.int .u64 0 :: Value.int .u64 0 :: Value.int .u64 0 :: Value.int .u64 0 :: Value.int .u64 0 :: Value.int .u64 0 :: Value.int .u64 0 :: Value.int .u64 0 :: Value.int .u64 0 :: Value.int .u64 0 :: Value.int .i64 0 :: ptr sp 0 :: [])) 77 (0, 0)
theorem hartZ_eq (sp : Nat) : hartZ sp = hartO 0 0 sp := rfl
/-- what both spaces may. -/
def protL (pl : List Nat) (i : Nat) : Nat := if i < pl.length then pl.getD i 0 % 8 else 3
theorem protL_le (pl : List Nat) (i : Nat) : protL pl i ≤ 7 := by unfold protL; split <;> omega
/-- both spaces: apart, alike. -/
structure Both (h : Heap) (s sp : Nat) (pv : Value) (M : MemD) (ps : List Pg) (C P : Nat → Nat) (m : Nat) : Prop where
  mr : MR h s M
  rs : RS h sp pv ps C
  kq : KeepQ M.rs P m
  len : ps.length = m
  prs : ∀ i (hi : i < ps.length), ps[i].prot = P i
  most : M.most = 10
  ap : ∀ b, rfoot sp pv ps b → ¬ mfoot s M b
theorem spaces_c {h : Heap} {v : Value} {pl : List Nat} (hv : Vs h v encB 1 pl) (hb : ∀ b ∈ pl, b < 256) :
    Fn Try.prog 30 [v] h fun x h' => ∃ s k sp pv M ps, x = .tuple #[ptr s 0, ptr k 0] ∧ Both h' s sp pv M ps (fun _ => 0) (protL pl) 3 ∧ (∀ y, memAt M y = 0) ∧ Keeps h.size h h' ∧ (∀ b, mfoot s M b → h.size ≤ b) ∧ h'[k]? = some (hartO 0 0 sp) ∧ ¬ mfoot s M k ∧ ¬ rfoot sp pv ps k ∧ (∀ b, rfoot sp pv ps b → h.size ≤ b) ∧ h.size ≤ k := by
  obtain ⟨a, cap, e1, hcap⟩ := hv.shape
  subst e1
  refine Fn_c Try.func30 mixed c30 (by kernel_rfl) ?_; rw [r30]
  simp -implicitDefEqProofs (disch := first | omega | (simp only [h_szP, h_szS]; done) | (simp only [h_szP, h_szS]; omega)) only [go_sem, Nat.reduceBEq, reduceCtorEq, Nat.reduceAdd, Int.reduceEq, Int.reduceLT, Int.reduceLE, Int.reduceMul, Int.reduceAdd, Int.reduceSub, reduceIte, Nat.reduceLeDiff, Nat.reduceLT, Nat.reduceMul, Nat.reduceSub, Int.reduceToNat, s30, Try.underlying3, Try.underlying50, sl50, ze5, by5, sz5, sh5, Try.underlying5, Try.underlying22, zc77, sd77, pl77_4]
  refine FnK.use (mnew_c h 10 (by omega)) ?_
  intro y h1 hx1
  obtain ⟨s, M, e1, R, K1, hF, m1, m2, m3, m4, m5, m6⟩ := hx1
  rw [e1]
  simp -implicitDefEqProofs (disch := first | omega | (simp only [h_szP, h_szS]; done) | (simp only [h_szP, h_szS]; omega)) only [go_sem, Nat.reduceBEq, reduceCtorEq, Nat.reduceAdd, Int.reduceEq, Int.reduceLT, Int.reduceLE, Int.reduceMul, Int.reduceAdd, Int.reduceSub, reduceIte, Nat.reduceLeDiff, Nat.reduceLT, Nat.reduceMul, Nat.reduceSub, Int.reduceToNat, s30, Try.underlying3, Try.underlying50, sl50, ze5, by5, sz5, sh5, Try.underlying5, Try.underlying22, zc77, sd77, pl77_4]
  refine FnK.use (rnew06_c h1) ?_
  intro y h2 ⟨e2, e3⟩
  rw [e2]
  simp -implicitDefEqProofs (disch := first | omega | (simp only [h_szP, h_szS]; done) | (simp only [h_szP, h_szS]; omega)) only [go_sem, Nat.reduceBEq, reduceCtorEq, Nat.reduceAdd, Int.reduceEq, Int.reduceLT, Int.reduceLE, Int.reduceMul, Int.reduceAdd, Int.reduceSub, reduceIte, Nat.reduceLeDiff, Nat.reduceLT, Nat.reduceMul, Nat.reduceSub, Int.reduceToNat, s30, Try.underlying3, Try.underlying50, sl50, ze5, by5, sz5, sh5, Try.underlying5, Try.underlying22, zc77, sd77, pl77_4]
  have hsz1 := K1.size
  have k12 : Keeps h1.size h1 h2 := by rw [e3]; exact Keeps.push _ _ (Nat.le_refl _)
  have hn0 : ∀ b, rfoot h1.size (.slice none 0 0) [] b → b = h1.size := by
    rintro b (f | f | ⟨p, hp, _⟩)
    · exact f
    · cases f
    · cases hp
  obtain ⟨I, hI⟩ : ∃ I : Nat → Fr → Heap → Prop, I = fun k fr hh => ∃ (i : Nat) (pv : Value) (M : MemD) (ps : List Pg), i + k = 3 ∧ Both hh s h1.size pv M ps (fun _ => 0) (protL pl) i ∧ (∀ y, memAt M y = 0) ∧ Keeps h.size h hh ∧ (∀ b, mfoot s M b → h.size ≤ b) ∧ (∀ b, rfoot h1.size pv ps b → h.size ≤ b) ∧
      fr = ((((fr0.up 6 (.int .i64 i)).up 5 (ptr h1.size 0)).up 4 (ptr s 0)).up 0 (.slice a pl.length cap)) := ⟨_, rfl⟩
  refine LoopK.use I 3 (by
    rw [hI]
    refine ⟨0, .slice none 0 0, M, [], rfl, ⟨R.ext k12, ⟨by rw [e3]; exact h_pushE _ _ _ rfl, Vs.nil _, fun p hp => (by cases hp), fun i hi => absurd hi (by simp), List.Pairwise.nil, fun p hp => (by cases hp), fun e => by cases e⟩, ?_, rfl, fun i hi => absurd hi (by simp), m3, fun b f g => ?_⟩, fun y => ?_, K1.of_ext k12 (Nat.le_refl _), hF, fun b f => ?_, rfl⟩
    · rw [m1]; exact keepQ_nil _
    · rw [hn0 b f] at g; have := R.lt g; omega
    · unfold memAt byteAt; rw [m2]; rfl
    · rw [hn0 b f]; exact hsz1) ?_
  clear R K1 hF m1 m2 m3 m4 m5 m6 e1 e2 k12 hn0
  intro k fr hh hK
  rw [hI] at hK
  obtain ⟨i, pv, M, ps, hk, B, hz, K1, hF, hR, hf⟩ := hK
  subst hf
  by_cases hi : i < 3
  · have hd1 : decide ((i : Int) < 3) = true := decide_eq_true (by omega)
    obtain ⟨N, hN⟩ : ∃ N : Nat, N = (i + 1) * 4096 := ⟨_, rfl⟩
    obtain ⟨N2, hN2⟩ : ∃ N : Nat, N = (i + 2) * 4096 := ⟨_, rfl⟩
    have hA : ((i : Int) + 1) * 4096 = N := by omega
    have hA2 : ((i : Int) + 2) * 4096 = N2 := by omega
    have hple := protL_le pl i
    rcases Nat.lt_or_ge i pl.length with hpl | hpl
    obtain ⟨vb, vo, cap', e1, hcap', hvb⟩ := hv.open hpl
    cases e1
    have hE : cellO (vo + i) h[vb]? = some (.int .u8 (pl[i] : Nat)) := by have := hv.field encB_len hpl (j := 0) (by omega); simpa [encB] using this
    have hE' := K1.old vb hvb
    have hd2 : decide ((i : Int) < pl.length) = true := decide_eq_true (by omega)
    have hp8 : ((pl[i] : Nat) : Int) % 8 = ((protL pl i : Nat) : Int) := by
      unfold protL
      rw [if_pos hpl, List.getD_eq_getElem?_getD, List.getElem?_eq_getElem hpl, Option.getD_some]; omega
    simp -implicitDefEqProofs (disch := first | omega | (simp only [h_szP, h_szS]; done) | (simp only [h_szP, h_szS]; omega)) only [go_sem, Nat.reduceBEq, reduceCtorEq, Nat.reduceAdd, Int.reduceEq, Int.reduceLT, Int.reduceLE, Int.reduceMul, Int.reduceAdd, Int.reduceSub, reduceIte, Nat.reduceLeDiff, Nat.reduceLT, Nat.reduceMul, Nat.reduceSub, Int.reduceToNat, s30, Try.underlying3, Try.underlying50, sl50, ze5, by5, sz5, sh5, Try.underlying5, Try.underlying22, zc77, sd77, pl77_4, hd1, hd2, hE', hE, Nat.mul_one, hp8, hA]
    rotate_left
    have hd2 : decide ((i : Int) < pl.length) = false := decide_eq_false (by omega)
    have e3 : Value.int .i64 3 = .int .i64 (protL pl i : Nat) := by unfold protL; rw [if_neg (by omega)]; rfl
    simp -implicitDefEqProofs (disch := first | omega | (simp only [h_szP, h_szS]; done) | (simp only [h_szP, h_szS]; omega)) only [go_sem, Nat.reduceBEq, reduceCtorEq, Nat.reduceAdd, Int.reduceEq, Int.reduceLT, Int.reduceLE, Int.reduceMul, Int.reduceAdd, Int.reduceSub, reduceIte, Nat.reduceLeDiff, Nat.reduceLT, Nat.reduceMul, Nat.reduceSub, Int.reduceToNat, s30, Try.underlying3, Try.underlying50, sl50, ze5, by5, sz5, sh5, Try.underlying5, Try.underlying22, zc77, sd77, pl77_4, hd1, hd2, hA]
    rw [e3]
    all_goals
      have hple := protL_le pl i
      refine FnK.use (mmap_c N 4096 (protL pl i : Nat) true B.mr (by omega) (by omega)) ?_
      intro y h5 hx5
      have kq := keepQ_map hN hN2 B.kq (by omega) hple
      have u4 : upN 4096 = 4096 := by decide
      have hNN : N + upN 4096 = N2 := by omega
      have n0 : spanO N 4096 = some N2 := by unfold spanO; rw [u4, if_pos (by omega)]; congr 1
      have sm1 := chain_small kq.wf kq.ch (by omega)
      have sm2 := Chain.pages _ _ _ kq.ch (wf_al kq.wf)
      cases hx5 with
      | bad c => exact absurd (by omega) c
      | noroom c f => cases f
      | nospan c b hb wh => simp only [if_true] at hb; subst hb; rw [n0] at wh; cases wh
      | lay c b hb wh y t ex =>
      simp only [if_true] at hb
      subst hb
      rw [hNN] at t
      have ht : (((protL pl i : Nat) : Int)).toNat = protL pl i := rfl
      rw [ht] at t
      cases t with
      | no c =>
        exfalso
        rw [B.most] at c
        omega
      | yes c1 c2 ey M2 r rs byte most base fin fx sr =>
      rcases ex with ⟨e2, _⟩ | ⟨_, e2⟩
      · rw [ey] at e2; cases e2
      rw [e2]
      unfold numE
      obtain ⟨K5, hF5⟩ := fx.own hF K1
      have nf : ∀ b, rfoot h1.size pv ps b → ¬ mfoot s M2 b := fun b f g => by
        rcases fx.ft b g with z | z
        · exact B.ap b f z
        · have := B.rs.lt f; omega
      have R5 : RS h5 h1.size pv ps (fun _ => 0) := B.rs.mono fun b f => fx.old b (B.rs.lt f) (B.ap b f)
      simp -implicitDefEqProofs (disch := first | omega | (simp only [h_szP, h_szS]; done) | (simp only [h_szP, h_szS]; omega)) only [go_sem, Nat.reduceBEq, reduceCtorEq, Nat.reduceAdd, Int.reduceEq, Int.reduceLT, Int.reduceLE, Int.reduceMul, Int.reduceAdd, Int.reduceSub, reduceIte, Nat.reduceLeDiff, Nat.reduceLT, Nat.reduceMul, Nat.reduceSub, Int.reduceToNat, s30, Try.underlying3, Try.underlying50, sl50, ze5, by5, sz5, sh5, Try.underlying5, Try.underlying22, zc77, sd77, pl77_4, hA, hA2]
      have hb1 : ((b : Nat) : Int) = (((i + 1) * 4096 : Nat) : Int) := by omega
      have hb2 : ((N2 : Nat) : Int) = (((i + 1) * 4096 + 4096 : Nat) : Int) := by omega
      rw [hb1, hb2]
      have hlen := B.len
      refine FnK.use (playd_c (i + 1) h1.size (protL pl i) 10 _ _ R5.top R5.vs (by omega) (by omega) (by omega) (fun p hp => ?_)) ?_
      · obtain ⟨j, hj, e⟩ := List.mem_iff_getElem.1 hp
        rw [← e, B.rs.nos j hj]; omega
      intro y h6 ⟨e6, L⟩
      obtain ⟨⟨pv', bn, t1, t2, t3, t4, t5⟩, Lsz, Lold⟩ := L
      have hsp5 := getElem?_lt R5.top
      simp -implicitDefEqProofs (disch := first | omega | (simp only [h_szP, h_szS]; done) | (simp only [h_szP, h_szS]; omega)) only [go_sem, Nat.reduceBEq, reduceCtorEq, Nat.reduceAdd, Int.reduceEq, Int.reduceLT, Int.reduceLE, Int.reduceMul, Int.reduceAdd, Int.reduceSub, reduceIte, Nat.reduceLeDiff, Nat.reduceLT, Nat.reduceMul, Nat.reduceSub, Int.reduceToNat, s30, Try.underlying3, Try.underlying50, sl50, ze5, by5, sz5, sh5, Try.underlying5, Try.underlying22, zc77, sd77, pl77_4]
      refine ⟨k - 1, by omega, ?_⟩
      rw [hI]
      have old6 : ∀ b, mfoot s M2 b → h6[b]? = h5[b]? := fun b f => Lold b (r.lt f) (fun e => nf h1.size (.inl rfl) (e ▸ f))
      have hnew : ∀ b, rfoot h1.size pv' (ps ++ [⟨i + 1, protL pl i, bn⟩]) b → b = h1.size ∨ h5.size ≤ b ∨ ∃ p ∈ ps, b = p.blk := by
        rintro b (f | f | ⟨p, hp, f⟩)
        · exact .inl f
        · exact .inr (.inl (t5 b f).1)
        · rcases List.mem_append.1 hp with z | z
          · exact .inr (.inr ⟨p, z, f⟩)
          · rw [List.mem_singleton.1 z] at f; exact .inr (.inl (by rw [f]; exact t3))
      refine ⟨i + 1, pv', M2, ps ++ [⟨i + 1, protL pl i, bn⟩], by omega, ⟨r.mono old6, ⟨t1, t2, fun p hp => ?_, fun j hj => ?_, ?_, fun p hp => ?_, fun e => ?_⟩, ?_, by simp [hlen], fun j hj => ?_, most.trans B.most, fun b f g => ?_⟩, fun y => ?_, ⟨by have := K5.size; omega, fun b hb => ?_⟩, hF5, fun b f => ?_, rfl⟩
      · rcases List.mem_append.1 hp with z | z
        · rw [Lold p.blk (R5.lt (.inr (.inr ⟨p, z, rfl⟩))) (R5.nsp p z).1]; exact R5.pg p z
        · rw [List.mem_singleton.1 z, ← rep_range]; exact t4
      · by_cases q : j < ps.length
        · rw [List.getElem_append_left q]; exact B.rs.nos j q
        · have : j = ps.length := by simp at hj; omega
          subst this
          simp [hlen]
      · rw [List.pairwise_append]
        refine ⟨B.rs.blks, List.pairwise_singleton _ _, fun p hp q hq => ?_⟩
        rw [List.mem_singleton.1 hq]
        have := R5.lt (.inr (.inr ⟨p, hp, rfl⟩))
        show p.blk ≠ bn
        omega
      · rcases List.mem_append.1 hp with z | z
        · refine ⟨(R5.nsp p z).1, fun e => ?_⟩
          have := R5.lt (.inr (.inr ⟨p, z, rfl⟩))
          have := (t5 _ e).1; omega
        · rw [List.mem_singleton.1 z]
          refine ⟨?_, fun e => (t5 _ e).2 rfl⟩
          show bn ≠ h1.size
          omega
      · have := (t5 _ e).1; omega
      · rw [rs]; exact kq
      · by_cases q : j < ps.length
        · rw [List.getElem_append_left q]; exact B.prs j q
        · have : j = ps.length := by simp at hj; omega
          subst this
          simp [hlen]
      · rcases hnew b f with z | z | ⟨p, hp, z⟩
        · exact nf _ (.inl rfl) (z ▸ g)
        · have := r.lt g; omega
        · exact nf _ (.inr (.inr ⟨p, hp, rfl⟩)) (z ▸ g)
      · rw [byte, hz]; split <;> rfl
      · rw [Lold b (by have := K5.size; omega) (by omega), K5.old b hb]
      · rcases hnew b f with z | z | ⟨p, hp, z⟩
        · omega
        · have := K5.size; omega
        · exact hR _ (.inr (.inr ⟨p, hp, z⟩))
  · have e1 : i = 3 := by omega
    subst e1
    simp -implicitDefEqProofs (disch := first | omega | (simp only [h_szP, h_szS]; done) | (simp only [h_szP, h_szS]; omega)) only [go_sem, Nat.reduceBEq, reduceCtorEq, Nat.reduceAdd, Int.reduceEq, Int.reduceLT, Int.reduceLE, Int.reduceMul, Int.reduceAdd, Int.reduceSub, reduceIte, Nat.reduceLeDiff, Nat.reduceLT, Nat.reduceMul, Nat.reduceSub, Int.reduceToNat, s30, Try.underlying3, Try.underlying50, sl50, ze5, by5, sz5, sh5, Try.underlying5, Try.underlying22, zc77, sd77, pl77_4]
    refine ⟨s, hh.size, h1.size, pv, M, ps, rfl, ?_, hz, K1.push' (Nat.le_refl _), hF, h_pushE _ _ _ rfl, fun f => (by have := B.mr.lt f; omega), fun f => (by have := B.rs.lt f; omega), hR, K1.size⟩
    have k9 : ∀ o, Keeps hh.size hh (hh.push o) := fun o => Keeps.push hh o (Nat.le_refl _)
    exact ⟨B.mr.ext (k9 _), B.rs.ext (k9 _), B.kq, B.len, B.prs, B.most, B.ap⟩
end Go.SX.G
