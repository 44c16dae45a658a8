/- What is written into a file is read there, and what is cut off is gone: the walk. No condition. -/
import Derived.Test.YthippanonfbboaaDoorByB
import Derived.Test.YthippanonfbboaaDoorByPlain
set_option linter.unusedVariables false
set_option linter.unusedSimpArgs false
namespace Go.SX.G
open Go Go.SX Go.Proofs
set_option maxRecDepth 100000
set_option maxHeartbeats 4000000
def encH (x : Nat) : List Value := [.int .u16 (x : Int)]
theorem encH_len (x : Nat) : (encH x).length = 1 := rfl
/-- ref01.Same. -/
theorem same15_c {h : Heap} {v w : Value} {xs : List Nat} (hv : Vs h v encB 1 xs) (hw : Vs h w encB 1 xs) (hl : xs.length ≤ 1000000) :
    Fn Tryd.prog 12 [v, w] h fun x h' => x = .bool true ∧ h' = h := by
  obtain ⟨a0, cap0, e0, hcap0⟩ := hv.shape
  subst e0
  obtain ⟨a1, cap1, e1, hcap1⟩ := hw.shape
  subst e1
  refine Fn_c Tryd.func12 mixed c12 (by kernel_rfl) ?_; rw [r12]
  simp -implicitDefEqProofs (disch := first | omega | (simp only [h_szP, h_szS]; done) | (simp only [h_szP, h_szS]; omega)) only [go_sem, Nat.reduceBEq, reduceCtorEq, Nat.reduceAdd, Int.reduceEq, Int.reduceLT, Int.reduceLE, Int.reduceMul, Int.reduceAdd, Int.reduceSub, reduceIte, Nat.reduceLeDiff, Nat.reduceLT, Nat.reduceMul, Nat.reduceSub, Int.reduceToNat, s12, Tryd.underlying23, sl23, ze5, by5, sz5, Tryd.underlying3, sh5, Tryd.underlying5]
  obtain ⟨I, hI⟩ : ∃ I : Nat → Fr → Heap → Prop, I = fun k fr hh => hh = h ∧ ∃ (i : Nat), i + k = xs.length ∧
      fr = (((fr0.up 5 (.int .i64 i)).up 1 (.slice a1 xs.length cap1)).up 0 (.slice a0 xs.length cap0)) := ⟨_, rfl⟩
  refine LoopK.use I xs.length (by rw [hI]; exact ⟨rfl, 0, by omega, rfl⟩) ?_
  intro k fr hh hK
  rw [hI] at hK
  obtain ⟨e0, i, hk, hf⟩ := hK
  have e0 := e0.symm
  subst e0
  subst hf
  by_cases hi : i < xs.length
  · obtain ⟨vb, vo, cap', e1, hcap', hvb⟩ := hv.open hi
    cases e1
    obtain ⟨wb, wo, cap2, e2, hcap2, hwb⟩ := hw.open hi
    cases e2
    have hE : cellO (vo + i) h[vb]? = some (.int .u8 (xs[i] : Nat)) := by have := hv.field encB_len hi (j := 0) (by omega); simpa [encB] using this
    have hE2 : cellO (wo + i) h[wb]? = some (.int .u8 (xs[i] : Nat)) := by have := hw.field encB_len hi (j := 0) (by omega); simpa [encB] using this
    have hd : decide ((i : Int) < xs.length) = true := decide_eq_true (by omega)
    simp -implicitDefEqProofs (disch := first | omega | (simp only [h_szP, h_szS]; done) | (simp only [h_szP, h_szS]; omega)) only [go_sem, Nat.reduceBEq, reduceCtorEq, Nat.reduceAdd, Int.reduceEq, Int.reduceLT, Int.reduceLE, Int.reduceMul, Int.reduceAdd, Int.reduceSub, reduceIte, Nat.reduceLeDiff, Nat.reduceLT, Nat.reduceMul, Nat.reduceSub, Int.reduceToNat, s12, Tryd.underlying23, sl23, ze5, by5, sz5, Tryd.underlying3, sh5, Tryd.underlying5, hd, hE, hE2, Nat.mul_one]
    refine ⟨k - 1, by omega, ?_⟩
    rw [hI]
    exact ⟨rfl, i + 1, by omega, rfl⟩
  · have hd : decide ((i : Int) < xs.length) = false := decide_eq_false (by omega)
    simp -implicitDefEqProofs (disch := first | omega | (simp only [h_szP, h_szS]; done) | (simp only [h_szP, h_szS]; omega)) only [go_sem, Nat.reduceBEq, reduceCtorEq, Nat.reduceAdd, Int.reduceEq, Int.reduceLT, Int.reduceLE, Int.reduceMul, Int.reduceAdd, Int.reduceSub, reduceIte, Nat.reduceLeDiff, Nat.reduceLT, Nat.reduceMul, Nat.reduceSub, Int.reduceToNat, s12, Tryd.underlying23, sl23, ze5, by5, sz5, Tryd.underlying3, sh5, Tryd.underlying5, hd]
/-- a tree of a file, and what it is to hold, apart. -/
structure St (h : Heap) (lo t q r y : Nat) (v w : Value) (D W : List Nat) : Prop where
  ft : FT h lo t q r y v D
  hw : Ss h lo w 5 encB 1 W
  ap : ∀ b, blk w = some b → blk v ≠ some b
theorem St.nw {h : Heap} {lo t q r y : Nat} {v w : Value} {D W : List Nat} (S : St h lo t q r y v w D W) : ∀ b, blk w = some b → b ≠ t ∧ b ≠ q ∧ b ≠ y := by
  intro b hb
  have h1 := S.ft.ht
  have h2 := S.ft.hq
  have h3 := S.ft.hy
  rcases S.hw.2 with ⟨e, _⟩ | ⟨b', cap, e, _, _, rest, hB, _⟩
  · rw [e] at hb; simp [blk] at hb
  · rw [e] at hb
    simp only [blk, Option.some.injEq] at hb
    subst hb
    refine ⟨fun e => ?_, fun e => ?_, fun e => ?_⟩
    · rw [e, h1] at hB; simp at hB
    · rw [e, h2] at hB; simp [mpO] at hB
    · rw [e, h3] at hB; simp at hB
/-- the file is changed. -/
theorem St.chg {h h' : Heap} {lo t q r y : Nat} {v w v' : Value} {D W D' : List Nat} (S : St h lo t q r y v w D W) (C : Chg h h' lo t q r y v D' v') : St h' lo t q r y v' w D' W := by
  refine ⟨C.ft, S.hw.mono fun b hb => ?_, fun b hb e => ?_⟩
  · exact C.old b (S.hw.vs.blk_lt hb) (S.nw b hb).2.2 (S.ap b hb)
  · rcases C.bk with q | q
    · rw [q] at e; exact S.ap b hb e
    · have := q b e
      have := S.hw.vs.blk_lt hb
      omega
/-- what it is to hold is changed. -/
theorem St.wch {h h' : Heap} {lo t q r y : Nat} {v w w' : Value} {D W W' : List Nat} (S : St h lo t q r y v w D W) (S' : Ss h' lo w' 5 encB 1 W') (F : ∀ c, c < h.size → blk w ≠ some c → h'[c]? = h[c]?) (B : ∀ b, blk w' = some b → blk w = some b ∨ h.size ≤ b) : St h' lo t q r y v w' D W' := by
  have lt := getElem?_lt S.ft.ht
  have lq := getElem?_lt S.ft.hq
  have ly := getElem?_lt S.ft.hy
  refine ⟨S.ft.mono (F _ lt fun e => (S.nw _ e).1 rfl) (F _ lq fun e => (S.nw _ e).2.1 rfl) (F _ ly fun e => (S.nw _ e).2.2 rfl) fun b hb => F b (S.ft.hs.vs.blk_lt hb) fun e => S.ap b e hb, S', fun b hb e => ?_⟩
  rcases B b hb with p | p
  · exact S.ap b p e
  · have := S.ft.hs.vs.blk_lt e
    omega
theorem St.ext {h h' : Heap} {lo t q r y : Nat} {v w : Value} {D W : List Nat} (S : St h lo t q r y v w D W) (k : Keeps h.size h h') : St h' lo t q r y v w D W := ⟨S.ft.ext k, S.hw.ext k, S.ap⟩
theorem nodebytes_c {h : Heap} {av bv : Value} {ats bs : List Nat} (ha : Vs h av encH 1 ats) (hx : ∀ n ∈ ats, n < 65536) (hb : Vs h bv encB 1 bs) (hbx : ∀ n ∈ bs, n < 256) (size : Nat) (hs : size < 65536) :
    Fn Tryd.prog 3 [av, bv, .int .u16 size] h fun x h' => x = .bool true ∧ ∀ b, b < h.size → h'[b]? = h[b]? := by
  obtain ⟨aa, ac, ea, _⟩ := ha.shape
  obtain ⟨ba, bc, eb, _⟩ := hb.shape
  have ha0 := ha
  have hb0 := hb
  rw [ea] at ha ⊢
  rw [eb] at hb ⊢
  refine Fn_c Tryd.func3 mixed c3 (by kernel_rfl) ?_; rw [r3]
  simp -implicitDefEqProofs (disch := first | omega | (simp only [h_szP, h_szS]; done) | (simp only [h_szP, h_szS]; omega)) only [go_sem, Nat.reduceBEq, reduceCtorEq, Nat.reduceAdd, Int.reduceEq, Int.reduceLT, Int.reduceLE, Int.reduceMul, Int.reduceAdd, Int.reduceSub, reduceIte, Nat.reduceLeDiff, Nat.reduceLT, Nat.reduceMul, Nat.reduceSub, Int.reduceToNat, s3, Tryd.underlying26, Tryd.underlying23, sl23, ze5, by5, sz5, Tryd.underlying3, Tryd.underlying22, sl22, ze24, by24, sz24, sh24, Tryd.underlying24, sh5, Tryd.underlying5, zc38, sz38, fo38_4, sh3]
  refine FnK.use (nnew_c h) ?_
  intro x h1 ⟨⟨t, q, f, e1, R1, b1, b2, b3⟩, K1⟩
  rw [e1]
  simp -implicitDefEqProofs (disch := first | omega | (simp only [h_szP, h_szS]; done) | (simp only [h_szP, h_szS]; omega)) only [go_sem, Nat.reduceBEq, reduceCtorEq, Nat.reduceAdd, Int.reduceEq, Int.reduceLT, Int.reduceLE, Int.reduceMul, Int.reduceAdd, Int.reduceSub, reduceIte, Nat.reduceLeDiff, Nat.reduceLT, Nat.reduceMul, Nat.reduceSub, Int.reduceToNat, s3, Tryd.underlying26, Tryd.underlying23, sl23, ze5, by5, sz5, Tryd.underlying3, Tryd.underlying22, sl22, ze24, by24, sz24, sh24, Tryd.underlying24, sh5, Tryd.underlying5, zc38, sz38, fo38_4, sh3]
  refine FnK.use (answers15_c h1) ?_
  intro x h2 ⟨e2, K2⟩
  have s1 := K1.size
  have s2 := K2.size
  rw [e2]
  by_cases hl : bs.length ≤ 500
  · have d1 : ((500 : Int) < bs.length) = False := eq_false (by omega)
    simp -implicitDefEqProofs (disch := first | omega | (simp only [h_szP, h_szS]; done) | (simp only [h_szP, h_szS]; omega)) only [go_sem, Nat.reduceBEq, reduceCtorEq, Nat.reduceAdd, Int.reduceEq, Int.reduceLT, Int.reduceLE, Int.reduceMul, Int.reduceAdd, Int.reduceSub, reduceIte, Nat.reduceLeDiff, Nat.reduceLT, Nat.reduceMul, Nat.reduceSub, Int.reduceToNat, s3, Tryd.underlying26, Tryd.underlying23, sl23, ze5, by5, sz5, Tryd.underlying3, Tryd.underlying22, sl22, ze24, by24, sz24, sh24, Tryd.underlying24, sh5, Tryd.underlying5, zc38, sz38, fo38_4, sh3, d1]
    refine FnK.use (makef_c (lo := h.size) (R1.ext K2) b1 b2 (by omega)) ?_
    intro x h3 ⟨e3, ⟨y, FT3⟩, s3, o3⟩
    rw [e3]
    simp -implicitDefEqProofs (disch := first | omega | (simp only [h_szP, h_szS]; done) | (simp only [h_szP, h_szS]; omega)) only [go_sem, Nat.reduceBEq, reduceCtorEq, Nat.reduceAdd, Int.reduceEq, Int.reduceLT, Int.reduceLE, Int.reduceMul, Int.reduceAdd, Int.reduceSub, reduceIte, Nat.reduceLeDiff, Nat.reduceLT, Nat.reduceMul, Nat.reduceSub, Int.reduceToNat, s3, Tryd.underlying26, Tryd.underlying23, sl23, ze5, by5, sz5, Tryd.underlying3, Tryd.underlying22, sl22, ze24, by24, sz24, sh24, Tryd.underlying24, sh5, Tryd.underlying5, zc38, sz38, fo38_4, sh3]
    refine mks_one (by_ := 1) (n := 0) sl23 by5 ze5 rfl (by omega) (by omega) ?_
    obtain ⟨h4, e4⟩ : ∃ h4, h4 = h3.push (.cells (List.replicate 0 (Value.int .u8 0)).toArray 5 (0, 0)) := ⟨_, rfl⟩
    rw [← e4]
    have K4 : Keeps h3.size h3 h4 := by rw [e4]; exact Keeps.push _ _ (Nat.le_refl _)
    have S4 : St h4 h.size t q f y (.slice none 0 0) (.slice (some ⟨h3.size, 0, none⟩) 0 0) [] [] :=
      ⟨FT3.ext K4, Ss.mk encB_len [] (by rw [e4]; exact h_pushE _ _ _ rfl) rfl rfl (Nat.le_refl _) (by simp) (by omega), fun b hb e => by simp [blk] at e⟩
    have o4 : ∀ b, b < h.size → h4[b]? = h[b]? := fun b hb => by rw [K4.old b (by omega), o3 b (by omega) (by omega) (by omega), K2.old b (by omega), K1.old b hb]
    have s4 := K4.size
    have z4 : h.size ≤ h4.size := by omega
    clear e4 K4 o3 s3 FT3 R1 K1 K2 s1 s2 s4
    simp -implicitDefEqProofs (disch := first | omega | (simp only [h_szP, h_szS]; done) | (simp only [h_szP, h_szS]; omega)) only [go_sem, Nat.reduceBEq, reduceCtorEq, Nat.reduceAdd, Int.reduceEq, Int.reduceLT, Int.reduceLE, Int.reduceMul, Int.reduceAdd, Int.reduceSub, reduceIte, Nat.reduceLeDiff, Nat.reduceLT, Nat.reduceMul, Nat.reduceSub, Int.reduceToNat, s3, Tryd.underlying26, Tryd.underlying23, sl23, ze5, by5, sz5, Tryd.underlying3, Tryd.underlying22, sl22, ze24, by24, sz24, sh24, Tryd.underlying24, sh5, Tryd.underlying5, zc38, sz38, fo38_4, sh3]
    obtain ⟨I, hI⟩ : ∃ I : Nat → Fr → Heap → Prop, I = fun k fr hh => ∃ (i : Nat) (v w : Value) (D : List Nat), i + k = min ats.length 20 ∧ St hh h.size t q f y v w D D ∧ (∀ b, b < h.size → hh[b]? = h[b]?) ∧ h.size ≤ hh.size ∧ D.length ≤ 5500 ∧
        fr = (((((((fr0.up 12 (.int .i64 i)).up 11 w).up 9 (.int .i64 2)).up 7 (ptr t 0)).up 2 (.int .u16 size)).up 1 (.slice ba bs.length bc)).up 0 (.slice aa ats.length ac)) := ⟨_, rfl⟩
    refine LoopK.use I (min ats.length 20) (by rw [hI]; exact ⟨0, _, _, [], by omega, S4, o4, z4, by simp, rfl⟩) ?_
    intro k fr hh hK
    rw [hI] at hK
    obtain ⟨i, v, w, D, hk, S, old, hsz, hD, hf⟩ := hK
    subst hf
    obtain ⟨wa, wc, ew, _⟩ := S.hw.vs.shape
    subst ew
    by_cases hi : i < ats.length ∧ i < 20
    · have d2 : decide ((i : Int) < ats.length) = true := decide_eq_true (by omega)
      have d3 : decide ((i : Int) < 20) = true := decide_eq_true (by omega)
      have haH : Vs hh (.slice aa ats.length ac) encH 1 ats := ha.mono fun b e => old b (ha.blk_lt e)
      have hbH : Vs hh (.slice ba bs.length bc) encB 1 bs := hb.mono fun b e => old b (hb.blk_lt e)
      obtain ⟨ab, ao, cap', e1, hcap', hab⟩ := haH.open hi.1
      cases e1
      have hE : cellO (ao + i) hh[ab]? = some (.int .u16 (ats[i] : Nat)) := by have := haH.field encH_len hi.1 (j := 0) (by omega); simpa [encH] using this
      have hx1 := hx _ (List.getElem_mem hi.1)
      simp -implicitDefEqProofs (disch := first | omega | (simp only [h_szP, h_szS]; done) | (simp only [h_szP, h_szS]; omega)) only [go_sem, Nat.reduceBEq, reduceCtorEq, Nat.reduceAdd, Int.reduceEq, Int.reduceLT, Int.reduceLE, Int.reduceMul, Int.reduceAdd, Int.reduceSub, reduceIte, Nat.reduceLeDiff, Nat.reduceLT, Nat.reduceMul, Nat.reduceSub, Int.reduceToNat, s3, Tryd.underlying26, Tryd.underlying23, sl23, ze5, by5, sz5, Tryd.underlying3, Tryd.underlying22, sl22, ze24, by24, sz24, sh24, Tryd.underlying24, sh5, Tryd.underlying5, zc38, sz38, fo38_4, sh3, d2, d3, hE, Nat.mul_one]
      have ek : ((ats[i] : Nat) : Int) % 5000 = ((ats[i] % 5000 : Nat) : Int) := by omega
      rw [ek]
      obtain ⟨p, ep⟩ : ∃ p, p = ats[i] % 5000 := ⟨_, rfl⟩
      have hp : p < 5000 := by rw [ep]; exact Nat.mod_lt _ (by omega)
      rw [← ep]
      clear ek ep hE
      refine FnK.use (write2_c S.ft hbH hsz (fun b e => hb.blk_lt e) hl hp hD) ?_
      intro x h5 ⟨e5, v', C⟩
      rw [e5]
      have S5 := S.chg C
      have o5 : ∀ b, b < h.size → h5[b]? = h[b]? := fun b hb' => by
        have := S.ft.ly
        rw [C.old b (by omega) (by omega) fun e => ?_, old b hb']
        have := (S.ft.hs.blk e).1
        omega
      have z5 : h.size ≤ h5.size := by have := C.sz; omega
      clear C
      simp -implicitDefEqProofs (disch := first | omega | (simp only [h_szP, h_szS]; done) | (simp only [h_szP, h_szS]; omega)) only [go_sem, Nat.reduceBEq, reduceCtorEq, Nat.reduceAdd, Int.reduceEq, Int.reduceLT, Int.reduceLE, Int.reduceMul, Int.reduceAdd, Int.reduceSub, reduceIte, Nat.reduceLeDiff, Nat.reduceLT, Nat.reduceMul, Nat.reduceSub, Int.reduceToNat, s3, Tryd.underlying26, Tryd.underlying23, sl23, ze5, by5, sz5, Tryd.underlying3, Tryd.underlying22, sl22, ze24, by24, sz24, sh24, Tryd.underlying24, sh5, Tryd.underlying5, zc38, sz38, fo38_4, sh3]
      obtain ⟨N2, hN2⟩ : ∃ N2, N2 = if bs = [] then 0 else p + bs.length - D.length := ⟨_, rfl⟩
      obtain ⟨I2, hI2⟩ : ∃ I2 : Nat → Fr → Heap → Prop, I2 = fun k2 fr g => ∃ (m : Nat) (w : Value), m + k2 = N2 ∧ St g h.size t q f y v' w (putD D p bs) (D ++ List.replicate m 0) ∧ (∀ b, b < h.size → g[b]? = h[b]?) ∧ h.size ≤ g.size ∧
          fr = ((((((((fr0.up 13 (.int .i64 p)).up 12 (.int .i64 i)).up 11 w).up 9 (.int .i64 2)).up 7 (ptr t 0)).up 2 (.int .u16 size)).up 1 (.slice ba bs.length bc)).up 0 (.slice (some ⟨ab, ao, none⟩) ats.length ac)) := ⟨_, rfl⟩
      refine LoopK.use I2 N2 (by rw [hI2]; exact ⟨0, _, by omega, by simpa using S5, o5, z5, rfl⟩) ?_
      intro k2 fr2 g hK2
      rw [hI2] at hK2
      obtain ⟨m, w2, hm, S6, o6, z6, hf⟩ := hK2
      subst hf
      obtain ⟨wa2, wc2, ew2, _⟩ := S6.hw.vs.shape
      have el : (D ++ List.replicate m 0).length = D.length + m := by simp
      rw [el] at ew2
      subst ew2
      by_cases hc : bs ≠ [] ∧ D.length + m < p + bs.length
      · have hb0 : 0 < bs.length := List.length_pos_iff.2 hc.1
        have q0 : decide ((0 : Int) < bs.length) = true := decide_eq_true (by omega)
        have q1 : decide (((D.length + m : Nat) : Int) < p + bs.length) = true := decide_eq_true (by omega)
        have q2 : m < N2 := by rw [hN2, if_neg hc.1]; omega
        simp -implicitDefEqProofs (disch := first | omega | (simp only [h_szP, h_szS]; done) | (simp only [h_szP, h_szS]; omega)) only [go_sem, Nat.reduceBEq, reduceCtorEq, Nat.reduceAdd, Int.reduceEq, Int.reduceLT, Int.reduceLE, Int.reduceMul, Int.reduceAdd, Int.reduceSub, reduceIte, Nat.reduceLeDiff, Nat.reduceLT, Nat.reduceMul, Nat.reduceSub, Int.reduceToNat, s3, Tryd.underlying26, Tryd.underlying23, sl23, ze5, by5, sz5, Tryd.underlying3, Tryd.underlying22, sl22, ze24, by24, sz24, sh24, Tryd.underlying24, sh5, Tryd.underlying5, zc38, sz38, fo38_4, sh3, q0, q1]
        refine app_push (lo := h.size) (0 : Nat) elB15 encB_len S6.hw rfl rfl rfl (by rw [el]; omega) z6 ?_
        intro w3 g3 S' K' F' B'
        have e7 : D ++ List.replicate m 0 ++ [0] = D ++ List.replicate (m + 1) 0 := by rw [List.append_assoc, ← List.replicate_succ']
        rw [e7] at S'
        have S7 := S6.wch S' F' B'
        obtain ⟨wa3, wc3, ew3, _⟩ := S'.vs.shape
        simp -implicitDefEqProofs (disch := first | omega | (simp only [h_szP, h_szS]; done) | (simp only [h_szP, h_szS]; omega)) only [go_sem, Nat.reduceBEq, reduceCtorEq, Nat.reduceAdd, Int.reduceEq, Int.reduceLT, Int.reduceLE, Int.reduceMul, Int.reduceAdd, Int.reduceSub, reduceIte, Nat.reduceLeDiff, Nat.reduceLT, Nat.reduceMul, Nat.reduceSub, Int.reduceToNat, s3, Tryd.underlying26, Tryd.underlying23, sl23, ze5, by5, sz5, Tryd.underlying3, Tryd.underlying22, sl22, ze24, by24, sz24, sh24, Tryd.underlying24, sh5, Tryd.underlying5, zc38, sz38, fo38_4, sh3]
        refine ⟨k2 - 1, by omega, ?_⟩
        rw [hI2]
        exact ⟨m + 1, w3, by omega, S7, fun b hb' => by rw [K'.old b hb', o6 b hb'], by have := K'.size; omega, rfl⟩
      · have em : m = N2 := by
          rw [hN2] at hm ⊢
          by_cases hbs : bs = []
          · rw [if_pos hbs] at hm ⊢; omega
          · rw [if_neg hbs] at hm ⊢
            have : ¬ D.length + m < p + bs.length := fun q => hc ⟨hbs, q⟩
            omega
        have hq : decide ((0 : Int) < bs.length) = false ∨ decide ((0 : Int) < bs.length) = true ∧ decide (((D.length + m : Nat) : Int) < p + bs.length) = false := by
          by_cases hbs : bs = []
          · left; rw [hbs]; rfl
          · right
            have hb0 : 0 < bs.length := List.length_pos_iff.2 hbs
            exact ⟨decide_eq_true (by omega), decide_eq_false (fun q => hc ⟨hbs, by omega⟩)⟩
        rcases hq with q0 | ⟨q0, q1⟩
        rotate_left
        simp -implicitDefEqProofs (disch := first | omega | (simp only [h_szP, h_szS]; done) | (simp only [h_szP, h_szS]; omega)) only [go_sem, Nat.reduceBEq, reduceCtorEq, Nat.reduceAdd, Int.reduceEq, Int.reduceLT, Int.reduceLE, Int.reduceMul, Int.reduceAdd, Int.reduceSub, reduceIte, Nat.reduceLeDiff, Nat.reduceLT, Nat.reduceMul, Nat.reduceSub, Int.reduceToNat, s3, Tryd.underlying26, Tryd.underlying23, sl23, ze5, by5, sz5, Tryd.underlying3, Tryd.underlying22, sl22, ze24, by24, sz24, sh24, Tryd.underlying24, sh5, Tryd.underlying5, zc38, sz38, fo38_4, sh3, q0, q1]
        rotate_left
        simp -implicitDefEqProofs (disch := first | omega | (simp only [h_szP, h_szS]; done) | (simp only [h_szP, h_szS]; omega)) only [go_sem, Nat.reduceBEq, reduceCtorEq, Nat.reduceAdd, Int.reduceEq, Int.reduceLT, Int.reduceLE, Int.reduceMul, Int.reduceAdd, Int.reduceSub, reduceIte, Nat.reduceLeDiff, Nat.reduceLT, Nat.reduceMul, Nat.reduceSub, Int.reduceToNat, s3, Tryd.underlying26, Tryd.underlying23, sl23, ze5, by5, sz5, Tryd.underlying3, Tryd.underlying22, sl22, ze24, by24, sz24, sh24, Tryd.underlying24, sh5, Tryd.underlying5, zc38, sz38, fo38_4, sh3, q0]
        all_goals
          obtain ⟨E, hE⟩ : ∃ E, E = D ++ List.replicate N2 0 := ⟨_, rfl⟩
          have eL : (D ++ List.replicate m 0) = E := by rw [hE, em]
          rw [eL] at S6 el
          have eP : putJ E p bs bs.length = putD D p bs := by rw [hE, hN2]; exact putJ_all D p bs
          have hEl : bs ≠ [] → p + bs.length ≤ E.length := fun q => by rw [hE, hN2, if_neg q]; simp; omega
          have lP : ∀ j, j ≤ bs.length → (putJ E p bs j).length = E.length := fun j hj => by
            by_cases hbs : bs = []
            · subst hbs; simp at hj; subst hj; rw [putJ_zero]
            · exact putJ_len E p bs j hj (hEl hbs)
          rw [← el] at *
          obtain ⟨I3, hI3⟩ : ∃ I3 : Nat → Fr → Heap → Prop, I3 = fun k3 fr g => ∃ (j : Nat) (w : Value), j + k3 = bs.length ∧ St g h.size t q f y v' w (putD D p bs) (putJ E p bs j) ∧ (∀ b, b < h.size → g[b]? = h[b]?) ∧ h.size ≤ g.size ∧
              fr = (((((((((fr0.up 16 (.int .i64 j)).up 13 (.int .i64 p)).up 12 (.int .i64 i)).up 11 w).up 9 (.int .i64 2)).up 7 (ptr t 0)).up 2 (.int .u16 size)).up 1 (.slice ba bs.length bc)).up 0 (.slice (some ⟨ab, ao, none⟩) ats.length ac)) := ⟨_, rfl⟩
          refine LoopK.use I3 bs.length (by rw [hI3]; exact ⟨0, _, by omega, by rw [putJ_zero]; exact S6, o6, z6, rfl⟩) ?_
          intro k3 fr3 g3 hK3
          rw [hI3] at hK3
          obtain ⟨j, w3, hj3, S7, o7, z7, hf⟩ := hK3
          subst hf
          by_cases hj : j < bs.length
          · have hne : bs ≠ [] := fun q => by rw [q] at hj; simp at hj
            have hE2 := hEl hne
            have lJ := lP j (by omega)
            obtain ⟨wb, wcap, ew3, hwc, hlb, hwb⟩ := S7.hw.open (i := p + j) (by omega)
            rw [lJ] at ew3 hwc
            subst ew3
            have hbG : Vs g3 (.slice ba bs.length bc) encB 1 bs := hb.mono fun b e => o7 b (hb.blk_lt e)
            obtain ⟨bb, bo, bcap, e8, hbcap, hbb⟩ := hbG.open hj
            injection e8 with e8 e9 e10
            subst e8 e10
            have hB : cellO (bo + j) g3[bb]? = some (.int .u8 (bs[j] : Nat)) := by have := hbG.field encB_len hj (j := 0) (by omega); simpa [encB] using this
            obtain ⟨h7, hS, S8, sz8, K8, o8⟩ := Ss.store (i := p + j) (j := 0) (vs := [.int .u8 ((bs[j] : Nat) : Int)]) encB_len (lJ ▸ S7.hw) bs[j] (by omega) (by simp) (by simp [encB, setL]) rfl
            rw [putJ_set E p bs j hj hE2] at S8
            simp only [Nat.zero_add, Nat.mul_one, Nat.add_zero] at hS
            have d8 : decide ((j : Int) < bs.length) = true := decide_eq_true (by omega)
            simp -implicitDefEqProofs (disch := first | omega | (simp only [h_szP, h_szS]; done) | (simp only [h_szP, h_szS]; omega)) only [go_sem, Nat.reduceBEq, reduceCtorEq, Nat.reduceAdd, Int.reduceEq, Int.reduceLT, Int.reduceLE, Int.reduceMul, Int.reduceAdd, Int.reduceSub, reduceIte, Nat.reduceLeDiff, Nat.reduceLT, Nat.reduceMul, Nat.reduceSub, Int.reduceToNat, s3, Tryd.underlying26, Tryd.underlying23, sl23, ze5, by5, sz5, Tryd.underlying3, Tryd.underlying22, sl22, ze24, by24, sz24, sh24, Tryd.underlying24, sh5, Tryd.underlying5, zc38, sz38, fo38_4, sh3, d8, hB, hS, Nat.mul_one]
            refine ⟨k3 - 1, by omega, ?_⟩
            rw [hI3]
            exact ⟨j + 1, .slice (some ⟨wb, 0, none⟩) E.length wcap, by omega, S7.wch (lJ ▸ S8) (fun c hc hn => o8 c fun e => hn (by rw [e]; rfl)) (fun b hb' => .inl hb'), fun b hb' => by rw [K8.old b hb', o7 b hb'], by omega, rfl⟩
          · have ej : j = bs.length := by omega
            have d8 : decide ((j : Int) < bs.length) = false := decide_eq_false (by omega)
            simp -implicitDefEqProofs (disch := first | omega | (simp only [h_szP, h_szS]; done) | (simp only [h_szP, h_szS]; omega)) only [go_sem, Nat.reduceBEq, reduceCtorEq, Nat.reduceAdd, Int.reduceEq, Int.reduceLT, Int.reduceLE, Int.reduceMul, Int.reduceAdd, Int.reduceSub, reduceIte, Nat.reduceLeDiff, Nat.reduceLT, Nat.reduceMul, Nat.reduceSub, Int.reduceToNat, s3, Tryd.underlying26, Tryd.underlying23, sl23, ze5, by5, sz5, Tryd.underlying3, Tryd.underlying22, sl22, ze24, by24, sz24, sh24, Tryd.underlying24, sh5, Tryd.underlying5, zc38, sz38, fo38_4, sh3, d8]
            refine ⟨k - 1, by omega, ?_⟩
            rw [hI]
            rw [ej, eP] at S7
            exact ⟨i + 1, v', w3, putD D p bs, by omega, S7, o7, z7, putD_le hD (by omega), rfl⟩
    · have hq : decide ((i : Int) < ats.length) = false ∨ decide ((i : Int) < ats.length) = true ∧ decide ((i : Int) < 20) = false := by
        by_cases q : i < ats.length
        · right; exact ⟨decide_eq_true (by omega), decide_eq_false (fun q2 => hi ⟨q, by omega⟩)⟩
        · left; exact decide_eq_false (by omega)
      rcases hq with q0 | ⟨q0, q1⟩
      rotate_left
      simp -implicitDefEqProofs (disch := first | omega | (simp only [h_szP, h_szS]; done) | (simp only [h_szP, h_szS]; omega)) only [go_sem, Nat.reduceBEq, reduceCtorEq, Nat.reduceAdd, Int.reduceEq, Int.reduceLT, Int.reduceLE, Int.reduceMul, Int.reduceAdd, Int.reduceSub, reduceIte, Nat.reduceLeDiff, Nat.reduceLT, Nat.reduceMul, Nat.reduceSub, Int.reduceToNat, s3, Tryd.underlying26, Tryd.underlying23, sl23, ze5, by5, sz5, Tryd.underlying3, Tryd.underlying22, sl22, ze24, by24, sz24, sh24, Tryd.underlying24, sh5, Tryd.underlying5, zc38, sz38, fo38_4, sh3, q0, q1]
      rotate_left
      simp -implicitDefEqProofs (disch := first | omega | (simp only [h_szP, h_szS]; done) | (simp only [h_szP, h_szS]; omega)) only [go_sem, Nat.reduceBEq, reduceCtorEq, Nat.reduceAdd, Int.reduceEq, Int.reduceLT, Int.reduceLE, Int.reduceMul, Int.reduceAdd, Int.reduceSub, reduceIte, Nat.reduceLeDiff, Nat.reduceLT, Nat.reduceMul, Nat.reduceSub, Int.reduceToNat, s3, Tryd.underlying26, Tryd.underlying23, sl23, ze5, by5, sz5, Tryd.underlying3, Tryd.underlying22, sl22, ze24, by24, sz24, sh24, Tryd.underlying24, sh5, Tryd.underlying5, zc38, sz38, fo38_4, sh3, q0]
      all_goals
        refine FnK.use (read2_c S.ft (by omega)) ?_
        intro x h5 ⟨w5, e5, S5, K5⟩
        have s5 := K5.size
        rw [e5]
        simp -implicitDefEqProofs (disch := first | omega | (simp only [h_szP, h_szS]; done) | (simp only [h_szP, h_szS]; omega)) only [go_sem, Nat.reduceBEq, reduceCtorEq, Nat.reduceAdd, Int.reduceEq, Int.reduceLT, Int.reduceLE, Int.reduceMul, Int.reduceAdd, Int.reduceSub, reduceIte, Nat.reduceLeDiff, Nat.reduceLT, Nat.reduceMul, Nat.reduceSub, Int.reduceToNat, s3, Tryd.underlying26, Tryd.underlying23, sl23, ze5, by5, sz5, Tryd.underlying3, Tryd.underlying22, sl22, ze24, by24, sz24, sh24, Tryd.underlying24, sh5, Tryd.underlying5, zc38, sz38, fo38_4, sh3]
        refine FnK.val (same15_c S5.vs (S.hw.vs.ext K5) (by omega)) ?_
        simp -implicitDefEqProofs (disch := first | omega | (simp only [h_szP, h_szS]; done) | (simp only [h_szP, h_szS]; omega)) only [go_sem, Nat.reduceBEq, reduceCtorEq, Nat.reduceAdd, Int.reduceEq, Int.reduceLT, Int.reduceLE, Int.reduceMul, Int.reduceAdd, Int.reduceSub, reduceIte, Nat.reduceLeDiff, Nat.reduceLT, Nat.reduceMul, Nat.reduceSub, Int.reduceToNat, s3, Tryd.underlying26, Tryd.underlying23, sl23, ze5, by5, sz5, Tryd.underlying3, Tryd.underlying22, sl22, ze24, by24, sz24, sh24, Tryd.underlying24, sh5, Tryd.underlying5, zc38, sz38, fo38_4, sh3]
        have ek : (size : Int) % 6000 = ((size % 6000 : Nat) : Int) := by omega
        rw [ek]
        obtain ⟨p, ep⟩ : ∃ p, p = size % 6000 := ⟨_, rfl⟩
        have hp : p < 6000 := by rw [ep]; exact Nat.mod_lt _ (by omega)
        rw [← ep]
        clear ek ep
        have S0 := S.ext K5
        refine FnK.use (cut2_c S0.ft (by omega) (by omega) (by omega)) ?_
        intro x h6 ⟨e6, v6, C6⟩
        rw [e6]
        have S6 := S0.chg C6
        have s6 := C6.sz
        simp -implicitDefEqProofs (disch := first | omega | (simp only [h_szP, h_szS]; done) | (simp only [h_szP, h_szS]; omega)) only [go_sem, Nat.reduceBEq, reduceCtorEq, Nat.reduceAdd, Int.reduceEq, Int.reduceLT, Int.reduceLE, Int.reduceMul, Int.reduceAdd, Int.reduceSub, reduceIte, Nat.reduceLeDiff, Nat.reduceLT, Nat.reduceMul, Nat.reduceSub, Int.reduceToNat, s3, Tryd.underlying26, Tryd.underlying23, sl23, ze5, by5, sz5, Tryd.underlying3, Tryd.underlying22, sl22, ze24, by24, sz24, sh24, Tryd.underlying24, sh5, Tryd.underlying5, zc38, sz38, fo38_4, sh3]
        refine FnK.use (cut2_c (k := 6000) S6.ft (by omega) (by rw [cutD_len]; omega) (by omega)) ?_
        intro x h7 ⟨e7, v7, C7⟩
        rw [e7]
        have S7 := S6.chg C7
        have s7 := C7.sz
        simp -implicitDefEqProofs (disch := first | omega | (simp only [h_szP, h_szS]; done) | (simp only [h_szP, h_szS]; omega)) only [go_sem, Nat.reduceBEq, reduceCtorEq, Nat.reduceAdd, Int.reduceEq, Int.reduceLT, Int.reduceLE, Int.reduceMul, Int.reduceAdd, Int.reduceSub, reduceIte, Nat.reduceLeDiff, Nat.reduceLT, Nat.reduceMul, Nat.reduceSub, Int.reduceToNat, s3, Tryd.underlying26, Tryd.underlying23, sl23, ze5, by5, sz5, Tryd.underlying3, Tryd.underlying22, sl22, ze24, by24, sz24, sh24, Tryd.underlying24, sh5, Tryd.underlying5, zc38, sz38, fo38_4, sh3]
        refine FnK.use (read2_c S7.ft (by rw [cutD_len]; omega)) ?_
        intro x h8 ⟨w8, e8, S8, K8⟩
        have s8 := K8.size
        obtain ⟨a8, c8, ew8, _⟩ := S8.vs.shape
        rw [cutD_len] at ew8
        rw [e8]
        subst ew8
        have S9 := S7.ext K8
        have o8 : ∀ b, b < h.size → h8[b]? = h[b]? := fun b hb' => by
          have ly := S.ft.ly
          have l1 : blk v ≠ some b := fun e => by have := (S.ft.hs.blk e).1; omega
          have l2 : blk v6 ≠ some b := fun e => by have := (C6.ft.hs.blk e).1; omega
          rw [K8.old b (by omega), C7.old b (by omega) (by omega) l2, C6.old b (by omega) (by omega) l1, K5.old b (by omega), old b hb']
        simp -implicitDefEqProofs (disch := first | omega | (simp only [h_szP, h_szS]; done) | (simp only [h_szP, h_szS]; omega)) only [go_sem, Nat.reduceBEq, reduceCtorEq, Nat.reduceAdd, Int.reduceEq, Int.reduceLT, Int.reduceLE, Int.reduceMul, Int.reduceAdd, Int.reduceSub, reduceIte, Nat.reduceLeDiff, Nat.reduceLT, Nat.reduceMul, Nat.reduceSub, Int.reduceToNat, s3, Tryd.underlying26, Tryd.underlying23, sl23, ze5, by5, sz5, Tryd.underlying3, Tryd.underlying22, sl22, ze24, by24, sz24, sh24, Tryd.underlying24, sh5, Tryd.underlying5, zc38, sz38, fo38_4, sh3]
        obtain ⟨I4, hI4⟩ : ∃ I4 : Nat → Fr → Heap → Prop, I4 = fun k4 fr g => g = h8 ∧ ∃ (i : Nat), i + k4 = 6000 ∧
          fr = ((((((fr0.up 20 (.int .i64 i)).up 19 (.int .i64 p)).up 17 (.slice a8 6000 c8)).up 11 (.slice wa D.length wc)).up 9 (.int .i64 2)).up 7 (ptr t 0)) := ⟨_, rfl⟩
        refine LoopK.use I4 6000 (by rw [hI4]; exact ⟨rfl, 0, by omega, rfl⟩) ?_
        intro k4 fr4 g4 hK4
        rw [hI4] at hK4
        obtain ⟨e9, i4, hk4, hf⟩ := hK4
        subst hf
        subst e9
        by_cases hi4 : i4 < 6000
        · have d8 : decide ((i4 : Int) < 6000) = true := decide_eq_true (by omega)
          obtain ⟨cb, co, cc, ec, hcc, hcb⟩ := S8.vs.open (i := i4) (by rw [cutD_len]; omega)
          rw [cutD_len] at ec
          injection ec with ec1 ec2 ec3
          subst ec1 ec3
          have hC : cellO (co + i4) g4[cb]? = some (.int .u8 ((if i4 < p ∧ i4 < D.length then D.getD i4 0 else 0 : Nat) : Int)) := by
            have hl : i4 < (cutD (cutD D p) 6000).length := by rw [cutD_len]; omega
            have h1 := S8.vs.field encB_len hl (j := 0) (by omega)
            have h2 := cut2_get D p i4 hp hi4
            rw [List.getElem?_eq_getElem hl] at h2
            rw [Option.some.inj h2] at h1
            simpa [encB] using h1
          by_cases h1 : i4 < p
          · have d1 : decide ((i4 : Int) < p) = true := decide_eq_true (by omega)
            by_cases h2 : i4 < D.length
            · have d2 : decide ((i4 : Int) < D.length) = true := decide_eq_true (by omega)
              rw [if_pos ⟨h1, h2⟩] at hC
              obtain ⟨wb, wo, wcc, ec, hwc, hwb⟩ := S9.hw.vs.open (i := i4) h2
              injection ec with ec1 ec2 ec3
              subst ec1 ec3
              have hW : cellO (wo + i4) g4[wb]? = some (.int .u8 ((D.getD i4 0 : Nat) : Int)) := by
                have h1 := S9.hw.vs.field encB_len h2 (j := 0) (by omega)
                rw [List.getD_eq_getElem?_getD, List.getElem?_eq_getElem h2]
                simpa [encB] using h1
              simp -implicitDefEqProofs (disch := first | omega | (simp only [h_szP, h_szS]; done) | (simp only [h_szP, h_szS]; omega)) only [go_sem, Nat.reduceBEq, reduceCtorEq, Nat.reduceAdd, Int.reduceEq, Int.reduceLT, Int.reduceLE, Int.reduceMul, Int.reduceAdd, Int.reduceSub, reduceIte, Nat.reduceLeDiff, Nat.reduceLT, Nat.reduceMul, Nat.reduceSub, Int.reduceToNat, s3, Tryd.underlying26, Tryd.underlying23, sl23, ze5, by5, sz5, Tryd.underlying3, Tryd.underlying22, sl22, ze24, by24, sz24, sh24, Tryd.underlying24, sh5, Tryd.underlying5, zc38, sz38, fo38_4, sh3, d8, d1, d2, hC, hW, Nat.mul_one]
              refine ⟨k4 - 1, by omega, ?_⟩
              rw [hI4]
              exact ⟨rfl, i4 + 1, by omega, rfl⟩
            · have d2 : decide ((i4 : Int) < D.length) = false := decide_eq_false (by omega)
              rw [if_neg (fun q => h2 q.2)] at hC
              simp -implicitDefEqProofs (disch := first | omega | (simp only [h_szP, h_szS]; done) | (simp only [h_szP, h_szS]; omega)) only [go_sem, Nat.reduceBEq, reduceCtorEq, Nat.reduceAdd, Int.reduceEq, Int.reduceLT, Int.reduceLE, Int.reduceMul, Int.reduceAdd, Int.reduceSub, reduceIte, Nat.reduceLeDiff, Nat.reduceLT, Nat.reduceMul, Nat.reduceSub, Int.reduceToNat, s3, Tryd.underlying26, Tryd.underlying23, sl23, ze5, by5, sz5, Tryd.underlying3, Tryd.underlying22, sl22, ze24, by24, sz24, sh24, Tryd.underlying24, sh5, Tryd.underlying5, zc38, sz38, fo38_4, sh3, d8, d1, d2, hC, Nat.mul_one]
              refine ⟨k4 - 1, by omega, ?_⟩
              rw [hI4]
              exact ⟨rfl, i4 + 1, by omega, rfl⟩
          · have d1 : decide ((i4 : Int) < p) = false := decide_eq_false (by omega)
            rw [if_neg (fun q => h1 q.1)] at hC
            simp -implicitDefEqProofs (disch := first | omega | (simp only [h_szP, h_szS]; done) | (simp only [h_szP, h_szS]; omega)) only [go_sem, Nat.reduceBEq, reduceCtorEq, Nat.reduceAdd, Int.reduceEq, Int.reduceLT, Int.reduceLE, Int.reduceMul, Int.reduceAdd, Int.reduceSub, reduceIte, Nat.reduceLeDiff, Nat.reduceLT, Nat.reduceMul, Nat.reduceSub, Int.reduceToNat, s3, Tryd.underlying26, Tryd.underlying23, sl23, ze5, by5, sz5, Tryd.underlying3, Tryd.underlying22, sl22, ze24, by24, sz24, sh24, Tryd.underlying24, sh5, Tryd.underlying5, zc38, sz38, fo38_4, sh3, d8, d1, hC, Nat.mul_one]
            refine ⟨k4 - 1, by omega, ?_⟩
            rw [hI4]
            exact ⟨rfl, i4 + 1, by omega, rfl⟩
        · have d8 : decide ((i4 : Int) < 6000) = false := decide_eq_false (by omega)
          simp -implicitDefEqProofs (disch := first | omega | (simp only [h_szP, h_szS]; done) | (simp only [h_szP, h_szS]; omega)) only [go_sem, Nat.reduceBEq, reduceCtorEq, Nat.reduceAdd, Int.reduceEq, Int.reduceLT, Int.reduceLE, Int.reduceMul, Int.reduceAdd, Int.reduceSub, reduceIte, Nat.reduceLeDiff, Nat.reduceLT, Nat.reduceMul, Nat.reduceSub, Int.reduceToNat, s3, Tryd.underlying26, Tryd.underlying23, sl23, ze5, by5, sz5, Tryd.underlying3, Tryd.underlying22, sl22, ze24, by24, sz24, sh24, Tryd.underlying24, sh5, Tryd.underlying5, zc38, sz38, fo38_4, sh3, d8]
          refine FnK.use (info2_c S9.ft) ?_
          intro x h9 ⟨e9, K9⟩
          rw [cutD_len] at e9
          have s9 := K9.size
          rw [e9]
          simp -implicitDefEqProofs (disch := first | omega | (simp only [h_szP, h_szS]; done) | (simp only [h_szP, h_szS]; omega)) only [go_sem, Nat.reduceBEq, reduceCtorEq, Nat.reduceAdd, Int.reduceEq, Int.reduceLT, Int.reduceLE, Int.reduceMul, Int.reduceAdd, Int.reduceSub, reduceIte, Nat.reduceLeDiff, Nat.reduceLT, Nat.reduceMul, Nat.reduceSub, Int.reduceToNat, s3, Tryd.underlying26, Tryd.underlying23, sl23, ze5, by5, sz5, Tryd.underlying3, Tryd.underlying22, sl22, ze24, by24, sz24, sh24, Tryd.underlying24, sh5, Tryd.underlying5, zc38, sz38, fo38_4, sh3]
          refine FnK.val (cutbig_c ((S9.ft.ext K9).ext (Keeps.push _ _ (Nat.le_refl _)))) ?_
          simp -implicitDefEqProofs (disch := first | omega | (simp only [h_szP, h_szS]; done) | (simp only [h_szP, h_szS]; omega)) only [go_sem, Nat.reduceBEq, reduceCtorEq, Nat.reduceAdd, Int.reduceEq, Int.reduceLT, Int.reduceLE, Int.reduceMul, Int.reduceAdd, Int.reduceSub, reduceIte, Nat.reduceLeDiff, Nat.reduceLT, Nat.reduceMul, Nat.reduceSub, Int.reduceToNat, s3, Tryd.underlying26, Tryd.underlying23, sl23, ze5, by5, sz5, Tryd.underlying3, Tryd.underlying22, sl22, ze24, by24, sz24, sh24, Tryd.underlying24, sh5, Tryd.underlying5, zc38, sz38, fo38_4, sh3]
          exact fun b hb' => by rw [h_pushL _ _ _ (by omega), K9.old b (by omega), o8 b hb']
  · have d1 : ((500 : Int) < bs.length) = True := eq_true (by omega)
    simp -implicitDefEqProofs (disch := first | omega | (simp only [h_szP, h_szS]; done) | (simp only [h_szP, h_szS]; omega)) only [go_sem, Nat.reduceBEq, reduceCtorEq, Nat.reduceAdd, Int.reduceEq, Int.reduceLT, Int.reduceLE, Int.reduceMul, Int.reduceAdd, Int.reduceSub, reduceIte, Nat.reduceLeDiff, Nat.reduceLT, Nat.reduceMul, Nat.reduceSub, Int.reduceToNat, s3, Tryd.underlying26, Tryd.underlying23, sl23, ze5, by5, sz5, Tryd.underlying3, Tryd.underlying22, sl22, ze24, by24, sz24, sh24, Tryd.underlying24, sh5, Tryd.underlying5, zc38, sz38, fo38_4, sh3, d1]
    refine FnK.use (answers15_c h2) ?_
    intro x h3 ⟨e3, K3⟩
    rw [e3]
    simp -implicitDefEqProofs (disch := first | omega | (simp only [h_szP, h_szS]; done) | (simp only [h_szP, h_szS]; omega)) only [go_sem, Nat.reduceBEq, reduceCtorEq, Nat.reduceAdd, Int.reduceEq, Int.reduceLT, Int.reduceLE, Int.reduceMul, Int.reduceAdd, Int.reduceSub, reduceIte, Nat.reduceLeDiff, Nat.reduceLT, Nat.reduceMul, Nat.reduceSub, Int.reduceToNat, s3, Tryd.underlying26, Tryd.underlying23, sl23, ze5, by5, sz5, Tryd.underlying3, Tryd.underlying22, sl22, ze24, by24, sz24, sh24, Tryd.underlying24, sh5, Tryd.underlying5, zc38, sz38, fo38_4, sh3]
    exact fun b hb => by rw [K3.old b (by omega), K2.old b (by omega), K1.old b hb]
end Go.SX.G
