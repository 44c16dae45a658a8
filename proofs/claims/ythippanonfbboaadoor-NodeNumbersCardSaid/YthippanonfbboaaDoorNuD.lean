/- The least number that is free is given: the walk. No condition. -/
import Derived.Test.YthippanonfbboaaDoorNuC
set_option linter.unusedVariables false
set_option linter.unusedSimpArgs false
namespace Go.SX.G
open Go Go.SX Go.Proofs
set_option maxRecDepth 100000
set_option maxHeartbeats 4000000
def encI (x : Nat) : List Value := [.int .i64 (x : Int)]
theorem encI_len (x : Nat) : (encI x).length = 1 := rfl
/-- the law's own tables: which number a name has, which numbers are used. -/
structure Tb (h : Heap) (lo ab : Nat) (uv : Value) (L : List NF) : Prop where
  ha : h[ab]? = some (.cells ((atL20 L).map fun n : Nat => Value.int .i64 n).toArray 42 (0, 0))
  hu : Ss h lo uv 3 encI 1 (usedL L)
  la : lo ≤ ab
theorem Tb.mono {h h' : Heap} {lo ab : Nat} {uv : Value} {L : List NF} (T : Tb h lo ab uv L) (ka : h'[ab]? = h[ab]?) (ku : ∀ b, blk uv = some b → h'[b]? = h[b]?) : Tb h' lo ab uv L := ⟨ka.trans T.ha, T.hu.mono ku, T.la⟩
theorem Tb.ext {h h' : Heap} {lo ab : Nat} {uv : Value} {L : List NF} (T : Tb h lo ab uv L) (k : Keeps h.size h h') : Tb h' lo ab uv L := T.mono (k.old _ (getElem?_lt T.ha)) fun b hb => k.old b (T.hu.vs.blk_lt hb)
/-- the tree's calls leave the tables as they are. -/
theorem Tb.call {h h' : Heap} {lo t q r c ab : Nat} {ev uv : Value} {L : List NF} (T : Tb h lo ab uv L) (R : NT h lo t q r c ev L) (o : ∀ b, b < h.size → b ≠ q → b ≠ r → (∀ l ∈ L, b ≠ l.blk) → blk ev ≠ some b → h'[b]? = h[b]?) : Tb h' lo ab uv L := by
  refine T.mono (o _ (getElem?_lt T.ha) (fun e => ?_) (fun e => ?_) (fun l hl e => ?_) (Ss.ne R.he T.ha fun cs f => by simp)) fun b hb => o b (T.hu.vs.blk_lt hb) (fun e => ?_) (fun e => ?_) (fun l hl e => ?_) (Ss.apart T.hu R.he (by decide) hb)
  · have := R.hq; rw [← e, T.ha] at this; simp [mpO] at this
  · have := R.hr; rw [← e, T.ha] at this; simp at this
  · have := (R.hf l hl).1; rw [← e, T.ha] at this; simp at this
  · exact Ss.ne T.hu R.hq (fun cs f => by simp [mpO]) (e ▸ hb)
  · exact Ss.ne T.hu R.hr (fun cs f => by simp) (e ▸ hb)
  · exact Ss.ne T.hu (R.hf l hl).1 (fun cs f => by simp) (e ▸ hb)
theorem setL_one : ∀ (L : List Value) (o : Nat) (v : Value), setL L o [v] = L.set o v
  | [], o, v => by cases o <;> rfl
  | x :: L, 0, v => by cases L <;> rfl
  | x :: L, o + 1, v => by
    have := setL_one L o v
    simp [setL, this]
/-- a number put into the first table. -/
theorem at_store {h : Heap} {ab p n : Nat} {A : List Nat} (ha : h[ab]? = some (.cells (A.map fun n : Nat => Value.int .i64 n).toArray 42 (0, 0))) (hp : p < A.length) :
    ∃ h', wrO h ab p [.int .i64 (n : Int)] h[ab]? = some h' ∧ h'[ab]? = some (.cells ((A.set p n).map fun n : Nat => Value.int .i64 n).toArray 42 (0, 0)) ∧ h'.size = h.size ∧ ∀ c, c ≠ ab → h'[c]? = h[c]? := by
  have lab := getElem?_lt ha
  rw [ha, h_wrO, if_pos ⟨by simp; omega, rfl⟩]
  refine ⟨_, rfl, ?_, by simp, fun c hc => by rw [Array.getElem?_setIfInBounds, if_neg (Ne.symm hc)]⟩
  rw [Array.getElem?_setIfInBounds, if_pos rfl, if_pos lab, List.toList_toArray, setL_one, List.map_set]
theorem encI_rep (n : Nat) : flat encI (List.replicate n 0) = List.replicate n (.int .i64 0) := by
  induction n with
  | zero => rfl
  | succ n ih => rw [List.replicate_succ, List.replicate_succ, flat_cons, ih]; rfl
theorem used_nil : (List.replicate 40 0).set 1 1 = usedL [] := by decide
theorem nodenumbers_c {h : Heap} {nv : Value} {ns : List Nat} (hn : Vs h nv encB 1 ns) (hx : ∀ n ∈ ns, n < 256) :
    Fn Tryd.prog 4 [nv] h fun x h' => x = .bool true ∧ ∀ b, b < h.size → h'[b]? = h[b]? := by
  obtain ⟨na, nc, en, _⟩ := hn.shape
  rw [en] at hn ⊢
  refine Fn_c Tryd.func4 mixed c4 (by kernel_rfl) ?_; rw [r4]
  simp -implicitDefEqProofs (disch := first | omega | (simp only [h_szP, h_szS]; done) | (simp only [h_szP, h_szS]; omega)) only [go_sem, Nat.reduceBEq, reduceCtorEq, Nat.reduceAdd, Int.reduceEq, Int.reduceLT, Int.reduceLE, Int.reduceMul, Int.reduceAdd, Int.reduceSub, reduceIte, Nat.reduceLeDiff, Nat.reduceLT, Nat.reduceMul, Nat.reduceSub, Int.reduceToNat, s4, Tryd.underlying26, zc42, sl43, ze3, by3, sz3, Tryd.underlying23, sl23, ze5, by5, sz5, Tryd.underlying3, sh5, Tryd.underlying5, Tryd.underlying9, ar42, sh3]
  refine FnK.use (nnew_c h) ?_
  intro x h1 ⟨⟨t, q, r, e1, R1, b1, b2, b3⟩, K1⟩
  rw [e1]
  simp -implicitDefEqProofs (disch := first | omega | (simp only [h_szP, h_szS]; done) | (simp only [h_szP, h_szS]; omega)) only [go_sem, Nat.reduceBEq, reduceCtorEq, Nat.reduceAdd, Int.reduceEq, Int.reduceLT, Int.reduceLE, Int.reduceMul, Int.reduceAdd, Int.reduceSub, reduceIte, Nat.reduceLeDiff, Nat.reduceLT, Nat.reduceMul, Nat.reduceSub, Int.reduceToNat, s4, Tryd.underlying26, zc42, sl43, ze3, by3, sz3, Tryd.underlying23, sl23, ze5, by5, sz5, Tryd.underlying3, sh5, Tryd.underlying5, Tryd.underlying9, ar42, sh3]
  refine FnK.use (answers15_c h1) ?_
  intro x h2 ⟨e2, K2⟩
  have s1 := K1.size
  have s2 := K2.size
  rw [e2]
  simp -implicitDefEqProofs (disch := first | omega | (simp only [h_szP, h_szS]; done) | (simp only [h_szP, h_szS]; omega)) only [go_sem, Nat.reduceBEq, reduceCtorEq, Nat.reduceAdd, Int.reduceEq, Int.reduceLT, Int.reduceLE, Int.reduceMul, Int.reduceAdd, Int.reduceSub, reduceIte, Nat.reduceLeDiff, Nat.reduceLT, Nat.reduceMul, Nat.reduceSub, Int.reduceToNat, s4, Tryd.underlying26, zc42, sl43, ze3, by3, sz3, Tryd.underlying23, sl23, ze5, by5, sz5, Tryd.underlying3, sh5, Tryd.underlying5, Tryd.underlying9, ar42, sh3]
  refine mks_one (by_ := 8) (n := 40) sl43 by3 ze3 rfl (by omega) (by omega) ?_
  obtain ⟨h3, e3⟩ : ∃ h3, h3 = (h2.push (.cells ((atL20 []).map fun n : Nat => Value.int .i64 n).toArray 42 (0, 0))).push (.cells (List.replicate 40 (Value.int .i64 0)).toArray 3 (0, 0)) := ⟨_, rfl⟩
  have e3' : (h2.push (.cells #[.int .i64 0, .int .i64 0, .int .i64 0, .int .i64 0, .int .i64 0, .int .i64 0, .int .i64 0, .int .i64 0, .int .i64 0, .int .i64 0, .int .i64 0, .int .i64 0, .int .i64 0, .int .i64 0, .int .i64 0, .int .i64 0, .int .i64 0, .int .i64 0, .int .i64 0, .int .i64 0] 42 (0, 0))).push (.cells (List.replicate 40 (Value.int .i64 0)).toArray 3 (0, 0)) = h3 := by rw [e3]; rfl
  rw [e3']
  have K3 : Keeps h2.size h2 h3 := by rw [e3]; exact (Keeps.push _ _ (Nat.le_refl _)).push' (Nat.le_refl _)
  have a3 : h3[h2.size]? = some (.cells ((atL20 []).map fun n : Nat => Value.int .i64 n).toArray 42 (0, 0)) := by rw [e3, h_pushL _ _ _ (by simp)]; exact h_pushE _ _ _ rfl
  have u3 : Ss h3 h.size (.slice (some ⟨h2.size + 1, 0, none⟩) 40 40) 3 encI 1 (List.replicate 40 0) := Ss.mk encI_len [] (by rw [e3]; exact h_pushE _ _ _ (by simp)) (by rw [encI_rep]; simp) (by simp) (Nat.le_refl _) (by simp) (by omega)
  have z3 : h3.size = h2.size + 2 := by rw [e3]; simp
  rw [Array.size_push]
  obtain ⟨h4, hS, u4, z4, K4, o4⟩ := Ss.store (i := 1) (j := 0) (vs := [.int .i64 1]) encI_len u3 1 (by simp) (by simp) (by simp [encI, setL]) rfl
  rw [used_nil] at u4
  simp only [Nat.zero_add, Nat.mul_one, Nat.add_zero] at hS
  simp -implicitDefEqProofs (disch := first | omega | (simp only [h_szP, h_szS]; done) | (simp only [h_szP, h_szS]; omega)) only [go_sem, Nat.reduceBEq, reduceCtorEq, Nat.reduceAdd, Int.reduceEq, Int.reduceLT, Int.reduceLE, Int.reduceMul, Int.reduceAdd, Int.reduceSub, reduceIte, Nat.reduceLeDiff, Nat.reduceLT, Nat.reduceMul, Nat.reduceSub, Int.reduceToNat, s4, Tryd.underlying26, zc42, sl43, ze3, by3, sz3, Tryd.underlying23, sl23, ze5, by5, sz5, Tryd.underlying3, sh5, Tryd.underlying5, Tryd.underlying9, ar42, sh3, hS]
  have R4 : NT h4 h.size t q r 1 (.slice none 0 0) [] := by
    have R2 := (R1.ext K2).ext K3
    have lt := getElem?_lt (R1.ext K2).t
    have lq := getElem?_lt (R1.ext K2).q
    have lf := getElem?_lt (R1.ext K2).f
    refine ⟨?_, ?_, ?_, Ss.nil _ _ _, (fun l hl => by cases hl), b1, b2, b3, List.Pairwise.nil, fun l hl => by cases hl⟩
    · rw [o4 t (by omega)]; exact R2.t
    · rw [o4 q (by omega)]; exact R2.q
    · rw [o4 r (by omega)]; exact R2.f
  have T4 : Tb h4 h.size h2.size (.slice (some ⟨h2.size + 1, 0, none⟩) 40 40) [] := ⟨by rw [o4 _ (by omega)]; exact a3, u4, by omega⟩
  have q4 : ∀ b, b < h.size → h4[b]? = h[b]? := fun b hb => by rw [o4 b (by omega), K3.old b (by omega), K2.old b (by omega), K1.old b hb]
  have z5 : h.size ≤ h4.size := by omega
  obtain ⟨ub, eub⟩ : ∃ ub, ub = h2.size + 1 := ⟨_, rfl⟩
  obtain ⟨ab, eab⟩ : ∃ ab, ab = h2.size := ⟨_, rfl⟩
  rw [← eub] at T4 ⊢
  rw [← eab] at T4 ⊢
  clear e3 e3' a3 u3 z3 hS u4 z4 K4 o4 K3 R1 K1 K2 s1 s2 eub eab
  obtain ⟨I, hI⟩ : ∃ I : Nat → Fr → Heap → Prop, I = fun k fr hh => ∃ (i c : Nat) (ev : Value) (L : List NF), i + k = min ns.length 100 ∧ NT hh h.size t q r c ev L ∧ Tb hh h.size ab (.slice (some ⟨ub, 0, none⟩) 40 40) L ∧ (∀ b, b < h.size → hh[b]? = h[b]?) ∧ h.size ≤ hh.size ∧ (∀ l ∈ L, l.no < 40) ∧
      fr = (((((fr0.up 7 (.int .i64 i)).up 6 (.slice (some ⟨ub, 0, none⟩) 40 40)).up 5 (ptr ab 0)).up 3 (ptr t 0)).up 0 (.slice na ns.length nc)) := ⟨_, rfl⟩
  refine LoopK.use I (min ns.length 100) (by rw [hI]; exact ⟨0, _, _, _, by omega, R4, T4, q4, z5, (fun l hl => by cases hl), rfl⟩) ?_
  clear R4 T4 q4 z5 h4
  intro k fr hh hK
  rw [hI] at hK
  obtain ⟨i, c, ev, L, hk, R, T, old, hsz, h40, hf⟩ := hK
  subst hf
  by_cases hi : i < ns.length ∧ i < 100
  · have d2 : decide ((i : Int) < ns.length) = true := decide_eq_true (by omega)
    have d3 : decide ((i : Int) < 100) = true := decide_eq_true (by omega)
    have hnH : Vs hh (.slice na ns.length nc) encB 1 ns := hn.mono fun b e => old b (hn.blk_lt e)
    obtain ⟨nb, no, cap', e1, hcap', hnb⟩ := hnH.open hi.1
    cases e1
    have hnb' : nb < h.size := hn.blk_lt rfl
    obtain ⟨x, ex⟩ : ∃ x, x = ns[i] := ⟨_, rfl⟩
    have hx1 : x < 256 := by rw [ex]; exact hx _ (List.getElem_mem hi.1)
    have hE : cellO (no + i) h[nb]? = some (.int .u8 (x : Nat)) := by rw [ex]; have := hn.field encB_len hi.1 (j := 0) (by omega); simpa [encB] using this
    have hE1 : cellO (no + i) hh[nb]? = some (.int .u8 (x : Nat)) := by rw [old nb hnb']; exact hE
    simp -implicitDefEqProofs (disch := first | omega | (simp only [h_szP, h_szS]; done) | (simp only [h_szP, h_szS]; omega)) only [go_sem, Nat.reduceBEq, reduceCtorEq, Nat.reduceAdd, Int.reduceEq, Int.reduceLT, Int.reduceLE, Int.reduceMul, Int.reduceAdd, Int.reduceSub, reduceIte, Nat.reduceLeDiff, Nat.reduceLT, Nat.reduceMul, Nat.reduceSub, Int.reduceToNat, s4, Tryd.underlying26, zc42, sl43, ze3, by3, sz3, Tryd.underlying23, sl23, ze5, by5, sz5, Tryd.underlying3, sh5, Tryd.underlying5, Tryd.underlying9, ar42, sh3, d2, d3, hE1, Nat.mul_one]
    have ek : (x : Int) % 20 = ((x % 20 : Nat) : Int) := by omega
    rw [ek]
    obtain ⟨p, ep⟩ : ∃ p, p = x % 20 := ⟨_, rfl⟩
    have hp : p < 20 := by rw [ep]; exact Nat.mod_lt _ (by omega)
    rw [← ep]
    refine FnK.use (dec_c p (by omega) _) ?_
    intro y h5 ⟨e5, K5⟩
    rw [e5]
    have s5 := K5.size
    have R5 := R.ext K5
    have T5 := T.ext K5
    have o5 : ∀ b, b < h.size → h5[b]? = h[b]? := fun b hb => by rw [K5.old b (by omega), old b hb]
    have hadd : strV .add ⟨#[110]⟩ (udS p) = some (.string (nm p)) := by
      obtain ⟨_, _, _, n4, _⟩ := nm_good p hp
      have e : ((⟨#[110]⟩ : ByteArray) ++ udS p).size = (⟨#[110]⟩ : ByteArray).size + (udS p).size := ByteArray.size_append
      rw [s_add, if_pos (by unfold nm at n4; omega)]
      rfl
    have hA : cellO p h5[ab]? = some (.int .i64 (noOf L p : Nat)) := by
      rw [T5.ha]
      have := at_get (L := L) hp
      show ((atL20 L).map _).toArray[p]? = _
      rw [List.getElem?_toArray, List.getElem?_map, this]
      rfl
    have lab := getElem?_lt T5.ha
    by_cases hz : noOf L p = 0
    · have hfr := noOf_zero R.ap (fun l hl => (R.hb l hl).1) hz
      have hA : cellO p h5[ab]? = some (.int .i64 0) := by rw [hA, hz]; rfl
      obtain ⟨m, m2, mL, mf, mm⟩ := least L
      have hL20 := R.ap.len_lt (fun l hl => (R.hb l hl).2.1) hp hfr
      simp -implicitDefEqProofs (disch := first | omega | (simp only [h_szP, h_szS]; done) | (simp only [h_szP, h_szS]; omega)) only [go_sem, Nat.reduceBEq, reduceCtorEq, Nat.reduceAdd, Int.reduceEq, Int.reduceLT, Int.reduceLE, Int.reduceMul, Int.reduceAdd, Int.reduceSub, reduceIte, Nat.reduceLeDiff, Nat.reduceLT, Nat.reduceMul, Nat.reduceSub, Int.reduceToNat, s4, Tryd.underlying26, zc42, sl43, ze3, by3, sz3, Tryd.underlying23, sl23, ze5, by5, sz5, Tryd.underlying3, sh5, Tryd.underlying5, Tryd.underlying9, ar42, sh3, hadd, hA, Nat.mul_one]
      have hU : ∀ n, n < 40 → cellO n h5[ub]? = some (.int .i64 ((if n = 1 ∨ ∃ l ∈ L, l.no = n then 1 else 0 : Nat) : Int)) := fun n hn4 => by
        have hl40 : (usedL L).length = 40 := by simp [usedL]
        have h1 := T5.hu.vs.field encI_len (i := n) (j := 0) (by omega) (by omega)
        have h2 := used_get (L := L) hn4
        rw [List.getElem?_eq_getElem (by omega)] at h2
        rw [Option.some.inj h2] at h1
        simpa [encI] using h1
      obtain ⟨I2, hI2⟩ : ∃ I2 : Nat → Fr → Heap → Prop, I2 = fun k2 fr g => g = h5 ∧ ∃ n : Nat, 1 ≤ n ∧ n + k2 = m ∧
          fr = ((((((((fr0.up 10 (.int .i64 n)).up 9 (.string (nm p))).up 8 (.int .i64 p)).up 7 (.int .i64 i)).up 6 (.slice (some ⟨ub, 0, none⟩) 40 40)).up 5 (ptr ab 0)).up 3 (ptr t 0)).up 0 (.slice (some ⟨nb, no, none⟩) ns.length nc)) := ⟨_, rfl⟩
      refine LoopK.use I2 (m - 1) (by rw [hI2]; exact ⟨rfl, 1, by omega, by omega, rfl⟩) ?_
      intro k2 fr2 g hK2
      rw [hI2] at hK2
      obtain ⟨eg, n, n1, hk2, hf⟩ := hK2
      subst hf
      subst eg
      have hUn := hU n (by omega)
      by_cases qn : n < m
      · rw [if_pos (by
          by_cases q1 : n = 1
          · exact .inl q1
          · exact .inr (mm n (by omega) qn))] at hUn
        have hUn : cellO n g[ub]? = some (.int .i64 1) := hUn
        simp -implicitDefEqProofs (disch := first | omega | (simp only [h_szP, h_szS]; done) | (simp only [h_szP, h_szS]; omega)) only [go_sem, Nat.reduceBEq, reduceCtorEq, Nat.reduceAdd, Int.reduceEq, Int.reduceLT, Int.reduceLE, Int.reduceMul, Int.reduceAdd, Int.reduceSub, reduceIte, Nat.reduceLeDiff, Nat.reduceLT, Nat.reduceMul, Nat.reduceSub, Int.reduceToNat, s4, Tryd.underlying26, zc42, sl43, ze3, by3, sz3, Tryd.underlying23, sl23, ze5, by5, sz5, Tryd.underlying3, sh5, Tryd.underlying5, Tryd.underlying9, ar42, sh3, hUn, Nat.mul_one]
        refine ⟨k2 - 1, by omega, ?_⟩
        rw [hI2]
        exact ⟨rfl, n + 1, by omega, by omega, rfl⟩
      · have en : n = m := by omega
        subst en
        rw [if_neg (by
          rintro (q | ⟨l, hl, q⟩)
          · omega
          · exact mf l hl q)] at hUn
        have hUn : cellO n g[ub]? = some (.int .i64 0) := hUn
        have hE5 : cellO (no + i) g[nb]? = some (.int .u8 (x : Nat)) := by rw [o5 nb hnb']; exact hE
        simp -implicitDefEqProofs (disch := first | omega | (simp only [h_szP, h_szS]; done) | (simp only [h_szP, h_szS]; omega)) only [go_sem, Nat.reduceBEq, reduceCtorEq, Nat.reduceAdd, Int.reduceEq, Int.reduceLT, Int.reduceLE, Int.reduceMul, Int.reduceAdd, Int.reduceSub, reduceIte, Nat.reduceLeDiff, Nat.reduceLT, Nat.reduceMul, Nat.reduceSub, Int.reduceToNat, s4, Tryd.underlying26, zc42, sl43, ze3, by3, sz3, Tryd.underlying23, sl23, ze5, by5, sz5, Tryd.underlying3, sh5, Tryd.underlying5, Tryd.underlying9, ar42, sh3, hUn, hE5, Nat.mul_one]
        have K6 := Keeps.push g (.cells #[.int .u8 (x : Int)] 5) (Nat.le_refl _)
        have hv : Vs (g.push (.cells #[.int .u8 (x : Int)] 5)) (.slice (some ⟨g.size, 0, none⟩) 1 1) encB 1 [x] :=
          ⟨rfl, .inr ⟨g.size, 0, 1, #[.int .u8 (x : Int)], 5, _, rfl, Nat.le_refl _, h_pushE _ _ _ rfl, by simp, rfl⟩⟩
        refine FnK.use (maken_c (R5.ext K6) (by simp; omega) hp hfr hx1 m2 mf mm (by omega) hv) ?_
        intro y6 h6 ⟨e6, ⟨ev6, yb, dv6, R6⟩, z6, o6⟩
        rw [Array.size_push] at z6
        rw [e6]
        have T6 := (T5.ext K6).call (R5.ext K6) fun b hb p1 p2 p3 p4 => o6 b hb p1 p2 p4
        simp -implicitDefEqProofs (disch := first | omega | (simp only [h_szP, h_szS]; done) | (simp only [h_szP, h_szS]; omega)) only [go_sem, Nat.reduceBEq, reduceCtorEq, Nat.reduceAdd, Int.reduceEq, Int.reduceLT, Int.reduceLE, Int.reduceMul, Int.reduceAdd, Int.reduceSub, reduceIte, Nat.reduceLeDiff, Nat.reduceLT, Nat.reduceMul, Nat.reduceSub, Int.reduceToNat, s4, Tryd.underlying26, zc42, sl43, ze3, by3, sz3, Tryd.underlying23, sl23, ze5, by5, sz5, Tryd.underlying3, sh5, Tryd.underlying5, Tryd.underlying9, ar42, sh3]
        have rd := readn_c (i := L.length) R6 (by simp)
        have eno : (L ++ [(⟨p, n, yb, c, dv6, x⟩ : NF)])[L.length]'(by simp) = ⟨p, n, yb, c, dv6, x⟩ := by simp
        rw [eno] at rd
        refine FnK.use rd ?_
        intro y7 h7 ⟨w, e7, S7, K7⟩
        rw [e7]
        obtain ⟨wb, wc, ew, hwc, hwl, hwb⟩ := S7.open (i := 0) (by simp)
        have ew : w = .slice (some ⟨wb, 0, none⟩) 1 wc := ew
        have hwc : 1 ≤ wc := hwc
        subst ew
        have hW : cellO 0 h7[wb]? = some (.int .u8 (x : Nat)) := by
          have := S7.vs.field encB_len (i := 0) (j := 0) (by simp) (by omega)
          simpa [encB] using this
        have o7 : ∀ b, b < h.size → h7[b]? = h[b]? := fun b hb => by
          rw [K7.old b (by omega), o6 b (by simp; omega) (fun e => ?_) (fun e => ?_) (fun e => ?_), K6.old b (by omega), o5 b hb]
          · have := R.lq; omega
          · have := R.lr; omega
          · have := (R5.he.blk e).1; omega
        have z7 := K7.size
        have hE7 : cellO (no + i) h7[nb]? = some (.int .u8 (x : Nat)) := by rw [o7 nb hnb']; exact hE
        have R7 := R6.ext K7
        have T7 := T6.ext K7
        obtain ⟨h8, w8, a8, z8, o8⟩ := at_store (n := n) T7.ha (p := p) (by simp [atL20]; omega)
        have p2 := at_push (⟨p, n, yb, c, dv6, x⟩ : NF) R7.ap (fun a ha => (R.hb a ha).1)
        have p2 : (atL20 L).set p n = atL20 (L ++ [⟨p, n, yb, c, dv6, x⟩]) := p2
        rw [p2] at a8
        have u8 := T7.hu.mono (h' := h8) fun b hb => o8 b fun e => Ss.ne T7.hu T7.ha (fun cs f => by simp) (e ▸ hb)
        obtain ⟨h9, w9, u9, z9, _, o9⟩ := Ss.store (i := n) (j := 0) (vs := [.int .i64 1]) encI_len u8 1 (by simp [usedL]; omega) (by simp) (by simp [encI, setL]) rfl
        have p3 := used_push (L := L) (⟨p, n, yb, c, dv6, x⟩ : NF)
        have p3 : (usedL L).set n 1 = usedL (L ++ [⟨p, n, yb, c, dv6, x⟩]) := p3
        rw [p3] at u9
        simp only [Nat.zero_add, Nat.mul_one, Nat.add_zero] at w9
        have R8 := R7.other (h' := h8) T7.ha (by decide) (fun b _ hb => o8 b hb)
        obtain ⟨cu, hcu⟩ := Ss.cells u8 (b := ub) rfl
        have R9 := R8.other (h' := h9) hcu (by decide) (fun b _ hb => o9 b hb)
        have nub : ab ≠ ub := fun e => Ss.ne T7.hu T7.ha (fun cs f => by simp) (by rw [e]; rfl)
        have T9 : Tb h9 h.size ab (.slice (some ⟨ub, 0, none⟩) 40 40) (L ++ [⟨p, n, yb, c, dv6, x⟩]) := ⟨by rw [o9 ab nub]; exact a8, u9, T.la⟩
        have lub := (T.hu.blk (b := ub) rfl).1
        have lab2 := T.la
        simp -implicitDefEqProofs (disch := first | omega | (simp only [h_szP, h_szS]; done) | (simp only [h_szP, h_szS]; omega)) only [go_sem, Nat.reduceBEq, reduceCtorEq, Nat.reduceAdd, Int.reduceEq, Int.reduceLT, Int.reduceLE, Int.reduceMul, Int.reduceAdd, Int.reduceSub, reduceIte, Nat.reduceLeDiff, Nat.reduceLT, Nat.reduceMul, Nat.reduceSub, Int.reduceToNat, s4, Tryd.underlying26, zc42, sl43, ze3, by3, sz3, Tryd.underlying23, sl23, ze5, by5, sz5, Tryd.underlying3, sh5, Tryd.underlying5, Tryd.underlying9, ar42, sh3, hW, hE7, w8, w9, Nat.mul_one]
        refine ⟨k - 1, by omega, ?_⟩
        rw [hI]
        refine ⟨i + 1, _, _, _, by omega, R9, T9, fun b hb => by rw [o9 b (by omega), o8 b (by omega), o7 b hb], by omega, fun l hl => ?_, rfl⟩
        rcases List.mem_append.1 hl with hl | hl
        · exact h40 l hl
        · rw [List.mem_singleton] at hl; subst hl; show n < 40; omega
    · obtain ⟨l, hl, hlk, hln⟩ := noOf_pos hz
      obtain ⟨j, hj, ej⟩ := List.mem_iff_getElem.1 hl
      have dz : ((noOf L p : Nat) : Int) = 0 ↔ False := by
        constructor
        · intro e; exact hz (by omega)
        · intro e; cases e
      simp -implicitDefEqProofs (disch := first | omega | (simp only [h_szP, h_szS]; done) | (simp only [h_szP, h_szS]; omega)) only [go_sem, Nat.reduceBEq, reduceCtorEq, Nat.reduceAdd, Int.reduceEq, Int.reduceLT, Int.reduceLE, Int.reduceMul, Int.reduceAdd, Int.reduceSub, reduceIte, Nat.reduceLeDiff, Nat.reduceLT, Nat.reduceMul, Nat.reduceSub, Int.reduceToNat, s4, Tryd.underlying26, zc42, sl43, ze3, by3, sz3, Tryd.underlying23, sl23, ze5, by5, sz5, Tryd.underlying3, sh5, Tryd.underlying5, Tryd.underlying9, ar42, sh3, hadd, hA, dz, Nat.mul_one]
      have rm := removen_c R5 hj
      have ek2 : L[j].k = p := by rw [ej]; exact hlk
      rw [ek2] at rm
      refine FnK.use rm ?_
      intro y6 h6 ⟨e6, ⟨ev6, R6⟩, z6, o6⟩
      rw [e6]
      have T6 := T5.call R5 fun b hb p1 p2 p3 p4 => o6 b hb p1 p2 (p3 _ (List.getElem_mem hj)) p4
      have hA6 : cellO p h6[ab]? = some (.int .i64 (noOf L p : Nat)) := by
        rw [T6.ha]
        have := at_get (L := L) hp
        show ((atL20 L).map _).toArray[p]? = _
        rw [List.getElem?_toArray, List.getElem?_map, this]
        rfl
      have en : noOf L p = L[j].no := by rw [← hln, ej]
      have n40 : L[j].no < 40 := h40 _ (List.getElem_mem hj)
      rw [en] at hA6
      have hb2 : ∀ l ∈ L, 2 ≤ l.no := fun l hl => (R.hb l hl).1
      obtain ⟨h7, w7, u7, z7, _, o7⟩ := Ss.store (i := L[j].no) (j := 0) (vs := [.int .i64 0]) encI_len T6.hu 0 (by simp [usedL]; omega) (by simp) (by simp [encI, setL]) rfl
      rw [used_erase R.ap hb2 hj] at u7
      simp only [Nat.zero_add, Nat.mul_one, Nat.add_zero] at w7
      have nub : ab ≠ ub := fun e => Ss.ne T6.hu T6.ha (fun cs f => by simp) (by rw [e]; rfl)
      have a7 := (o7 ab nub).trans T6.ha
      obtain ⟨h8, w8, a8, z8, o8⟩ := at_store (n := 0) a7 (p := p) (by simp [atL20]; omega)
      have p2 := at_erase R.ap hb2 hj
      rw [ek2] at p2
      rw [p2] at a8
      have u8 := u7.mono (h' := h8) fun b hb => o8 b fun e => Ss.ne u7 a7 (fun cs f => by simp) (e ▸ hb)
      obtain ⟨cu, hcu⟩ := Ss.cells T6.hu (b := ub) rfl
      have R7 := R6.other (h' := h7) hcu (by decide) (fun b _ hb => o7 b hb)
      have R8 := R7.other (h' := h8) a7 (by decide) (fun b _ hb => o8 b hb)
      have lub := (T.hu.blk (b := ub) rfl).1
      have lab2 := T.la
      have w8 : wrO h7 ab p [.int .i64 0] h7[ab]? = some h8 := w8
      have o6' : ∀ b, b < h.size → h6[b]? = h[b]? := fun b hb => by
        rw [o6 b (by omega) (fun e => ?_) (fun e => ?_) (fun e => ?_) (fun e => ?_), o5 b hb]
        · have := R.lq; omega
        · have := R.lr; omega
        · have := (R.hf _ (List.getElem_mem hj)).2.2.2; omega
        · have := (R5.he.blk e).1; omega
      simp -implicitDefEqProofs (disch := first | omega | (simp only [h_szP, h_szS]; done) | (simp only [h_szP, h_szS]; omega)) only [go_sem, Nat.reduceBEq, reduceCtorEq, Nat.reduceAdd, Int.reduceEq, Int.reduceLT, Int.reduceLE, Int.reduceMul, Int.reduceAdd, Int.reduceSub, reduceIte, Nat.reduceLeDiff, Nat.reduceLT, Nat.reduceMul, Nat.reduceSub, Int.reduceToNat, s4, Tryd.underlying26, zc42, sl43, ze3, by3, sz3, Tryd.underlying23, sl23, ze5, by5, sz5, Tryd.underlying3, sh5, Tryd.underlying5, Tryd.underlying9, ar42, sh3, hA6, w7, w8, Nat.mul_one]
      refine ⟨k - 1, by omega, ?_⟩
      rw [hI]
      exact ⟨i + 1, _, _, _, by omega, R8, ⟨a8, u8, T.la⟩, fun b hb => by rw [o8 b (by omega), o7 b (by omega), o6' b hb], by omega, fun l hl => h40 l ((mem_erase R.ap hj l).1 hl).1, rfl⟩
  · have hq : decide ((i : Int) < ns.length) = false ∨ decide ((i : Int) < ns.length) = true ∧ decide ((i : Int) < 100) = false := by
      by_cases q : i < ns.length
      · right; exact ⟨decide_eq_true (by omega), decide_eq_false (fun q2 => hi ⟨q, by omega⟩)⟩
      · left; exact decide_eq_false (by omega)
    rcases hq with q0 | ⟨q0, q1⟩
    · simp -implicitDefEqProofs (disch := first | omega | (simp only [h_szP, h_szS]; done) | (simp only [h_szP, h_szS]; omega)) only [go_sem, Nat.reduceBEq, reduceCtorEq, Nat.reduceAdd, Int.reduceEq, Int.reduceLT, Int.reduceLE, Int.reduceMul, Int.reduceAdd, Int.reduceSub, reduceIte, Nat.reduceLeDiff, Nat.reduceLT, Nat.reduceMul, Nat.reduceSub, Int.reduceToNat, s4, Tryd.underlying26, zc42, sl43, ze3, by3, sz3, Tryd.underlying23, sl23, ze5, by5, sz5, Tryd.underlying3, sh5, Tryd.underlying5, Tryd.underlying9, ar42, sh3, q0]
      exact old
    · simp -implicitDefEqProofs (disch := first | omega | (simp only [h_szP, h_szS]; done) | (simp only [h_szP, h_szS]; omega)) only [go_sem, Nat.reduceBEq, reduceCtorEq, Nat.reduceAdd, Int.reduceEq, Int.reduceLT, Int.reduceLE, Int.reduceMul, Int.reduceAdd, Int.reduceSub, reduceIte, Nat.reduceLeDiff, Nat.reduceLT, Nat.reduceMul, Nat.reduceSub, Int.reduceToNat, s4, Tryd.underlying26, zc42, sl43, ze3, by3, sz3, Tryd.underlying23, sl23, ze5, by5, sz5, Tryd.underlying3, sh5, Tryd.underlying5, Tryd.underlying9, ar42, sh3, q0, q1]
      exact old
end Go.SX.G
