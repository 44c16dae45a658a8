/- A tree of a root and files in it: what is made and read. No condition. -/
import Derived.Test.YthippanonfbboaaDoorNuA
set_option linter.unusedVariables false
set_option linter.unusedSimpArgs false
namespace Go.SX.G
open Go Go.SX Go.Proofs
set_option maxRecDepth 100000
set_option maxHeartbeats 1000000
theorem freen_c {h : Heap} {lo t q r c no : Nat} {ev : Value} {L : List NF} (R : NT h lo t q r c ev L) (h2 : 2 ≤ no) (hn : ∀ l ∈ L, l.no ≠ no) (hm : ∀ m, 2 ≤ m → m < no → ∃ l ∈ L, l.no = m) (hno : no ≤ 1000) :
    Fn Tryd.prog 31 [ptr t 0] h fun x h' => x = .int .i64 no ∧ h' = h := by
  have h1 := R.ht
  refine Fn_c Tryd.func31 mixed c31 (by kernel_rfl) ?_; rw [r31]
  simp -implicitDefEqProofs (disch := first | omega | (simp only [h_szP, h_szS]; done) | (simp only [h_szP, h_szS]; omega)) only [go_sem, Nat.reduceBEq, reduceCtorEq, Nat.reduceAdd, Int.reduceEq, Int.reduceLT, Int.reduceLE, Int.reduceMul, Int.reduceAdd, Int.reduceSub, reduceIte, Nat.reduceLeDiff, Nat.reduceLT, Nat.reduceMul, Nat.reduceSub, Int.reduceToNat, s31, fo72_0, sh70, Tryd.underlying70, Tryd.underlying3, ze67, Tryd.underlying67]
  obtain ⟨I, hI⟩ : ∃ I : Nat → Fr → Heap → Prop, I = fun k fr hh => hh = h ∧ ∃ n : Nat, 1 ≤ n ∧ n + k = no ∧ fr = ((fr0.up 3 (.int .i64 n)).up 0 (ptr t 0)) := ⟨_, rfl⟩
  refine LoopK.use I (no - 1) (by rw [hI]; exact ⟨rfl, 1, by omega, by omega, rfl⟩) ?_
  intro k fr hh hK
  rw [hI] at hK
  obtain ⟨e0, n, hn1, hk, hf⟩ := hK
  subst hf
  subst e0
  by_cases q1 : n = 1
  · subst q1
    simp -implicitDefEqProofs (disch := first | omega | (simp only [h_szP, h_szS]; done) | (simp only [h_szP, h_szS]; omega)) only [go_sem, Nat.reduceBEq, reduceCtorEq, Nat.reduceAdd, Int.reduceEq, Int.reduceLT, Int.reduceLE, Int.reduceMul, Int.reduceAdd, Int.reduceSub, reduceIte, Nat.reduceLeDiff, Nat.reduceLT, Nat.reduceMul, Nat.reduceSub, Int.reduceToNat, s31, fo72_0, sh70, Tryd.underlying70, Tryd.underlying3, ze67, Tryd.underlying67, h1]
    refine obK.use _ (look_some Tryd.underlying70 Tryd.underlying3 R.hq (j := 0) (by simp [mE]) rfl (fun a ha => absurd ha (by omega)) false) ?_
    have e9 : (if false = true then Value.tuple #[((mE r L)[0]'(by simp [mE])).2.1, .bool true] else ((mE r L)[0]'(by simp [mE])).2.1) = ptr r 0 := rfl
    rw [e9]
    simp -implicitDefEqProofs (disch := first | omega | (simp only [h_szP, h_szS]; done) | (simp only [h_szP, h_szS]; omega)) only [go_sem, Nat.reduceBEq, reduceCtorEq, Nat.reduceAdd, Int.reduceEq, Int.reduceLT, Int.reduceLE, Int.reduceMul, Int.reduceAdd, Int.reduceSub, reduceIte, Nat.reduceLeDiff, Nat.reduceLT, Nat.reduceMul, Nat.reduceSub, Int.reduceToNat, s31, fo72_0, sh70, Tryd.underlying70, Tryd.underlying3, ze67, Tryd.underlying67, h1]
    refine ⟨k - 1, by omega, ?_⟩
    rw [hI]
    exact ⟨rfl, 2, by omega, by omega, rfl⟩
  · by_cases q2 : n = no
    · subst q2
      simp -implicitDefEqProofs (disch := first | omega | (simp only [h_szP, h_szS]; done) | (simp only [h_szP, h_szS]; omega)) only [go_sem, Nat.reduceBEq, reduceCtorEq, Nat.reduceAdd, Int.reduceEq, Int.reduceLT, Int.reduceLE, Int.reduceMul, Int.reduceAdd, Int.reduceSub, reduceIte, Nat.reduceLeDiff, Nat.reduceLT, Nat.reduceMul, Nat.reduceSub, Int.reduceToNat, s31, fo72_0, sh70, Tryd.underlying70, Tryd.underlying3, ze67, Tryd.underlying67, h1]
      refine obK.use _ (look_none Tryd.underlying70 Tryd.underlying3 ze67 R.hq (fun x hx => ?_) false) ?_
      · rcases List.mem_cons.1 hx with e | hx
        · rw [e]; show (1 : Int) ≠ _; omega
        · obtain ⟨l, hl, rfl⟩ := List.mem_map.1 hx
          have := hn l hl
          show (l.no : Int) ≠ _
          omega
      simp -implicitDefEqProofs (disch := first | omega | (simp only [h_szP, h_szS]; done) | (simp only [h_szP, h_szS]; omega)) only [go_sem, Nat.reduceBEq, reduceCtorEq, Nat.reduceAdd, Int.reduceEq, Int.reduceLT, Int.reduceLE, Int.reduceMul, Int.reduceAdd, Int.reduceSub, reduceIte, Nat.reduceLeDiff, Nat.reduceLT, Nat.reduceMul, Nat.reduceSub, Int.reduceToNat, s31, fo72_0, sh70, Tryd.underlying70, Tryd.underlying3, ze67, Tryd.underlying67]
    · obtain ⟨l, hl, e⟩ := hm n (by omega) (by omega)
      obtain ⟨i, hi, e2⟩ := List.mem_iff_getElem.1 hl
      have e3 : L[i].no = n := by rw [e2]; exact e
      simp -implicitDefEqProofs (disch := first | omega | (simp only [h_szP, h_szS]; done) | (simp only [h_szP, h_szS]; omega)) only [go_sem, Nat.reduceBEq, reduceCtorEq, Nat.reduceAdd, Int.reduceEq, Int.reduceLT, Int.reduceLE, Int.reduceMul, Int.reduceAdd, Int.reduceSub, reduceIte, Nat.reduceLeDiff, Nat.reduceLT, Nat.reduceMul, Nat.reduceSub, Int.reduceToNat, s31, fo72_0, sh70, Tryd.underlying70, Tryd.underlying3, ze67, Tryd.underlying67, h1]
      refine obK.use _ (look_some Tryd.underlying70 Tryd.underlying3 R.hq (j := i + 1) (by simp [mE]; omega) (by rw [mE_get hi, e3]) (by rw [← e3]; exact mE_before R.ap (fun l hl => (R.hb l hl).1) hi) false) ?_
      rw [mE_get hi]
      simp -implicitDefEqProofs (disch := first | omega | (simp only [h_szP, h_szS]; done) | (simp only [h_szP, h_szS]; omega)) only [go_sem, Nat.reduceBEq, reduceCtorEq, Nat.reduceAdd, Int.reduceEq, Int.reduceLT, Int.reduceLE, Int.reduceMul, Int.reduceAdd, Int.reduceSub, reduceIte, Nat.reduceLeDiff, Nat.reduceLT, Nat.reduceMul, Nat.reduceSub, Int.reduceToNat, s31, fo72_0, sh70, Tryd.underlying70, Tryd.underlying3, ze67, Tryd.underlying67, h1]
      refine ⟨k - 1, by omega, ?_⟩
      rw [hI]
      exact ⟨rfl, n + 1, by omega, by omega, rfl⟩
theorem good1n_c (h : Heap) (a : Option Addr) (c : Nat) : Fn Tryd.prog 30 [.int .i64 1, .int .i64 0, .slice a 1 c] h fun x h' => x = .bool true ∧ h' = h := by
  refine Fn_c Tryd.func30 mixed c30 (by kernel_rfl) ?_; rw [r30]
  simp -implicitDefEqProofs (disch := first | omega | (simp only [h_szP, h_szS]; done) | (simp only [h_szP, h_szS]; omega)) only [go_sem, Nat.reduceBEq, reduceCtorEq, Nat.reduceAdd, Int.reduceEq, Int.reduceLT, Int.reduceLE, Int.reduceMul, Int.reduceAdd, Int.reduceSub, reduceIte, Nat.reduceLeDiff, Nat.reduceLT, Nat.reduceMul, Nat.reduceSub, Int.reduceToNat, s30, Tryd.underlying3, Tryd.underlying23, sl23, ze5, by5, sz5]
theorem maken_c {h : Heap} {lo t q r c k no x : Nat} {ev v : Value} {L : List NF} (R : NT h lo t q r c ev L) (lh : lo ≤ h.size) (hk : k < 20) (hf : ∀ l ∈ L, l.k ≠ k) (hx : x < 256) (h2 : 2 ≤ no) (hn : ∀ l ∈ L, l.no ≠ no) (hm : ∀ m, 2 ≤ m → m < no → ∃ l ∈ L, l.no = m) (hno : no ≤ 1000) (hv : Vs h v encB 1 [x]) :
    Fn Tryd.prog 9 [ptr t 0, .int .i64 1, .string (nm k), .int .i64 1, .int .i64 0, v] h fun y h' => y = .tuple #[.int .i64 no, .int .i64 0] ∧ (∃ ev' y dv, NT h' lo t q r (c + 1) ev' (L ++ [⟨k, no, y, c, dv, x⟩])) ∧ h.size ≤ h'.size ∧ ∀ b, b < h.size → b ≠ q → b ≠ r → blk ev ≠ some b → h'[b]? = h[b]? := by
  obtain ⟨av, cv, e0, _⟩ := hv.shape
  rw [e0] at hv ⊢
  refine Fn_c Tryd.func9 mixed c9 (by kernel_rfl) ?_; rw [r9]
  simp -implicitDefEqProofs (disch := first | omega | (simp only [h_szP, h_szS]; done) | (simp only [h_szP, h_szS]; omega)) only [go_sem, Nat.reduceBEq, reduceCtorEq, Nat.reduceAdd, Int.reduceEq, Int.reduceLT, Int.reduceLE, Int.reduceMul, Int.reduceAdd, Int.reduceSub, reduceIte, Nat.reduceLeDiff, Nat.reduceLT, Nat.reduceMul, Nat.reduceSub, Int.reduceToNat, s9, Tryd.underlying26, Tryd.underlying67, fo72_0, sh70, Tryd.underlying70, Tryd.underlying3, zc69, sd69, pl69_0, pl69_1, pl69_2, pl69_5, fo69_4, sz3, fo69_3, sh55, zc59, sd59, pl59_0, pl59_1, pl59_2, sl55, ze59, by59, sz59, Tryd.underlying55, sz55]
  refine FnK.use (placen_c R hk hf) ?_
  intro y h1 ⟨e1, K1⟩
  have R1 := R.ext K1
  have t1 := R1.ht
  rw [e1]
  simp -implicitDefEqProofs (disch := first | omega | (simp only [h_szP, h_szS]; done) | (simp only [h_szP, h_szS]; omega)) only [go_sem, Nat.reduceBEq, reduceCtorEq, Nat.reduceAdd, Int.reduceEq, Int.reduceLT, Int.reduceLE, Int.reduceMul, Int.reduceAdd, Int.reduceSub, reduceIte, Nat.reduceLeDiff, Nat.reduceLT, Nat.reduceMul, Nat.reduceSub, Int.reduceToNat, s9, Tryd.underlying26, Tryd.underlying67, fo72_0, sh70, Tryd.underlying70, Tryd.underlying3, zc69, sd69, pl69_0, pl69_1, pl69_2, pl69_5, fo69_4, sz3, fo69_3, sh55, zc59, sd59, pl59_0, pl59_1, pl59_2, sl55, ze59, by59, sz59, Tryd.underlying55, sz55]
  refine FnK.val (good1n_c _ _ _) ?_
  obtain ⟨E, hE, sE⟩ : ∃ E : Array MapEntry, h1[q]? = some (.map E c) ∧ E.size = L.length + 1 := ⟨_, R1.hq, by simp [entA, mE]⟩
  have hl := R.len
  have d1 : ((1024 : Int) ≤ (E.size : Int)) = False := eq_false (by omega)
  simp -implicitDefEqProofs (disch := first | omega | (simp only [h_szP, h_szS]; done) | (simp only [h_szP, h_szS]; omega)) only [go_sem, Nat.reduceBEq, reduceCtorEq, Nat.reduceAdd, Int.reduceEq, Int.reduceLT, Int.reduceLE, Int.reduceMul, Int.reduceAdd, Int.reduceSub, reduceIte, Nat.reduceLeDiff, Nat.reduceLT, Nat.reduceMul, Nat.reduceSub, Int.reduceToNat, s9, Tryd.underlying26, Tryd.underlying67, fo72_0, sh70, Tryd.underlying70, Tryd.underlying3, zc69, sd69, pl69_0, pl69_1, pl69_2, pl69_5, fo69_4, sz3, fo69_3, sh55, zc59, sd59, pl59_0, pl59_1, pl59_2, sl55, ze59, by59, sz59, Tryd.underlying55, sz55, t1, hE, d1]
  refine FnK.val (freen_c R1 h2 hn hm hno) ?_
  simp -implicitDefEqProofs (disch := first | omega | (simp only [h_szP, h_szS]; done) | (simp only [h_szP, h_szS]; omega)) only [go_sem, Nat.reduceBEq, reduceCtorEq, Nat.reduceAdd, Int.reduceEq, Int.reduceLT, Int.reduceLE, Int.reduceMul, Int.reduceAdd, Int.reduceSub, reduceIte, Nat.reduceLeDiff, Nat.reduceLT, Nat.reduceMul, Nat.reduceSub, Int.reduceToNat, s9, Tryd.underlying26, Tryd.underlying67, fo72_0, sh70, Tryd.underlying70, Tryd.underlying3, zc69, sd69, pl69_0, pl69_1, pl69_2, pl69_5, fo69_4, sz3, fo69_3, sh55, zc59, sd59, pl59_0, pl59_1, pl59_2, sl55, ze59, by59, sz59, Tryd.underlying55, sz55, t1]
  refine FnK.use (clone2_c (hv.ext K1) (by simp)) ?_
  intro y h2' ⟨S2, K2, _⟩
  obtain ⟨a2, c2, e2, _⟩ := S2.vs.shape
  have R2 := R1.ext K2
  have t2 := R2.ht
  have r2 := R2.hr
  have lt' := getElem?_lt t2
  have lr' := getElem?_lt r2
  have lq' := getElem?_lt R2.hq
  have s1 := K1.size
  have s2 := K2.size
  rw [e2]
  rw [e2] at S2
  simp -implicitDefEqProofs (disch := first | omega | (simp only [h_szP, h_szS]; done) | (simp only [h_szP, h_szS]; omega)) only [go_sem, Nat.reduceBEq, reduceCtorEq, Nat.reduceAdd, Int.reduceEq, Int.reduceLT, Int.reduceLE, Int.reduceMul, Int.reduceAdd, Int.reduceSub, reduceIte, Nat.reduceLeDiff, Nat.reduceLT, Nat.reduceMul, Nat.reduceSub, Int.reduceToNat, s9, Tryd.underlying26, Tryd.underlying67, fo72_0, sh70, Tryd.underlying70, Tryd.underlying3, zc69, sd69, pl69_0, pl69_1, pl69_2, pl69_5, fo69_4, sz3, fo69_3, sh55, zc59, sd59, pl59_0, pl59_1, pl59_2, sl55, ze59, by59, sz59, Tryd.underlying55, sz55, t2]
  have hq3 : (h2'.push (.cells #[.int .i64 1, .int .i64 0, .slice a2 1 c2, .slice none 0 0, .int .i64 0, .int .i64 1, .int .i64 0] 69))[q]? = some (mpO (mE r L) c) := by rw [h_pushL _ _ _ lq']; exact R2.hq
  refine mup_none Tryd.underlying70 Tryd.underlying3 hq3 (fun x hx => ?_) ((no : Int), ptr h2'.size 0, c) rfl ?_
  · rcases List.mem_cons.1 hx with e | hx
    · rw [e]; show (1 : Int) ≠ _; omega
    · obtain ⟨l, hl, rfl⟩ := List.mem_map.1 hx
      have := hn l hl
      show (l.no : Int) ≠ _
      omega
  obtain ⟨h3, e3⟩ : ∃ h3, h3 = (h2'.push (.cells #[.int .i64 1, .int .i64 0, .slice a2 1 c2, .slice none 0 0, .int .i64 0, .int .i64 1, .int .i64 0] 69)).setIfInBounds q (.map (entA .i64 (fun x : Int × Value × Nat => x.1) (fun x => x.2.1) (fun x => x.2.2) (mE r L ++ [((no : Int), ptr h2'.size 0, c)])) (c + 1)) := ⟨_, rfl⟩
  rw [← e3]
  have sz3 : h3.size = h2'.size + 1 := by rw [e3]; simp
  have o3 : ∀ b, b < h2'.size → b ≠ q → h3[b]? = h2'[b]? := fun b hb n => by rw [e3, h_setN _ _ _ _ n, h_pushL _ _ _ hb]
  have q3 : h3[q]? = some (mpO (mE r (L ++ [⟨k, no, h2'.size, c, .slice a2 1 c2, x⟩])) (c + 1)) := by
    rw [e3, h_setS _ _ _ (by simp; omega)]
    simp [mpO, mE]
  have y3 : h3[h2'.size]? = some (.cells (fileC (.slice a2 1 c2) 1) 69 (0, 0)) := by rw [e3, h_setN _ _ _ _ (by omega)]; exact h_pushE _ _ _ rfl
  have ntq : t ≠ q := fun e => by have := R2.hq; rw [← e, t2] at this; simp [mpO] at this
  have nrq : r ≠ q := fun e => by have := R2.hq; rw [← e, r2] at this; simp [mpO] at this
  have ntr : t ≠ r := fun e => by rw [e, r2] at t2; simp at t2
  have neq : blk ev ≠ some q := Ss.ne R2.he R2.hq (fun cs f => by simp [mpO])
  have net : blk ev ≠ some t := Ss.ne R2.he t2 (fun cs f => by simp)
  have ner : blk ev ≠ some r := Ss.ne R2.he r2 (fun cs f => by simp)
  have r3 := o3 r lr' nrq
  rw [r2] at r3
  have t3 := o3 t lt' ntq
  rw [t2] at t3
  have E3 : Ss h3 lo ev 59 encEn 3 (eE L) := R2.he.mono fun b hb => o3 b (R2.he.vs.blk_lt hb) fun e => neq (e ▸ hb)
  have l3 : r < h3.size := by omega
  unfold rootC at r3
  simp -implicitDefEqProofs (disch := first | omega | (simp only [h_szP, h_szS]; done) | (simp only [h_szP, h_szS]; omega)) only [go_sem, Nat.reduceBEq, reduceCtorEq, Nat.reduceAdd, Int.reduceEq, Int.reduceLT, Int.reduceLE, Int.reduceMul, Int.reduceAdd, Int.reduceSub, reduceIte, Nat.reduceLeDiff, Nat.reduceLT, Nat.reduceMul, Nat.reduceSub, Int.reduceToNat, s9, Tryd.underlying26, Tryd.underlying67, fo72_0, sh70, Tryd.underlying70, Tryd.underlying3, zc69, sd69, pl69_0, pl69_1, pl69_2, pl69_5, fo69_4, sz3, fo69_3, sh55, zc59, sd59, pl59_0, pl59_1, pl59_2, sl55, ze59, by59, sz59, Tryd.underlying55, sz55, r3]
  refine app_push (lo := lo) (nm k, (no : Int), 1) elEn encEn_len E3 (by omega) rfl rfl (by simp [eE]; omega) (by omega) ?_
  intro v' h4 S' K' F' B'
  obtain ⟨a', c', e', _⟩ := S'.vs.shape
  have eL : eE L ++ [(nm k, (no : Int), 1)] = eE (L ++ [⟨k, no, h2'.size, c, .slice a2 1 c2, x⟩]) := by simp [eE]
  rw [eL] at S' e'
  have r4 := F' r l3 ner
  rw [r3] at r4
  have l4 := getElem?_lt r4
  have s4 := K'.size
  have S'' := S'
  rw [e']
  rw [e'] at S''
  simp -implicitDefEqProofs (disch := first | omega | (simp only [h_szP, h_szS]; done) | (simp only [h_szP, h_szS]; omega)) only [go_sem, Nat.reduceBEq, reduceCtorEq, Nat.reduceAdd, Int.reduceEq, Int.reduceLT, Int.reduceLE, Int.reduceMul, Int.reduceAdd, Int.reduceSub, reduceIte, Nat.reduceLeDiff, Nat.reduceLT, Nat.reduceMul, Nat.reduceSub, Int.reduceToNat, s9, Tryd.underlying26, Tryd.underlying67, fo72_0, sh70, Tryd.underlying70, Tryd.underlying3, zc69, sd69, pl69_0, pl69_1, pl69_2, pl69_5, fo69_4, sz3, fo69_3, sh55, zc59, sd59, pl59_0, pl59_1, pl59_2, sl55, ze59, by59, sz59, Tryd.underlying55, sz55, r4]
  have S5 : Ss h2' lo (.slice a2 1 c2) 5 encB 1 [x] := S2.le (by omega)
  have nB : ∀ b, blk (.slice a' (eE (L ++ [⟨k, no, h2'.size, c, .slice a2 1 c2, x⟩])).length c') = some b → b ≠ r := fun b hb => by
    rcases B' b (by rw [e']; exact hb) with p | p
    · intro e; rw [e] at p; exact ner p
    · omega
  have dvs : ∀ dv x', Ss h2' lo dv 5 encB 1 [x'] → Ss (h4.setIfInBounds r (.cells (rootC (.slice a' (eE (L ++ [⟨k, no, h2'.size, c, .slice a2 1 c2, x⟩])).length c')) 69 (0, 0))) lo dv 5 encB 1 [x'] := fun dv x' S => S.mono fun b hb => by
    have lb := S.vs.blk_lt hb
    have n1 : b ≠ r := fun e => Ss.ne S r2 (fun cs f => by simp) (e ▸ hb)
    have n2 : b ≠ q := fun e => Ss.ne S R2.hq (fun cs f => by simp [mpO]) (e ▸ hb)
    rw [h_setN _ _ _ _ n1, F' b (by omega) (Ss.apart S R2.he (by decide) hb), o3 b lb n2]
  refine ⟨⟨_, h2'.size, .slice a2 1 c2, ⟨?_, ?_, h_setS _ _ _ l4, ?_, ?_, R.lt, R.lq, R.lr, ?_, ?_⟩⟩, by omega, ?_⟩
  · rw [h_setN _ _ _ _ ntr, F' t (by omega) net]; exact t3
  · rw [h_setN _ _ _ _ (Ne.symm nrq), F' q (by omega) neq]; exact q3
  · exact S''.mono fun b hb => h_setN _ _ _ _ (nB b hb)
  · intro l hl
    rcases List.mem_append.1 hl with hl | hl
    · obtain ⟨f1, f2, f3, f4⟩ := R2.hf l hl
      have lb := getElem?_lt f1
      have n2 : l.blk ≠ q := fun e => by have := R2.hq; rw [← e, f1] at this; simp [mpO] at this
      refine ⟨?_, dvs _ _ f2, f3, f4⟩
      rw [h_setN _ _ _ _ f3, F' l.blk (by omega) (Ss.ne R2.he f1 (fun cs f => by simp)), o3 _ lb n2]
      exact f1
    · rw [List.mem_singleton] at hl
      subst hl
      refine ⟨?_, dvs _ _ S5, by show h2'.size ≠ r; omega, by show lo ≤ h2'.size; omega⟩
      show (h4.setIfInBounds r _)[h2'.size]? = _
      rw [h_setN _ _ _ _ (by omega), F' h2'.size (by omega) (fun e => by have := R2.he.vs.blk_lt e; omega)]
      exact y3
  · refine R.ap.push _ fun a ha => ⟨hn a ha, ?_, hf a ha⟩
    have := getElem?_lt (R2.hf a ha).1
    show a.blk ≠ h2'.size
    omega
  · intro l hl
    rcases List.mem_append.1 hl with hl | hl
    · exact R.hb l hl
    · rw [List.mem_singleton] at hl
      subst hl
      exact ⟨h2, hk, hx⟩
  · intro b hb p1 p2 p3
    rw [h_setN _ _ _ _ p2, F' b (by omega) p3, o3 b (by omega) p1, K2.old b (by omega), K1.old b hb]
theorem readn_c {h : Heap} {lo t q r c i : Nat} {ev : Value} {L : List NF} (R : NT h lo t q r c ev L) (hi : i < L.length) :
    Fn Tryd.prog 11 [ptr t 0, .int .i64 L[i].no, .int .i64 0, .int .i64 5] h fun x h' => ∃ w, x = .tuple #[w, .int .i64 0] ∧ Ss h' h.size w 5 encB 1 [L[i].x] ∧ Keeps h.size h h' := by
  obtain ⟨y1, S, _, _⟩ := R.hf _ (List.getElem_mem hi)
  obtain ⟨b5, c5, e5, hc5, hlb, hb5⟩ := S.open (i := 0) (by simp)
  have e5 : L[i].dv = .slice (some ⟨b5, 0, none⟩) 1 c5 := e5
  have hc5 : 1 ≤ c5 := hc5
  unfold fileC at y1
  rw [e5] at y1 S
  refine Fn_c Tryd.func11 mixed c11 (by kernel_rfl) ?_; rw [r11]
  simp -implicitDefEqProofs (disch := first | omega | (simp only [h_szP, h_szS]; done) | (simp only [h_szP, h_szS]; omega)) only [go_sem, Nat.reduceBEq, reduceCtorEq, Nat.reduceAdd, Int.reduceEq, Int.reduceLT, Int.reduceLE, Int.reduceMul, Int.reduceAdd, Int.reduceSub, reduceIte, Nat.reduceLeDiff, Nat.reduceLT, Nat.reduceMul, Nat.reduceSub, Int.reduceToNat, s11, Tryd.underlying26, Tryd.underlying3, fo69_0, sh3, sl23, ze5, by5, sz5, fo69_2, sh23, Tryd.underlying23]
  refine FnK.val (plainl_c R hi) ?_
  simp -implicitDefEqProofs (disch := first | omega | (simp only [h_szP, h_szS]; done) | (simp only [h_szP, h_szS]; omega)) only [go_sem, Nat.reduceBEq, reduceCtorEq, Nat.reduceAdd, Int.reduceEq, Int.reduceLT, Int.reduceLE, Int.reduceMul, Int.reduceAdd, Int.reduceSub, reduceIte, Nat.reduceLeDiff, Nat.reduceLT, Nat.reduceMul, Nat.reduceSub, Int.reduceToNat, s11, Tryd.underlying26, Tryd.underlying3, fo69_0, sh3, sl23, ze5, by5, sz5, fo69_2, sh23, Tryd.underlying23, y1, List.length_singleton]
  refine FnK.use (clone2_c S.vs (by simp)) ?_
  intro w h2 ⟨S2, K2, _⟩
  obtain ⟨wa, wc, ew, _⟩ := S2.vs.shape
  rw [ew] at S2 ⊢
  simp -implicitDefEqProofs (disch := first | omega | (simp only [h_szP, h_szS]; done) | (simp only [h_szP, h_szS]; omega)) only [go_sem, Nat.reduceBEq, reduceCtorEq, Nat.reduceAdd, Int.reduceEq, Int.reduceLT, Int.reduceLE, Int.reduceMul, Int.reduceAdd, Int.reduceSub, reduceIte, Nat.reduceLeDiff, Nat.reduceLT, Nat.reduceMul, Nat.reduceSub, Int.reduceToNat, s11, Tryd.underlying26, Tryd.underlying3, fo69_0, sh3, sl23, ze5, by5, sz5, fo69_2, sh23, Tryd.underlying23]
  exact ⟨_, rfl, S2, K2⟩
end Go.SX.G
