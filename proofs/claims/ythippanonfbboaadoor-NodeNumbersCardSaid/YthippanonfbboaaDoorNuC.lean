/- A tree of a root and files in it: what is taken away. No condition. -/
import Derived.Test.YthippanonfbboaaDoorNuB
import Derived.Test.YthippanonfbboaaDoorSxDel
set_option linter.unusedVariables false
set_option linter.unusedSimpArgs false
namespace Go.SX.G
open Go Go.SX Go.Proofs
set_option maxRecDepth 100000
set_option maxHeartbeats 1000000
theorem encEn_one (e : ByteArray × Int × Int) : (encEn e).all one = true := rfl
theorem eraseIdx_td {α : Type} : ∀ (es : List α) (i : Nat), es.take i ++ es.drop (i + 1) = es.eraseIdx i
  | [], i => by simp
  | e :: es, 0 => by simp
  | e :: es, i + 1 => by simp [eraseIdx_td es i]
theorem delete_c {h : Heap} {lo i : Nat} {v : Value} {es : List (ByteArray × Int × Int)} (S : Ss h lo v 59 encEn 3 es) (hi : i < es.length) (hl : es.length ≤ 1000) :
    Fn Tryd.prog 65 [v, .int .i64 i, .int .i64 ((i : Int) + 1)] h fun x h' => Ss h' lo x 59 encEn 3 (es.eraseIdx i) ∧ blk x = blk v ∧ h'.size = h.size ∧ ∀ c, blk v ≠ some c → h'[c]? = h[c]? := by
  obtain ⟨b, cap, e1, hc, hlb, hb⟩ := S.open hi
  subst e1
  have d1 : ((i : Int) = (i : Int) + 1) = False := eq_false (by omega)
  refine Fn_c Tryd.func65 mixed c65 (by kernel_rfl) ?_; rw [r65]
  simp -implicitDefEqProofs (disch := first | omega | (simp only [h_szP, h_szS]; done) | (simp only [h_szP, h_szS]; omega)) only [go_sem, Nat.reduceBEq, reduceCtorEq, Nat.reduceAdd, Int.reduceEq, Int.reduceLT, Int.reduceLE, Int.reduceMul, Int.reduceAdd, Int.reduceSub, reduceIte, Nat.reduceLeDiff, Nat.reduceLT, Nat.reduceMul, Nat.reduceSub, Int.reduceToNat, s65, Tryd.underlying55, sl55, ze59, by59, sz59, Tryd.underlying3, d1]
  have hf : (flat encEn es).take (i * 3) = flat encEn (es.take i) := flat_take encEn_len i es
  have hd : (flat encEn es).drop ((i + 1) * 3) = flat encEn (es.drop (i + 1)) := flat_drop encEn_len (i + 1) es
  have S1 := Sl.take (i := i) S (by omega)
  rw [hf] at S1
  have hdl : (flat encEn (es.drop (i + 1))).length = (es.length - (i + 1)) * 3 := by rw [flat_len encEn_len, List.length_drop]
  have src : srcCells h ((es.length - (i + 1)) * 3) (.slice (if cap = i + 1 then some ⟨b, 0, none⟩ else some ⟨b, (i + 1) * 3, none⟩) (es.length - (i + 1)) (cap - (i + 1))) = some (flat encEn (es.drop (i + 1))) := by
    by_cases q : cap = i + 1
    · have e0 : es.length - (i + 1) = 0 := by omega
      have e1 : es.drop (i + 1) = [] := List.drop_eq_nil_of_le (by omega)
      rw [if_pos q, e0, e1]
      rcases S.2 with ⟨q, _⟩ | ⟨b', cap', q, _, _, rest, hB, _⟩
      · cases q
      · cases q
        simp [srcCells, cells?, hB, flat]
    · rw [if_neg q]
      have := S.vs.srcDrop (i := i + 1) (by omega) (es.length - (i + 1)) (cap - (i + 1))
      rw [hd, Nat.zero_add] at this
      exact this
  refine app_room (n := es.length - (i + 1)) (new := flat encEn (es.drop (i + 1))) elEn S1 rfl src hdl (flat_all encEn_one _) rfl (by omega) ?_
  intro h2 S2 z2 o2
  rw [← flat_app, eraseIdx_td] at S2
  have el : (es.eraseIdx i).length = es.length - 1 := List.length_eraseIdx_of_lt hi
  have e2 : i + (es.length - (i + 1)) = es.length - 1 := by omega
  rw [e2] at S2 ⊢
  simp -implicitDefEqProofs (disch := first | omega | (simp only [h_szP, h_szS]; done) | (simp only [h_szP, h_szS]; omega)) only [go_sem, Nat.reduceBEq, reduceCtorEq, Nat.reduceAdd, Int.reduceEq, Int.reduceLT, Int.reduceLE, Int.reduceMul, Int.reduceAdd, Int.reduceSub, reduceIte, Nat.reduceLeDiff, Nat.reduceLT, Nat.reduceMul, Nat.reduceSub, Int.reduceToNat, s65, Tryd.underlying55, sl55, ze59, by59, sz59, Tryd.underlying3]
  have e3 : es.length - (es.length - 1) = 1 := by omega
  rw [e3]
  refine clear_room elEn S2 (Nat.le_refl _) (by omega) (by decide +kernel) ?_
  intro h3 S3 z3 o3
  simp -implicitDefEqProofs (disch := first | omega | (simp only [h_szP, h_szS]; done) | (simp only [h_szP, h_szS]; omega)) only [go_sem, Nat.reduceBEq, reduceCtorEq, Nat.reduceAdd, Int.reduceEq, Int.reduceLT, Int.reduceLE, Int.reduceMul, Int.reduceAdd, Int.reduceSub, reduceIte, Nat.reduceLeDiff, Nat.reduceLT, Nat.reduceMul, Nat.reduceSub, Int.reduceToNat, s65, Tryd.underlying55, sl55, ze59, by59, sz59, Tryd.underlying3]
  refine ⟨?_, rfl, by omega, fun c hn => ?_⟩
  · unfold Ss
    rw [el]
    exact S3
  · have : c ≠ b := fun e => hn (by rw [e]; rfl)
    rw [o3 c this, o2 c this]
theorem fits0_c {h : Heap} {y : Nat} {dv : Value} (hy : h[y]? = some (.cells (fileC dv 1) 69 (0, 0))) : Fn Tryd.prog 38 [ptr y 0, .bool false] h fun x h' => x = .int .i64 0 ∧ h' = h := by
  unfold fileC at hy
  refine Fn_c Tryd.func38 mixed c38 (by kernel_rfl) ?_; rw [r38]
  simp -implicitDefEqProofs (disch := first | omega | (simp only [h_szP, h_szS]; done) | (simp only [h_szP, h_szS]; omega)) only [go_sem, Nat.reduceBEq, reduceCtorEq, Nat.reduceAdd, Int.reduceEq, Int.reduceLT, Int.reduceLE, Int.reduceMul, Int.reduceAdd, Int.reduceSub, reduceIte, Nat.reduceLeDiff, Nat.reduceLT, Nat.reduceMul, Nat.reduceSub, Int.reduceToNat, s38, fo69_0, sh3, Tryd.underlying3, fo69_3, sh55, Tryd.underlying55, sl55, ze59, by59, sz59, hy]
theorem forget0_c {h : Heap} {t q r c i y : Nat} {dv : Value} {L : List NF} (ht : h[t]? = some (.cells #[.map (some q)] 72 (0, 0))) (hq : h[q]? = some (mpO (mE r L) c)) (ap : Apart L) (h2 : ∀ l ∈ L, 2 ≤ l.no) (hi : i < L.length) (hy : y = L[i].blk)
    (hf : h[y]? = some (.cells (fileC dv 0) 69 (0, 0))) :
    Fn Tryd.prog 59 [ptr t 0, .int .i64 L[i].no] h fun x h' => x = .tuple #[] ∧ h' = h.setIfInBounds q (mpO (mE r (L.eraseIdx i)) c) := by
  unfold fileC at hf
  have n2 := h2 _ (List.getElem_mem hi)
  have d1 : ((L[i].no : Int) = 1) = False := eq_false (by omega)
  have look : lookV Tryd.prog h 70 (.map (some q)) (.int .i64 L[i].no) false = some (ptr y 0) := by
    rw [look_some Tryd.underlying70 Tryd.underlying3 hq (j := i + 1) (by simp [mE]; omega) (by rw [mE_get hi]) (mE_before ap h2 hi) false, mE_get hi, hy]
    rfl
  refine Fn_c Tryd.func59 mixed c59 (by kernel_rfl) ?_; rw [r59]
  simp -implicitDefEqProofs (disch := first | omega | (simp only [h_szP, h_szS]; done) | (simp only [h_szP, h_szS]; omega)) only [go_sem, Nat.reduceBEq, reduceCtorEq, Nat.reduceAdd, Int.reduceEq, Int.reduceLT, Int.reduceLE, Int.reduceMul, Int.reduceAdd, Int.reduceSub, reduceIte, Nat.reduceLeDiff, Nat.reduceLT, Nat.reduceMul, Nat.reduceSub, Int.reduceToNat, s59, fo72_0, sh70, Tryd.underlying70, Tryd.underlying3, ze67, fo69_5, sh3, fo69_6, ht]
  refine obK.use _ look ?_
  simp -implicitDefEqProofs (disch := first | omega | (simp only [h_szP, h_szS]; done) | (simp only [h_szP, h_szS]; omega)) only [go_sem, Nat.reduceBEq, reduceCtorEq, Nat.reduceAdd, Int.reduceEq, Int.reduceLT, Int.reduceLE, Int.reduceMul, Int.reduceAdd, Int.reduceSub, reduceIte, Nat.reduceLeDiff, Nat.reduceLT, Nat.reduceMul, Nat.reduceSub, Int.reduceToNat, s59, fo72_0, sh70, Tryd.underlying70, Tryd.underlying3, ze67, fo69_5, sh3, fo69_6, ht, hf, d1]
  refine del_some Tryd.underlying70 Tryd.underlying3 hq (j := i + 1) (by simp [mE]; omega) (by rw [mE_get hi]) (mE_before ap h2 hi) ?_
  simp -implicitDefEqProofs (disch := first | omega | (simp only [h_szP, h_szS]; done) | (simp only [h_szP, h_szS]; omega)) only [go_sem, Nat.reduceBEq, reduceCtorEq, Nat.reduceAdd, Int.reduceEq, Int.reduceLT, Int.reduceLE, Int.reduceMul, Int.reduceAdd, Int.reduceSub, reduceIte, Nat.reduceLeDiff, Nat.reduceLT, Nat.reduceMul, Nat.reduceSub, Int.reduceToNat, s59, fo72_0, sh70, Tryd.underlying70, Tryd.underlying3, ze67, fo69_5, sh3, fo69_6]
  rw [mE_erase]
  rfl
theorem dropn_c {h : Heap} {lo t q r c i : Nat} {ev : Value} {L : List NF} (R : NT h lo t q r c ev L) (hi : i < L.length) :
    Fn Tryd.prog 39 [ptr t 0, ptr r 0, .int .i64 i] h fun x h' => x = .tuple #[] ∧ (∃ ev', NT h' lo t q r c ev' (L.eraseIdx i)) ∧ h'.size = h.size ∧ ∀ b, b ≠ q → b ≠ r → b ≠ L[i].blk → blk ev ≠ some b → h'[b]? = h[b]? := by
  have hl := R.len
  have r1 := R.hr
  unfold rootC at r1
  obtain ⟨y1, yS, ynr, _⟩ := R.hf _ (List.getElem_mem hi)
  have lel : (eE L).length = L.length := by simp [eE]
  obtain ⟨b, cap, e1, hc, hlb, hb⟩ := R.he.open (i := i) (by omega)
  rw [lel] at e1 hc
  have hN : cellO (i * 3 + 1) h[b]? = some (.int .i64 (L[i].no : Int)) := by
    have := (R.he.vs)
    rw [e1] at this
    have := this.field encEn_len (i := i) (j := 1) (by omega) (by omega)
    simpa [encEn, eE] using this
  rw [e1] at r1
  refine Fn_c Tryd.func39 mixed c39 (by kernel_rfl) ?_; rw [r39]
  simp -implicitDefEqProofs (disch := first | omega | (simp only [h_szP, h_szS]; done) | (simp only [h_szP, h_szS]; omega)) only [go_sem, Nat.reduceBEq, reduceCtorEq, Nat.reduceAdd, Int.reduceEq, Int.reduceLT, Int.reduceLE, Int.reduceMul, Int.reduceAdd, Int.reduceSub, reduceIte, Nat.reduceLeDiff, Nat.reduceLT, Nat.reduceMul, Nat.reduceSub, Int.reduceToNat, s39, fo69_3, sh55, sl55, ze59, by59, sz59, fo59_1, sh3, Tryd.underlying3, sz55, fo72_0, sh70, Tryd.underlying70, ze67, fo69_5, sz3, fo69_0, fo69_4, r1, hN]
  have S0 := R.he
  rw [e1] at S0
  refine FnK.use (delete_c S0 (by omega) (by omega)) ?_
  intro w h2 ⟨S2, bw, z2, o2⟩
  rw [← e1] at bw o2
  have net : blk ev ≠ some t := Ss.ne R.he R.ht (fun cs f => by simp)
  have neq : blk ev ≠ some q := Ss.ne R.he R.hq (fun cs f => by simp [mpO])
  have ner : blk ev ≠ some r := Ss.ne R.he R.hr (fun cs f => by simp)
  have ney : blk ev ≠ some L[i].blk := Ss.ne R.he y1 (fun cs f => by simp)
  have r2 := (o2 r ner).trans R.hr
  have t2 := (o2 t net).trans R.ht
  have q2 := (o2 q neq).trans R.hq
  have y2 := (o2 _ ney).trans y1
  have ntr : t ≠ r := fun e => by rw [e, r2] at t2; simp at t2
  have nqr : q ≠ r := fun e => by rw [e, r2] at q2; simp [mpO] at q2
  have nty : t ≠ L[i].blk := fun e => by rw [e, y2] at t2; simp at t2
  have nqy : q ≠ L[i].blk := fun e => by rw [e, y2] at q2; simp [mpO] at q2
  have ntq : t ≠ q := fun e => by rw [e, q2] at t2; simp [mpO] at t2
  unfold rootC at r2
  rw [e1] at r2
  obtain ⟨wa, wc, ew, _⟩ := S2.vs.shape
  subst ew
  have lr := getElem?_lt r2
  have ly := getElem?_lt y2
  simp -implicitDefEqProofs (disch := first | omega | (simp only [h_szP, h_szS]; done) | (simp only [h_szP, h_szS]; omega)) only [go_sem, Nat.reduceBEq, reduceCtorEq, Nat.reduceAdd, Int.reduceEq, Int.reduceLT, Int.reduceLE, Int.reduceMul, Int.reduceAdd, Int.reduceSub, reduceIte, Nat.reduceLeDiff, Nat.reduceLT, Nat.reduceMul, Nat.reduceSub, Int.reduceToNat, s39, fo69_3, sh55, sl55, ze59, by59, sz59, fo59_1, sh3, Tryd.underlying3, sz55, fo72_0, sh70, Tryd.underlying70, ze67, fo69_5, sz3, fo69_0, fo69_4, r2, t2]
  obtain ⟨h3, e3⟩ : ∃ h3, h3 = h2.setIfInBounds r (.cells (rootC (.slice wa ((eE L).eraseIdx i).length wc)) 69 (0, 0)) := ⟨_, rfl⟩
  have e3' := e3
  unfold rootC at e3'
  rw [← e3']
  have t3 : h3[t]? = some (.cells #[.map (some q)] 72 (0, 0)) := by rw [e3, h_setN _ _ _ _ ntr]; exact t2
  have q3 : h3[q]? = some (mpO (mE r L) c) := by rw [e3, h_setN _ _ _ _ nqr]; exact q2
  have y3 : h3[L[i].blk]? = some (.cells (fileC L[i].dv 1) 69 (0, 0)) := by rw [e3, h_setN _ _ _ _ ynr]; exact y2
  have y3' := y3
  unfold fileC at y3'
  have ly3 := getElem?_lt y3
  have hb2 : ∀ l ∈ L, 2 ≤ l.no := fun l hl => (R.hb l hl).1
  have look : lookV Tryd.prog h3 70 (.map (some q)) (.int .i64 L[i].no) false = some (ptr L[i].blk 0) := by
    rw [look_some Tryd.underlying70 Tryd.underlying3 q3 (j := i + 1) (by simp [mE]; omega) (by rw [mE_get hi]) (mE_before R.ap hb2 hi) false, mE_get hi]
    rfl
  refine obK.use _ look ?_
  simp -implicitDefEqProofs (disch := first | omega | (simp only [h_szP, h_szS]; done) | (simp only [h_szP, h_szS]; omega)) only [go_sem, Nat.reduceBEq, reduceCtorEq, Nat.reduceAdd, Int.reduceEq, Int.reduceLT, Int.reduceLE, Int.reduceMul, Int.reduceAdd, Int.reduceSub, reduceIte, Nat.reduceLeDiff, Nat.reduceLT, Nat.reduceMul, Nat.reduceSub, Int.reduceToNat, s39, fo69_3, sh55, sl55, ze59, by59, sz59, fo59_1, sh3, Tryd.underlying3, sz55, fo72_0, sh70, Tryd.underlying70, ze67, fo69_5, sz3, fo69_0, fo69_4, y3']
  obtain ⟨h4, e4⟩ : ∃ h4, h4 = h3.setIfInBounds L[i].blk (.cells (fileC L[i].dv 0) 69 (0, 0)) := ⟨_, rfl⟩
  have e4' := e4
  unfold fileC at e4'
  rw [← e4']
  have t4 : h4[t]? = some (.cells #[.map (some q)] 72 (0, 0)) := by rw [e4, h_setN _ _ _ _ nty]; exact t3
  have q4 : h4[q]? = some (mpO (mE r L) c) := by rw [e4, h_setN _ _ _ _ nqy]; exact q3
  have y4 : h4[L[i].blk]? = some (.cells (fileC L[i].dv 0) 69 (0, 0)) := by rw [e4]; exact h_setS _ _ _ ly3
  refine FnK.use (forget0_c t4 q4 R.ap hb2 hi rfl y4) ?_
  intro x5 h5 ⟨e5, e6⟩
  rw [e5]
  simp -implicitDefEqProofs (disch := first | omega | (simp only [h_szP, h_szS]; done) | (simp only [h_szP, h_szS]; omega)) only [go_sem, Nat.reduceBEq, reduceCtorEq, Nat.reduceAdd, Int.reduceEq, Int.reduceLT, Int.reduceLE, Int.reduceMul, Int.reduceAdd, Int.reduceSub, reduceIte, Nat.reduceLeDiff, Nat.reduceLT, Nat.reduceMul, Nat.reduceSub, Int.reduceToNat, s39, fo69_3, sh55, sl55, ze59, by59, sz59, fo59_1, sh3, Tryd.underlying3, sz55, fo72_0, sh70, Tryd.underlying70, ze67, fo69_5, sz3, fo69_0, fo69_4]
  have z5 : h5.size = h.size := by rw [e6, e4, e3]; simpa using z2
  have o5 : ∀ b, b ≠ q → b ≠ r → b ≠ L[i].blk → blk ev ≠ some b → h5[b]? = h[b]? := fun b n1 n2 n3 n4 => by
    rw [e6, h_setN _ _ _ _ n1, e4, h_setN _ _ _ _ n3, e3, h_setN _ _ _ _ n2, o2 b n4]
  have lq4 := getElem?_lt q4
  refine ⟨⟨.slice wa ((eE L).eraseIdx i).length wc, ?_, ?_, ?_, ?_, ?_, R.lt, R.lq, R.lr, R.ap.erase i, fun l hl => R.hb l ((mem_erase R.ap hi l).1 hl).1⟩, z5, o5⟩
  · rw [e6, h_setN _ _ _ _ ntq]; exact t4
  · rw [e6]; exact h_setS _ _ _ lq4
  · rw [e6, h_setN _ _ _ _ (Ne.symm nqr), e4, h_setN _ _ _ _ (Ne.symm ynr), e3]; exact h_setS _ _ _ lr
  · have ee : (eE L).eraseIdx i = eE (L.eraseIdx i) := by unfold eE; rw [eraseIdx_map']
    rw [ee] at S2 ⊢
    refine S2.mono fun x hx => ?_
    have hx' : blk ev = some x := by rw [← bw, ee]; exact hx
    rw [e6, h_setN _ _ _ _ (fun e => neq (by rw [← e]; exact hx')), e4, h_setN _ _ _ _ (fun e => ney (by rw [← e]; exact hx')), e3, h_setN _ _ _ _ (fun e => ner (by rw [← e]; exact hx'))]
  · intro l hl
    obtain ⟨hl1, hlk⟩ := (mem_erase R.ap hi l).1 hl
    obtain ⟨f1, f2, f3, f4⟩ := R.hf l hl1
    have n2 : l.blk ≠ q := fun e => by have := R.hq; rw [← e, f1] at this; simp [mpO] at this
    have n3 : l.blk ≠ L[i].blk := fun e => hlk (by rw [R.ap.inj hl1 (List.getElem_mem hi) (.inr (.inl e))])
    refine ⟨(o5 _ n2 f3 n3 (Ss.ne R.he f1 (fun cs f => by simp))).trans f1, f2.mono fun x hx => ?_, f3, f4⟩
    exact o5 x (fun e => Ss.ne f2 R.hq (fun cs f => by simp [mpO]) (e ▸ hx)) (fun e => Ss.ne f2 R.hr (fun cs f => by simp) (e ▸ hx)) (fun e => Ss.ne f2 y1 (fun cs f => by simp) (e ▸ hx)) (Ss.apart f2 R.he (by decide) hx)
theorem removen_c {h : Heap} {lo t q r c i : Nat} {ev : Value} {L : List NF} (R : NT h lo t q r c ev L) (hi : i < L.length) :
    Fn Tryd.prog 16 [ptr t 0, .int .i64 1, .string (nm L[i].k), .bool false] h fun x h' => x = .int .i64 0 ∧ (∃ ev', NT h' lo t q r c ev' (L.eraseIdx i)) ∧ h.size ≤ h'.size ∧ ∀ b, b < h.size → b ≠ q → b ≠ r → b ≠ L[i].blk → blk ev ≠ some b → h'[b]? = h[b]? := by
  have hk := (R.hb _ (List.getElem_mem hi)).2.1
  obtain ⟨n1, n2, n3, n4, i0, i1⟩ := nm_good _ hk
  have hl := R.len
  refine Fn_c Tryd.func16 mixed c16 (by kernel_rfl) ?_; rw [r16]
  simp -implicitDefEqProofs (disch := first | omega | (simp only [h_szP, h_szS]; done) | (simp only [h_szP, h_szS]; omega)) only [go_sem, Nat.reduceBEq, reduceCtorEq, Nat.reduceAdd, Int.reduceEq, Int.reduceLT, Int.reduceLE, Int.reduceMul, Int.reduceAdd, Int.reduceSub, reduceIte, Nat.reduceLeDiff, Nat.reduceLT, Nat.reduceMul, Nat.reduceSub, Int.reduceToNat, s16, Tryd.underlying26, Tryd.underlying9, Tryd.underlying3, fo72_0, sh70, fo69_3, sh55, sl55, ze59, by59, sz59, fo59_1, sh3, Tryd.underlying70, ze67]
  refine FnK.val (dirr_c R) ?_
  simp -implicitDefEqProofs (disch := first | omega | (simp only [h_szP, h_szS]; done) | (simp only [h_szP, h_szS]; omega)) only [go_sem, Nat.reduceBEq, reduceCtorEq, Nat.reduceAdd, Int.reduceEq, Int.reduceLT, Int.reduceLE, Int.reduceMul, Int.reduceAdd, Int.reduceSub, reduceIte, Nat.reduceLeDiff, Nat.reduceLT, Nat.reduceMul, Nat.reduceSub, Int.reduceToNat, s16, Tryd.underlying26, Tryd.underlying9, Tryd.underlying3, fo72_0, sh70, fo69_3, sh55, sl55, ze59, by59, sz59, fo59_1, sh3, Tryd.underlying70, ze67, s_eql, n2, n3]
  refine FnK.use (fat_c R _) ?_
  intro x h1 ⟨⟨z, e1, hz⟩, K1⟩
  rw [e1, hit_of R hi rfl hz]
  have R1 := R.ext K1
  have s1 := K1.size
  have r1 := R1.hr
  unfold rootC at r1
  have t1 := R1.ht
  have lel : (eE L).length = L.length := by simp [eE]
  obtain ⟨b, cap, e2, hc, hlb, hb⟩ := R1.he.open (i := i) (by omega)
  rw [lel] at e2 hc
  have hN : cellO (i * 3 + 1) h1[b]? = some (.int .i64 (L[i].no : Int)) := by
    have := (R1.he.vs)
    rw [e2] at this
    have := this.field encEn_len (i := i) (j := 1) (by omega) (by omega)
    simpa [encEn, eE] using this
  rw [e2] at r1
  have di : ((i : Int) < 0) = False := eq_false (by omega)
  simp -implicitDefEqProofs (disch := first | omega | (simp only [h_szP, h_szS]; done) | (simp only [h_szP, h_szS]; omega)) only [go_sem, Nat.reduceBEq, reduceCtorEq, Nat.reduceAdd, Int.reduceEq, Int.reduceLT, Int.reduceLE, Int.reduceMul, Int.reduceAdd, Int.reduceSub, reduceIte, Nat.reduceLeDiff, Nat.reduceLT, Nat.reduceMul, Nat.reduceSub, Int.reduceToNat, s16, Tryd.underlying26, Tryd.underlying9, Tryd.underlying3, fo72_0, sh70, fo69_3, sh55, sl55, ze59, by59, sz59, fo59_1, sh3, Tryd.underlying70, ze67, r1, t1, hN, di]
  have hb2 : ∀ l ∈ L, 2 ≤ l.no := fun l hl => (R.hb l hl).1
  have look : lookV Tryd.prog h1 70 (.map (some q)) (.int .i64 L[i].no) false = some (ptr L[i].blk 0) := by
    rw [look_some Tryd.underlying70 Tryd.underlying3 R1.hq (j := i + 1) (by simp [mE]; omega) (by rw [mE_get hi]) (mE_before R.ap hb2 hi) false, mE_get hi]
    rfl
  refine obK.use _ look ?_
  simp -implicitDefEqProofs (disch := first | omega | (simp only [h_szP, h_szS]; done) | (simp only [h_szP, h_szS]; omega)) only [go_sem, Nat.reduceBEq, reduceCtorEq, Nat.reduceAdd, Int.reduceEq, Int.reduceLT, Int.reduceLE, Int.reduceMul, Int.reduceAdd, Int.reduceSub, reduceIte, Nat.reduceLeDiff, Nat.reduceLT, Nat.reduceMul, Nat.reduceSub, Int.reduceToNat, s16, Tryd.underlying26, Tryd.underlying9, Tryd.underlying3, fo72_0, sh70, fo69_3, sh55, sl55, ze59, by59, sz59, fo59_1, sh3, Tryd.underlying70, ze67]
  refine FnK.val (fits0_c (R1.hf _ (List.getElem_mem hi)).1) ?_
  simp -implicitDefEqProofs (disch := first | omega | (simp only [h_szP, h_szS]; done) | (simp only [h_szP, h_szS]; omega)) only [go_sem, Nat.reduceBEq, reduceCtorEq, Nat.reduceAdd, Int.reduceEq, Int.reduceLT, Int.reduceLE, Int.reduceMul, Int.reduceAdd, Int.reduceSub, reduceIte, Nat.reduceLeDiff, Nat.reduceLT, Nat.reduceMul, Nat.reduceSub, Int.reduceToNat, s16, Tryd.underlying26, Tryd.underlying9, Tryd.underlying3, fo72_0, sh70, fo69_3, sh55, sl55, ze59, by59, sz59, fo59_1, sh3, Tryd.underlying70, ze67]
  refine FnK.use (dropn_c R1 hi) ?_
  intro x h2 ⟨e3, R3, z3, o3⟩
  rw [e3]
  simp -implicitDefEqProofs (disch := first | omega | (simp only [h_szP, h_szS]; done) | (simp only [h_szP, h_szS]; omega)) only [go_sem, Nat.reduceBEq, reduceCtorEq, Nat.reduceAdd, Int.reduceEq, Int.reduceLT, Int.reduceLE, Int.reduceMul, Int.reduceAdd, Int.reduceSub, reduceIte, Nat.reduceLeDiff, Nat.reduceLT, Nat.reduceMul, Nat.reduceSub, Int.reduceToNat, s16, Tryd.underlying26, Tryd.underlying9, Tryd.underlying3, fo72_0, sh70, fo69_3, sh55, sl55, ze59, by59, sz59, fo59_1, sh3, Tryd.underlying70, ze67]
  exact ⟨R3, by omega, fun b hb p1 p2 p3 p4 => by rw [o3 b p1 p2 p3 p4, K1.old b hb]⟩
end Go.SX.G
