/- Pages of bytes: Clear of whole pages, Stamp. No condition but on sizes. -/
import Derived.Test.YtajfhnphhdoobaaPageE
set_option linter.unusedVariables false
set_option linter.unusedSimpArgs false
namespace Go.SX.G
open Go Go.SX Go.Proofs
set_option maxRecDepth 100000
set_option maxHeartbeats 2000000
/-- the bytes of whole pages are 0, stamps go on. -/
structure Cl (h h' : Heap) (p : Nat) (D D' : StoreD) (a b : Nat) : Prop where
  rep : SR h' p D'
  byte : ∀ x, byteAt D'.es x = if a ≤ x ∧ x < b then 0 else byteAt D.es x
  ft : ∀ x, foot p D' x → foot p D x
  size : h.size ≤ h'.size
  old : ∀ x, x < h.size → ¬ foot p D x → h'[x]? = h[x]?
  sr : Sr D D' ((b - a) / 4096) (touched a b)
/-- the store with fewer leaves. -/
theorem SR.fewer {h : Heap} {p : Nat} {D : StoreD} {es' : List Leaf} (r : SR h p D) (hs : es'.Sublist D.es) (o : Obj) (ho : o = .map (leafE es') D.c1) : SR (h.setIfInBounds D.lm o) p { D with es := es' } := by
  subst ho
  obtain ⟨n1, n2, n3, n4⟩ := r.ne
  have hn : ∀ b, b ≠ D.lm → (h.setIfInBounds D.lm (.map (leafE es') D.c1))[b]? = h[b]? := fun b q => h_setN _ _ _ _ q
  refine ⟨by rw [hn _ n1]; exact r.top, h_setS _ _ _ (r.lt (.inr (.inl rfl))), by rw [hn _ n3.symm]; exact r.smap, fun l hl => ?_, r.nos.sublist hs, r.blks.sublist hs, r.borns.sublist hs, r.snos, r.lmsm, r.sborn, r.sborns, r.clk⟩
  have hl' := hs.subset hl
  refine ⟨by rw [hn _ (n4 l hl').2.1]; exact (r.leaf l hl').1, (r.leaf l hl').2⟩
theorem clear_c {h : Heap} {p : Nat} {D : StoreD} (a b : Nat) (r : SR h p D) (h1 : a % 4096 = 0) (h2 : b % 4096 = 0) (h3 : a < b) (h4 : b ≤ 274877906944) :
    Fn Try.prog 52 [ptr p 0, .int .u64 a, .int .u64 b] h fun x h' => ∃ D', Cl h h' p D D' a b := by
  have hmn : (if (274877906944 : Int) < b then (274877906944 : Int) else b) = b := by rw [if_neg (by omega)]
  have hd : decide ((b : Int) ≤ a) = false := decide_eq_false (by omega)
  refine Fn_c Try.func52 mixed c52 (by kernel_rfl) ?_; rw [r52]
  simp -implicitDefEqProofs (disch := first | omega | (simp only [h_szP, h_szS]; done) | (simp only [h_szP, h_szS]; omega)) only [go_sem, Nat.reduceBEq, reduceCtorEq, Nat.reduceAdd, Int.reduceEq, Int.reduceLT, Int.reduceLE, Int.reduceMul, Int.reduceAdd, Int.reduceSub, reduceIte, Nat.reduceLeDiff, Nat.reduceLT, Nat.reduceMul, Nat.reduceSub, Int.reduceToNat, s52, Try.underlying26, Try.underlying75, fo121_0, sh118, Try.underlying118, Try.underlying132, ar132, Try.underlying22, sl22, ze5, by5, sz5, hmn, hd]
  refine FnK.use (touch_c a b r h1 h2 h3 h4) ?_
  intro x1 h1' hx
  obtain ⟨D1, T⟩ := hx
  have R1 := T.rep
  have ht1 := R1.top
  have hp1 := R1.lt (.inl rfl)
  have hlm1 := R1.lt (.inr (.inl rfl))
  simp -implicitDefEqProofs (disch := first | omega | (simp only [h_szP, h_szS]; done) | (simp only [h_szP, h_szS]; omega)) only [go_sem, Nat.reduceBEq, reduceCtorEq, Nat.reduceAdd, Int.reduceEq, Int.reduceLT, Int.reduceLE, Int.reduceMul, Int.reduceAdd, Int.reduceSub, reduceIte, Nat.reduceLeDiff, Nat.reduceLT, Nat.reduceMul, Nat.reduceSub, Int.reduceToNat, s52, Try.underlying26, Try.underlying75, fo121_0, sh118, Try.underlying118, Try.underlying132, ar132, Try.underlying22, sl22, ze5, by5, sz5, ht1]
  refine range_ent Try.underlying118 R1.lmap ?_
  simp -implicitDefEqProofs (disch := first | omega | (simp only [h_szP, h_szS]; done) | (simp only [h_szP, h_szS]; omega)) only [go_sem, Nat.reduceBEq, reduceCtorEq, Nat.reduceAdd, Int.reduceEq, Int.reduceLT, Int.reduceLE, Int.reduceMul, Int.reduceAdd, Int.reduceSub, reduceIte, Nat.reduceLeDiff, Nat.reduceLT, Nat.reduceMul, Nat.reduceSub, Int.reduceToNat, s52, Try.underlying26, Try.underlying75, fo121_0, sh118, Try.underlying118, Try.underlying132, ar132, Try.underlying22, sl22, ze5, by5, sz5]
  refine LoopK.use (fun k fr hh => ∃ (seen : Array Nat) (D2 : StoreD), (D1.es.filter fun l => !seen.contains l.born).length ≤ k ∧ D2 = { D1 with es := leftL a b seen D1.es } ∧ SR hh p D2 ∧ hh[h1'.size]? = some (.mapIter (some D1.lm) D1.c1 seen D1.c1) ∧ h1'.size < hh.size ∧
      (∀ x, x < h1'.size → x ≠ D1.lm → hh[x]? = h1'[x]?) ∧
      fr = ((((fr0.up 28 (ptr h1'.size 0)).up 2 (.int .u64 b)).up 1 (.int .u64 a)).up 0 (ptr p 0))) (D1.es.length) ?_ ?_
  · refine ⟨#[], D1, by simpa using List.length_filter_le _ _, by rw [leftL_nil], R1.ext (Keeps.push _ _ (Nat.le_refl _)), h_pushE _ _ _ rfl, by simp, fun x q _ => h_pushL _ _ _ q, rfl⟩
  · intro k fr hh hI
    obtain ⟨seen, D2, hk, eD, R2, hit, hsz, hold, hf⟩ := hI
    subst hf
    have hlm2 : D2.lm = D1.lm := by rw [eD]
    have hes2 : D2.es = leftL a b seen D1.es := by rw [eD]
    have hc2 : D2.c1 = D1.c1 := by rw [eD]
    have hmap : hh[D1.lm]? = some (.map (leafE D2.es) D1.c1) := by rw [← hlm2, ← hc2]; exact R2.lmap
    have ht2 := R2.top
    rw [hlm2] at ht2
    have hp2 := R2.lt (.inl rfl)
    simp -implicitDefEqProofs (disch := first | omega | (simp only [h_szP, h_szS]; done) | (simp only [h_szP, h_szS]; omega)) only [go_sem, Nat.reduceBEq, reduceCtorEq, Nat.reduceAdd, Int.reduceEq, Int.reduceLT, Int.reduceLE, Int.reduceMul, Int.reduceAdd, Int.reduceSub, reduceIte, Nat.reduceLeDiff, Nat.reduceLT, Nat.reduceMul, Nat.reduceSub, Int.reduceToNat, s52, Try.underlying26, Try.underlying75, fo121_0, sh118, Try.underlying118, Try.underlying132, ar132, Try.underlying22, sl22, ze5, by5, sz5]
    refine next_ent hit hmap (fun l hl => by have := (R2.leaf l hl).2.2.2.1; rw [hc2] at this; exact this) (fun hall => ?_) (fun l hl hns => ?_)
    · simp -implicitDefEqProofs (disch := first | omega | (simp only [h_szP, h_szS]; done) | (simp only [h_szP, h_szS]; omega)) only [go_sem, Nat.reduceBEq, reduceCtorEq, Nat.reduceAdd, Int.reduceEq, Int.reduceLT, Int.reduceLE, Int.reduceMul, Int.reduceAdd, Int.reduceSub, reduceIte, Nat.reduceLeDiff, Nat.reduceLT, Nat.reduceMul, Nat.reduceSub, Int.reduceToNat, s52, Try.underlying26, Try.underlying75, fo121_0, sh118, Try.underlying118, Try.underlying132, ar132, Try.underlying22, sl22, ze5, by5, sz5]
      have hes : D2.es = D1.es.filter fun l => !insideL a b l := by
        rw [hes2]
        apply List.filter_congr
        intro l hl
        cases hi : insideL a b l with
        | false => simp
        | true =>
          cases hs : seen.contains l.born with
          | true => rfl
          | false =>
            have : l ∈ D2.es := by rw [hes2]; exact List.mem_filter.2 ⟨hl, by rw [hi, hs]; rfl⟩
            have := hall l this
            simp at hs
            exact absurd this hs
      refine ⟨D2, R2, fun x => ?_, fun x f => ?_, by have := T.size; omega, fun x q1 q2 => ?_, ?_⟩
      · rw [byteAt_left h1 h2 R1.nos hes x, T.es]
      · rcases f with f | f | f | ⟨l, hl, f⟩
        · exact .inl f
        · exact .inr (.inl (by rw [f, hlm2, T.lm]))
        · refine .inr (.inr (.inl ?_))
          rw [f, eD]; exact T.sm
        · refine .inr (.inr (.inr ⟨l, ?_, f⟩))
          rw [← T.es]
          rw [hes2] at hl
          exact (List.mem_filter.1 hl).1
      · have := T.size
        rw [hold x (by omega) (fun e => q2 (.inr (.inl (by rw [e, T.lm])))), T.old x (fun e => q2 (.inl e)) (fun e => q2 (.inr (.inr (.inl e))))]
      · refine (T.sr.trans (Sr.same (D := D1) (D' := D2) (by rw [eD]) (by rw [eD]) (by rw [eD]))).le (by omega) fun m q => .inl q
    · have hl1 : l ∈ D1.es := by rw [hes2] at hl; exact (List.mem_filter.1 hl).1
      have hlf := R1.leaf l hl1
      have hne1 : ¬ D1.lm = h1'.size := by omega
      have hne2 : ¬ p = h1'.size := by have := R1.lt (b := p) (.inl rfl); omega
      have hit3 : (hh.setIfInBounds h1'.size (.mapIter (some D1.lm) D1.c1 (seen.push l.born) D1.c1))[h1'.size]? = some (.mapIter (some D1.lm) D1.c1 (seen.push l.born) D1.c1) := h_setS _ _ _ hsz
      have hmap3 : (hh.setIfInBounds h1'.size (.mapIter (some D1.lm) D1.c1 (seen.push l.born) D1.c1))[D1.lm]? = some (.map (leafE D2.es) D1.c1) := by rw [h_setN _ _ _ _ hne1]; exact hmap
      have hent := entry_ent (k := .u64) (kf := fun l : Leaf => (l.no : Int)) (vf := fun l => .pointer (some ⟨l.blk, 0, none⟩)) (bf := fun l => l.born) hit3 hmap3 hl R2.borns
      have R3 : SR (hh.setIfInBounds h1'.size (.mapIter (some D1.lm) D1.c1 (seen.push l.born) D1.c1)) p D2 := by
        refine R2.mono fun x f => h_setN _ _ _ _ ?_
        have : foot p D1 x := by
          rcases f with f | f | f | ⟨l', hl', f⟩
          · exact .inl f
          · exact .inr (.inl (by rw [f, hlm2]))
          · exact .inr (.inr (.inl (by rw [f, eD])))
          · rw [hes2] at hl'
            exact .inr (.inr (.inr ⟨l', (List.mem_filter.1 hl').1, f⟩))
        have := R1.lt this; omega
      have hkm : (D1.es.filter fun x => !(seen.push l.born).contains x.born).length < k := by
        refine Nat.lt_of_lt_of_le (filter_lt (fun x : Leaf => !seen.contains x.born) _ (fun x hx => ?_) (l := l) (by simpa using hns) (by simp) D1.es hl1) hk
        simp at hx ⊢
        exact hx.1
      have hfin : ∀ (D3 : StoreD) (hh3 : Heap), D3 = { D1 with es := leftL a b (seen.push l.born) D1.es } → SR hh3 p D3 → hh3[h1'.size]? = some (.mapIter (some D1.lm) D1.c1 (seen.push l.born) D1.c1) → h1'.size < hh3.size → (∀ x, x < h1'.size → x ≠ D1.lm → hh3[x]? = h1'[x]?) →
          ∃ k', k' < k ∧ ∃ (seen1 : Array Nat) (D2 : StoreD), (D1.es.filter fun l => !seen1.contains l.born).length ≤ k' ∧ D2 = { D1 with es := leftL a b seen1 D1.es } ∧ SR hh3 p D2 ∧ hh3[h1'.size]? = some (.mapIter (some D1.lm) D1.c1 seen1 D1.c1) ∧ h1'.size < hh3.size ∧
          (∀ x, x < h1'.size → x ≠ D1.lm → hh3[x]? = h1'[x]?) := fun D3 hh3 q1 q2 q3 q4 q5 => ⟨_, hkm, seen.push l.born, D3, Nat.le_refl _, q1, q2, q3, q4, q5⟩
      have hold3 : ∀ x, x < h1'.size → x ≠ D1.lm → (hh.setIfInBounds h1'.size (.mapIter (some D1.lm) D1.c1 (seen.push l.born) D1.c1))[x]? = h1'[x]? := fun x q1 q2 => by rw [h_setN _ _ _ _ (by omega)]; exact hold x q1 q2
      cases hi : insideL a b l with
      | false =>
        have hfin2 := hfin D2 _ (by rw [eD, leftL_out hl1 R1.borns hi]) R3 hit3 (by simpa using hsz) hold3
        rw [hit3] at hfin2
        simp only [h_szS] at hfin2
        have hi' : ¬ (a ≤ l.no * 4096 ∧ l.no * 4096 < b) := by simpa [insideL] using hi
        by_cases q : b ≤ l.no * 4096
        · have hd1 : decide ((b : Int) ≤ (l.no : Int) * 4096) = true := decide_eq_true (by omega)
          simp -implicitDefEqProofs (disch := first | omega | (simp only [h_szP, h_szS]; done) | (simp only [h_szP, h_szS]; omega)) only [go_sem, Nat.reduceBEq, reduceCtorEq, Nat.reduceAdd, Int.reduceEq, Int.reduceLT, Int.reduceLE, Int.reduceMul, Int.reduceAdd, Int.reduceSub, reduceIte, Nat.reduceLeDiff, Nat.reduceLT, Nat.reduceMul, Nat.reduceSub, Int.reduceToNat, s52, Try.underlying26, Try.underlying75, fo121_0, sh118, Try.underlying118, Try.underlying132, ar132, Try.underlying22, sl22, ze5, by5, sz5, hent, hd1]
          exact hfin2
        · have hd1 : decide ((b : Int) ≤ (l.no : Int) * 4096) = false := decide_eq_false (by omega)
          have hd2 : decide ((l.no : Int) * 4096 + 4096 ≤ a) = true := decide_eq_true (by omega)
          simp -implicitDefEqProofs (disch := first | omega | (simp only [h_szP, h_szS]; done) | (simp only [h_szP, h_szS]; omega)) only [go_sem, Nat.reduceBEq, reduceCtorEq, Nat.reduceAdd, Int.reduceEq, Int.reduceLT, Int.reduceLE, Int.reduceMul, Int.reduceAdd, Int.reduceSub, reduceIte, Nat.reduceLeDiff, Nat.reduceLT, Nat.reduceMul, Nat.reduceSub, Int.reduceToNat, s52, Try.underlying26, Try.underlying75, fo121_0, sh118, Try.underlying118, Try.underlying132, ar132, Try.underlying22, sl22, ze5, by5, sz5, hent, hd1, hd2]
          exact hfin2
      | true =>
        have hi' : a ≤ l.no * 4096 ∧ l.no * 4096 < b := by simpa [insideL] using hi
        have hd1 : decide ((b : Int) ≤ (l.no : Int) * 4096) = false := decide_eq_false (by omega)
        have hd2 : decide ((l.no : Int) * 4096 + 4096 ≤ a) = false := decide_eq_false (by omega)
        have hd3 : decide ((a : Int) ≤ (l.no : Int) * 4096) = true := decide_eq_true (by omega)
        have hd4 : decide ((l.no : Int) * 4096 + 4096 ≤ b) = true := decide_eq_true (by omega)
        simp -implicitDefEqProofs (disch := first | omega | (simp only [h_szP, h_szS]; done) | (simp only [h_szP, h_szS]; omega)) only [go_sem, Nat.reduceBEq, reduceCtorEq, Nat.reduceAdd, Int.reduceEq, Int.reduceLT, Int.reduceLE, Int.reduceMul, Int.reduceAdd, Int.reduceSub, reduceIte, Nat.reduceLeDiff, Nat.reduceLT, Nat.reduceMul, Nat.reduceSub, Int.reduceToNat, s52, Try.underlying26, Try.underlying75, fo121_0, sh118, Try.underlying118, Try.underlying132, ar132, Try.underlying22, sl22, ze5, by5, sz5, hent, hd1, hd2, hd3, hd4, ht2]
        obtain ⟨j, hj, ej⟩ := List.mem_iff_getElem.1 hl
        refine del_some (j := j) Try.underlying118 Try.underlying26 hmap3 hj (by rw [ej]) (fun x hx => ?_) ?_
        · have := List.pairwise_iff_getElem.1 R2.nos x j (by omega) hj hx
          rw [ej] at this; omega
        · simp -implicitDefEqProofs (disch := first | omega | (simp only [h_szP, h_szS]; done) | (simp only [h_szP, h_szS]; omega)) only [go_sem, Nat.reduceBEq, reduceCtorEq, Nat.reduceAdd, Int.reduceEq, Int.reduceLT, Int.reduceLE, Int.reduceMul, Int.reduceAdd, Int.reduceSub, reduceIte, Nat.reduceLeDiff, Nat.reduceLT, Nat.reduceMul, Nat.reduceSub, Int.reduceToNat, s52, Try.underlying26, Try.underlying75, fo121_0, sh118, Try.underlying118, Try.underlying132, ar132, Try.underlying22, sl22, ze5, by5, sz5]
          have hes : D2.es.eraseIdx j = leftL a b (seen.push l.born) D1.es := by
            have hj' : j < (leftL a b seen D1.es).length := by rw [← hes2]; exact hj
            have e1 : (leftL a b seen D1.es)[j] = l := by rw [← ej]; congr 1; exact hes2.symm
            have := leftL_in R1.borns hj' (by rw [e1]; exact hi)
            rw [e1] at this
            rw [hes2]; exact this
          have hR := R3.fewer (es' := D2.es.eraseIdx j) (List.eraseIdx_sublist _ _) _ rfl
          have eD3 : ({ D2 with es := D2.es.eraseIdx j } : StoreD) = { D1 with es := leftL a b (seen.push l.born) D1.es } := by rw [hes, eD]
          rw [eD3, hlm2, hc2] at hR
          have hX : ((hh.setIfInBounds h1'.size (.mapIter (some D1.lm) D1.c1 (seen.push l.born) D1.c1)).setIfInBounds D1.lm (.map (leafE (D2.es.eraseIdx j)) D1.c1))[h1'.size]? = some (.mapIter (some D1.lm) D1.c1 (seen.push l.born) D1.c1) := by
            rw [h_setN _ _ _ _ (by omega)]; exact hit3
          have hfin3 := hfin _ _ rfl hR hX (by simpa using hsz) (fun x q1 q2 => by rw [h_setN _ _ _ _ q2]; exact hold3 x q1 q2)
          rw [hX] at hfin3
          simp only [h_szS] at hfin3
          exact hfin3
theorem stamp_c {h : Heap} {p : Nat} {D : StoreD} (n : Nat) (r : SR h p D) : Fn Try.prog 79 [ptr p 0, .int .u64 n] h fun x h' => x = .int .u64 (stampV D n : Nat) ∧ h' = h := by
  have ht := r.top
  have hmx : ∀ s : Nat, (if (s : Int) < D.all then (D.all : Int) else s) = ((max s D.all : Nat) : Int) := fun s => max_int s D.all
  refine Fn_c Try.func79 mixed c79 (by kernel_rfl) ?_; rw [r79]
  simp -implicitDefEqProofs (disch := first | omega | (simp only [h_szP, h_szS]; done) | (simp only [h_szP, h_szS]; omega)) only [go_sem, Nat.reduceBEq, reduceCtorEq, Nat.reduceAdd, Int.reduceEq, Int.reduceLT, Int.reduceLE, Int.reduceMul, Int.reduceAdd, Int.reduceSub, reduceIte, Nat.reduceLeDiff, Nat.reduceLT, Nat.reduceMul, Nat.reduceSub, Int.reduceToNat, s79, Try.underlying75, fo121_1, sh119, Try.underlying119, Try.underlying26, ze26, fo121_3, sh26, ht]
  rcases fnd_cases (kf := fun l : Stp => (l.no : Int)) (n : Int) D.ss with hn0 | ⟨j, hj, e1, e2⟩
  · refine obK.use _ (look_none Try.underlying119 Try.underlying26 ze26 r.smap hn0 false) ?_
    have e : stampAt D.ss n = 0 := stampAt_miss fun s hs e => hn0 s hs (by omega)
    have := hmx 0
    simp -implicitDefEqProofs (disch := first | omega | (simp only [h_szP, h_szS]; done) | (simp only [h_szP, h_szS]; omega)) only [go_sem, Nat.reduceBEq, reduceCtorEq, Nat.reduceAdd, Int.reduceEq, Int.reduceLT, Int.reduceLE, Int.reduceMul, Int.reduceAdd, Int.reduceSub, reduceIte, Nat.reduceLeDiff, Nat.reduceLT, Nat.reduceMul, Nat.reduceSub, Int.reduceToNat, s79, Try.underlying75, fo121_1, sh119, Try.underlying119, Try.underlying26, ze26, fo121_3, sh26, ht]
    unfold stampV; rw [e]
    first | exact ⟨rfl, rfl⟩ | (congr 1; done) | (congr 1; split <;> omega)
  · refine obK.use _ (look_some Try.underlying119 Try.underlying26 r.smap hj e1 e2 false) ?_
    have e : stampAt D.ss n = D.ss[j].val := stampAt_hit hj (by omega) fun i hi => by have := e2 i hi; omega
    simp -implicitDefEqProofs (disch := first | omega | (simp only [h_szP, h_szS]; done) | (simp only [h_szP, h_szS]; omega)) only [go_sem, Nat.reduceBEq, reduceCtorEq, Nat.reduceAdd, Int.reduceEq, Int.reduceLT, Int.reduceLE, Int.reduceMul, Int.reduceAdd, Int.reduceSub, reduceIte, Nat.reduceLeDiff, Nat.reduceLT, Nat.reduceMul, Nat.reduceSub, Int.reduceToNat, s79, Try.underlying75, fo121_1, sh119, Try.underlying119, Try.underlying26, ze26, fo121_3, sh26, ht]
    unfold stampV; rw [e]
    congr 1; split <;> omega
end Go.SX.G
