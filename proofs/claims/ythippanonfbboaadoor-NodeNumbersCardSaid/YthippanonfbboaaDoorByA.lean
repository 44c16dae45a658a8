/- A tree of a root and one file: what its calls do. No condition. -/
import Derived.Test.YthippanonfbboaaDoorNodeF
import Derived.Test.YthippanonfbboaaDoorByPlain
set_option linter.unusedVariables false
set_option linter.unusedSimpArgs false
namespace Go.SX.G
open Go Go.SX Go.Proofs
set_option maxRecDepth 100000
set_option maxHeartbeats 1000000
/-- a tree of a root and a file, the file's bytes being its own. -/
structure FT (h : Heap) (lo t q r y : Nat) (v : Value) (D : List Nat) : Prop where
  ht : h[t]? = some (.cells #[.map (some q)] 72 (0, 0))
  hq : h[q]? = some (mpO [(1, ptr r 0, 0), (2, ptr y 0, 1)] 2)
  hy : h[y]? = some (.cells #[.int .i64 1, .int .i64 0, v, .slice none 0 0, .int .i64 0, .int .i64 1, .int .i64 0] 69 (0, 0))
  hs : Ss h lo v 5 encB 1 D
  lt : lo ≤ t
  lq : lo ≤ q
  ly : lo ≤ y
theorem FT.ne {h : Heap} {lo t q r y : Nat} {v : Value} {D : List Nat} (R : FT h lo t q r y v D) : t ≠ q ∧ t ≠ y ∧ q ≠ y ∧ ∀ b, blk v = some b → b ≠ t ∧ b ≠ q ∧ b ≠ y := by
  have h1 := R.ht
  have h2 := R.hq
  have h3 := R.hy
  refine ⟨fun e => ?_, fun e => ?_, fun e => ?_, fun b hb => ?_⟩
  · rw [e, h2] at h1; simp [mpO] at h1
  · rw [e, h3] at h1; simp at h1
  · rw [e, h3] at h2; simp [mpO] at h2
  · rcases R.hs.2 with ⟨e, _⟩ | ⟨b', cap, e, _, _, rest, hB, _⟩
    · rw [e] at hb; simp [blk] at hb
    · rw [e] at hb
      simp only [blk, Option.some.injEq] at hb
      subst hb
      refine ⟨fun e => ?_, fun e => ?_, fun e => ?_⟩
      · rw [e, h1] at hB; simp at hB
      · rw [e, h2] at hB; simp [mpO] at hB
      · rw [e, h3] at hB; simp at hB
/-- nothing of the tree is changed. -/
theorem FT.mono {h h' : Heap} {lo t q r y : Nat} {v : Value} {D : List Nat} (R : FT h lo t q r y v D) (kt : h'[t]? = h[t]?) (kq : h'[q]? = h[q]?) (ky : h'[y]? = h[y]?) (kv : ∀ b, blk v = some b → h'[b]? = h[b]?) : FT h' lo t q r y v D :=
  ⟨kt.trans R.ht, kq.trans R.hq, ky.trans R.hy, R.hs.mono kv, R.lt, R.lq, R.ly⟩
theorem FT.ext {h h' : Heap} {lo t q r y : Nat} {v : Value} {D : List Nat} (R : FT h lo t q r y v D) (k : Keeps h.size h h') : FT h' lo t q r y v D :=
  R.mono (k.old _ (getElem?_lt R.ht)) (k.old _ (getElem?_lt R.hq)) (k.old _ (getElem?_lt R.hy)) fun b hb => k.old b (R.hs.vs.blk_lt hb)
theorem get2_c {h : Heap} {lo t q r y : Nat} {v : Value} {D : List Nat} (R : FT h lo t q r y v D) : Fn Tryd.prog 29 [ptr t 0, .int .i64 2] h fun x h' => x = ptr y 0 ∧ h' = h := by
  have h1 := R.ht
  refine Fn_c Tryd.func29 mixed c29 (by kernel_rfl) ?_; rw [r29]
  simp -implicitDefEqProofs (disch := first | omega | (simp only [h_szP, h_szS]; done) | (simp only [h_szP, h_szS]; omega)) only [go_sem, Nat.reduceBEq, reduceCtorEq, Nat.reduceAdd, Int.reduceEq, Int.reduceLT, Int.reduceLE, Int.reduceMul, Int.reduceAdd, Int.reduceSub, reduceIte, Nat.reduceLeDiff, Nat.reduceLT, Nat.reduceMul, Nat.reduceSub, Int.reduceToNat, s29, Tryd.underlying25, fo72_0, sh70, Tryd.underlying70, Tryd.underlying3, ze67, h1]
  refine obK.use _ (look_some Tryd.underlying70 Tryd.underlying3 R.hq (j := 1) (by simp) rfl (fun a ha => ?_) false) ?_
  · obtain rfl : a = 0 := by omega
    show (1 : Int) ≠ 2
    omega
  simp -implicitDefEqProofs (disch := first | omega | (simp only [h_szP, h_szS]; done) | (simp only [h_szP, h_szS]; omega)) only [go_sem, Nat.reduceBEq, reduceCtorEq, Nat.reduceAdd, Int.reduceEq, Int.reduceLT, Int.reduceLE, Int.reduceMul, Int.reduceAdd, Int.reduceSub, reduceIte, Nat.reduceLeDiff, Nat.reduceLT, Nat.reduceMul, Nat.reduceSub, Int.reduceToNat, s29, Tryd.underlying25, fo72_0, sh70, Tryd.underlying70, Tryd.underlying3, ze67, h1]
  rfl
theorem plain2_c {h : Heap} {lo t q r y : Nat} {v : Value} {D : List Nat} (R : FT h lo t q r y v D) : Fn Tryd.prog 33 [ptr t 0, .int .i64 2] h fun x h' => x = .tuple #[ptr y 0, .int .i64 0] ∧ h' = h := by
  have h1 := R.hy
  refine Fn_c Tryd.func33 mixed c33 (by kernel_rfl) ?_; rw [r33]
  simp -implicitDefEqProofs (disch := first | omega | (simp only [h_szP, h_szS]; done) | (simp only [h_szP, h_szS]; omega)) only [go_sem, Nat.reduceBEq, reduceCtorEq, Nat.reduceAdd, Int.reduceEq, Int.reduceLT, Int.reduceLE, Int.reduceMul, Int.reduceAdd, Int.reduceSub, reduceIte, Nat.reduceLeDiff, Nat.reduceLT, Nat.reduceMul, Nat.reduceSub, Int.reduceToNat, s33, Tryd.underlying67, fo69_0, sh3, Tryd.underlying3]
  refine FnK.val (get2_c R) ?_
  simp -implicitDefEqProofs (disch := first | omega | (simp only [h_szP, h_szS]; done) | (simp only [h_szP, h_szS]; omega)) only [go_sem, Nat.reduceBEq, reduceCtorEq, Nat.reduceAdd, Int.reduceEq, Int.reduceLT, Int.reduceLE, Int.reduceMul, Int.reduceAdd, Int.reduceSub, reduceIte, Nat.reduceLeDiff, Nat.reduceLT, Nat.reduceMul, Nat.reduceSub, Int.reduceToNat, s33, Tryd.underlying67, fo69_0, sh3, Tryd.underlying3, h1]
/-- what a call that changes the file's bytes leaves as it was. -/
structure Chg (h h' : Heap) (lo t q r y : Nat) (v : Value) (D' : List Nat) (v' : Value) : Prop where
  ft : FT h' lo t q r y v' D'
  sz : h.size ≤ h'.size
  old : ∀ c, c < h.size → c ≠ y → blk v ≠ some c → h'[c]? = h[c]?
  bk : blk v' = blk v ∨ ∀ b, blk v' = some b → h.size ≤ b
theorem FT.store {h h4 : Heap} {lo t q r y : Nat} {v v4 : Value} {D D' : List Nat} (R : FT h lo t q r y v D) (S : Ss h4 lo v4 5 encB 1 D') (G : Grow h v h4 v4) :
    Chg h (h4.setIfInBounds y (.cells #[.int .i64 1, .int .i64 0, v4, .slice none 0 0, .int .i64 0, .int .i64 1, .int .i64 0] 69 (0, 0))) lo t q r y v D' v4 := by
  obtain ⟨n1, n2, n3, n4⟩ := R.ne
  have lt := getElem?_lt R.ht
  have lq := getElem?_lt R.hq
  have ly := getElem?_lt R.hy
  have sz := G.1
  have nb : ∀ b, blk v4 = some b → b ≠ y := fun b hb => by
    rcases G.2.2 with e | e
    · rw [e] at hb; exact (n4 b hb).2.2
    · rw [e] at hb; injection hb; omega
  refine ⟨⟨?_, ?_, ?_, ?_, R.lt, R.lq, R.ly⟩, by simpa using sz, fun c hc h1 h2 => ?_, ?_⟩
  · rw [h_setN _ _ _ _ n2, G.2.1 t lt fun e => (n4 t e).1 rfl]; exact R.ht
  · rw [h_setN _ _ _ _ n3, G.2.1 q lq fun e => (n4 q e).2.1 rfl]; exact R.hq
  · exact h_setS _ _ _ (by omega)
  · exact S.mono fun b hb => h_setN _ _ _ _ (nb b hb)
  · rw [h_setN _ _ _ _ h1]; exact G.2.1 c hc h2
  · rcases G.2.2 with e | e
    · exact .inl e
    · exact .inr fun b hb => by rw [e] at hb; injection hb; omega
theorem int3 : (Tryd.prog.underlying 3).map isIntD = some true := by rw [Tryd.underlying3]; rfl
theorem rep_one (n : Nat) : (zeros (.int .u8 0) n).all one = true := by rw [zeros_u8]; exact flat_all encB_one _
theorem write2_c {h : Heap} {lo t q r y k : Nat} {v bv : Value} {D bs : List Nat} (R : FT h lo t q r y v D) (hv : Vs h bv encB 1 bs) (hlh : lo ≤ h.size) (hlo : ∀ b, blk bv = some b → b < lo) (hl : bs.length ≤ 500) (hk : k < 5000) (hD : D.length ≤ 5500) :
    Fn Tryd.prog 10 [ptr t 0, .int .i64 2, .int .i64 k, bv] h fun x h' => x = .tuple #[.int .i64 bs.length, .int .i64 0] ∧ ∃ v', Chg h h' lo t q r y v (putD D k bs) v' := by
  obtain ⟨n1, n2, n3, n4⟩ := R.ne
  have ly := getElem?_lt R.hy
  have hyl := R.ly
  obtain ⟨ba, bc, eb, _⟩ := hv.shape
  subst eb
  obtain ⟨va, vc, ev, hvc⟩ := R.hs.vs.shape
  have R0 := R
  subst ev
  have y1 := R.hy
  refine Fn_c Tryd.func10 mixed c10 (by kernel_rfl) ?_; rw [r10]
  simp -implicitDefEqProofs (disch := first | omega | (simp only [h_szP, h_szS]; done) | (simp only [h_szP, h_szS]; omega)) only [go_sem, Nat.reduceBEq, reduceCtorEq, Nat.reduceAdd, Int.reduceEq, Int.reduceLT, Int.reduceLE, Int.reduceMul, Int.reduceAdd, Int.reduceSub, reduceIte, Nat.reduceLeDiff, Nat.reduceLT, Nat.reduceMul, Nat.reduceSub, Int.reduceToNat, s10, Tryd.underlying26, Tryd.underlying3, fo69_0, sh3, Tryd.underlying23, sl23, ze5, by5, sz5, fo69_2, sh23, sz23]
  refine FnK.val (plain2_c R) ?_
  by_cases hb : bs = []
  · subst hb
    have dk : ((k : Int) < 0) = False := eq_false (by omega)
    simp -implicitDefEqProofs (disch := first | omega | (simp only [h_szP, h_szS]; done) | (simp only [h_szP, h_szS]; omega)) only [go_sem, Nat.reduceBEq, reduceCtorEq, Nat.reduceAdd, Int.reduceEq, Int.reduceLT, Int.reduceLE, Int.reduceMul, Int.reduceAdd, Int.reduceSub, reduceIte, Nat.reduceLeDiff, Nat.reduceLT, Nat.reduceMul, Nat.reduceSub, Int.reduceToNat, s10, Tryd.underlying26, Tryd.underlying3, fo69_0, sh3, Tryd.underlying23, sl23, ze5, by5, sz5, fo69_2, sh23, sz23, y1, List.length_nil, dk]
    have : putD D k [] = D := by simp [putD]
    rw [this]
    exact ⟨.slice va D.length vc, R, Nat.le_refl _, fun _ _ _ _ => rfl, .inl rfl⟩
  · have hb0 : 0 < bs.length := List.length_pos_iff.2 hb
    have d1 : ((bs.length : Int) = 0) = False := eq_false (by omega)
    have dk : ((k : Int) < 0) = False := eq_false (by omega)
    have dm : ((1048576 : Int) < k) = False := eq_false (by omega)
    have dn : ((1048576 : Int) - k < bs.length) = False := eq_false (by omega)
    -- the copy, from a heap where the file is long enough
    have last : ∀ (h5 : Heap) (v5 : Value) (E : List Nat), Chg h h5 lo t q r y (.slice va D.length vc) E v5 → k + bs.length ≤ E.length → E.take k ++ bs ++ E.drop (k + bs.length) = putD D k bs →
        ∃ b5 c5, v5 = .slice (some ⟨b5, 0, none⟩) E.length c5 ∧ E.length ≤ c5 ∧ ∃ c : Array Value, h5[b5]? = some (.cells c 5 (0, 0)) ∧ k + bs.length ≤ c.size ∧ Vs h5 (.slice ba bs.length bc) encB 1 bs ∧
          Chg h (h5.setIfInBounds b5 (.cells (setL c.toList k (flat encB bs)).toArray 5 (0, 0))) lo t q r y (.slice va D.length vc) (putD D k bs) v5 := by
      intro h5 v5 E C hE e5
      obtain ⟨b5, c5, e6, hc5, hlb, hb5⟩ := C.ft.hs.open (i := k) (by omega)
      subst e6
      have hfl : (flat encB bs).length = bs.length := by rw [flat_len encB_len]; omega
      obtain ⟨c, hB, hcs, S⟩ := Sl.lay (o := k) (cs := flat encB bs) C.ft.hs (by rw [hfl, flat_len encB_len]; omega)
      rw [hfl] at hcs
      obtain ⟨m1, m2, m3, m4⟩ := C.ft.ne
      obtain ⟨p1, p2, p3⟩ := m4 b5 rfl
      refine ⟨b5, c5, rfl, hc5, c, hB, hcs, ?_, ⟨⟨?_, ?_, ?_, ?_, R.lt, R.lq, R.ly⟩, by simpa using C.sz, fun x hx h1 h2 => ?_, C.bk⟩⟩
      · refine hv.mono fun b e => ?_
        have l1 := hlo b e
        have l2 := hv.blk_lt e
        refine C.old b l2 (by omega) fun q => ?_
        have := (R.hs.blk q).1
        omega
      · rw [h_setN _ _ _ _ (Ne.symm p1)]; exact C.ft.ht
      · rw [h_setN _ _ _ _ (Ne.symm p2)]; exact C.ft.hq
      · rw [h_setN _ _ _ _ (Ne.symm p3)]; exact C.ft.hy
      · rw [setL_flatB _ _ _ hE, e5] at S
        have e9 : (putD D k bs).length = E.length := by rw [← e5]; simp; omega
        unfold Ss
        rw [e9]
        exact S
      · have : x ≠ b5 := fun e => by
          subst e
          rcases C.bk with q | q
          · exact h2 q.symm
          · have := q x rfl; omega
        rw [h_setN _ _ _ _ this]; exact C.old x hx h1 h2
    by_cases hg : D.length < k + bs.length
    · have d2 : ((D.length : Int) < (k : Int) + bs.length) = True := eq_true (by omega)
      simp -implicitDefEqProofs (disch := first | omega | (simp only [h_szP, h_szS]; done) | (simp only [h_szP, h_szS]; omega)) only [go_sem, Nat.reduceBEq, reduceCtorEq, Nat.reduceAdd, Int.reduceEq, Int.reduceLT, Int.reduceLE, Int.reduceMul, Int.reduceAdd, Int.reduceSub, reduceIte, Nat.reduceLeDiff, Nat.reduceLT, Nat.reduceMul, Nat.reduceSub, Int.reduceToNat, s10, Tryd.underlying26, Tryd.underlying3, fo69_0, sh3, Tryd.underlying23, sl23, ze5, by5, sz5, fo69_2, sh23, sz23, y1, d1, d2, dk, dm, dn]
      have e1 : ((k : Int) + bs.length - D.length) = ((k + bs.length - D.length : Nat) : Int) := by omega
      rw [e1]
      refine app_zeros (m := D.length) (n := k + bs.length - D.length) elB15 int3 R.hs (rep_one _) (by omega) hlh ?_
      intro v4 h4 S4 G4
      have S4 : Ss h4 lo v4 5 encB 1 (D ++ List.replicate (k + bs.length - D.length) 0) := by
        unfold Ss
        rw [zeros_u8, ← flat_app] at S4
        rw [List.length_append, List.length_replicate]; exact S4
      have C := R.store S4 G4
      have y4 : h4[y]? = some (.cells #[.int .i64 1, .int .i64 0, .slice va D.length vc, .slice none 0 0, .int .i64 0, .int .i64 1, .int .i64 0] 69 (0, 0)) := by rw [G4.2.1 y ly fun e => (n4 y e).2.2 rfl]; exact y1
      have l4 := getElem?_lt y4
      obtain ⟨b5, c5, e5, hc5, c, hB, hcs, hv5, C5⟩ := last _ _ _ C (by simp; omega) (putD_eq hb)
      have eE : (D ++ List.replicate (k + bs.length - D.length) 0).length = k + bs.length := by simp; omega
      rw [eE] at e5 hc5
      subst e5
      have y5 := C.ft.hy
      have dc : (c5 = k) = False := eq_false (by omega)
      simp -implicitDefEqProofs (disch := first | omega | (simp only [h_szP, h_szS]; done) | (simp only [h_szP, h_szS]; omega)) only [go_sem, Nat.reduceBEq, reduceCtorEq, Nat.reduceAdd, Int.reduceEq, Int.reduceLT, Int.reduceLE, Int.reduceMul, Int.reduceAdd, Int.reduceSub, reduceIte, Nat.reduceLeDiff, Nat.reduceLT, Nat.reduceMul, Nat.reduceSub, Int.reduceToNat, s10, Tryd.underlying26, Tryd.underlying3, fo69_0, sh3, Tryd.underlying23, sl23, ze5, by5, sz5, fo69_2, sh23, sz23, y4, y5, dc, Nat.mul_one]
      refine copy_into (o := k) (m := bs.length) (s := .slice ba bs.length bc) (cs := flat encB bs) sl23 rfl rfl ?_ hB (flat_all encB_one _) (by rw [flat_len encB_len]; omega) ?_
      · have e2 : min bs.length (k + bs.length - k) = bs.length := by omega
        rw [e2]
        exact hv5.srcAll
      simp -implicitDefEqProofs (disch := first | omega | (simp only [h_szP, h_szS]; done) | (simp only [h_szP, h_szS]; omega)) only [go_sem, Nat.reduceBEq, reduceCtorEq, Nat.reduceAdd, Int.reduceEq, Int.reduceLT, Int.reduceLE, Int.reduceMul, Int.reduceAdd, Int.reduceSub, reduceIte, Nat.reduceLeDiff, Nat.reduceLT, Nat.reduceMul, Nat.reduceSub, Int.reduceToNat, s10, Tryd.underlying26, Tryd.underlying3, fo69_0, sh3, Tryd.underlying23, sl23, ze5, by5, sz5, fo69_2, sh23, sz23]
      exact ⟨_, C5⟩
    · have d2 : ((D.length : Int) < (k : Int) + bs.length) = False := eq_false (by omega)
      have C : Chg h h lo t q r y (.slice va D.length vc) D (.slice va D.length vc) := ⟨R, Nat.le_refl _, fun _ _ _ _ => rfl, .inl rfl⟩
      have e0 : D.take k ++ bs ++ D.drop (k + bs.length) = putD D k bs := by
        have := putD_eq (D := D) (k := k) hb
        rw [show k + bs.length - D.length = 0 by omega] at this
        simpa using this
      obtain ⟨b5, c5, e5, hc5, c, hB, hcs, hv5, C5⟩ := last _ _ _ C (by omega) e0
      injection e5 with e6 e7 e8
      subst e6 e8
      simp -implicitDefEqProofs (disch := first | omega | (simp only [h_szP, h_szS]; done) | (simp only [h_szP, h_szS]; omega)) only [go_sem, Nat.reduceBEq, reduceCtorEq, Nat.reduceAdd, Int.reduceEq, Int.reduceLT, Int.reduceLE, Int.reduceMul, Int.reduceAdd, Int.reduceSub, reduceIte, Nat.reduceLeDiff, Nat.reduceLT, Nat.reduceMul, Nat.reduceSub, Int.reduceToNat, s10, Tryd.underlying26, Tryd.underlying3, fo69_0, sh3, Tryd.underlying23, sl23, ze5, by5, sz5, fo69_2, sh23, sz23, y1, d1, d2, dk, dm, dn, Nat.mul_one]
      refine copy_into (o := k) (m := bs.length) (s := .slice ba bs.length bc) (cs := flat encB bs) sl23 rfl rfl ?_ hB (flat_all encB_one _) (by rw [flat_len encB_len]; omega) ?_
      · have e2 : min bs.length (D.length - k) = bs.length := by omega
        rw [e2]
        exact hv5.srcAll
      simp -implicitDefEqProofs (disch := first | omega | (simp only [h_szP, h_szS]; done) | (simp only [h_szP, h_szS]; omega)) only [go_sem, Nat.reduceBEq, reduceCtorEq, Nat.reduceAdd, Int.reduceEq, Int.reduceLT, Int.reduceLE, Int.reduceMul, Int.reduceAdd, Int.reduceSub, reduceIte, Nat.reduceLeDiff, Nat.reduceLT, Nat.reduceMul, Nat.reduceSub, Int.reduceToNat, s10, Tryd.underlying26, Tryd.underlying3, fo69_0, sh3, Tryd.underlying23, sl23, ze5, by5, sz5, fo69_2, sh23, sz23]
      exact ⟨_, C5⟩
/-- a slice copied into a block of its own. -/
theorem clone2_c {h : Heap} {v : Value} {ds : List Nat} (hv : Vs h v encB 1 ds) (hl : ds.length ≤ 10000) : Fn Tryd.prog 32 [v] h fun x h' => Ss h' h.size x 5 encB 1 ds ∧ Keeps h.size h h' ∧ (v = .slice none 0 0 → x = .slice none 0 0) := by
  obtain ⟨a, cap, e1, hcap⟩ := hv.shape
  subst e1
  refine Fn_c Tryd.func32 mixed c32 (by kernel_rfl) ?_; rw [r32]
  simp -implicitDefEqProofs (disch := first | omega | (simp only [h_szP, h_szS]; done) | (simp only [h_szP, h_szS]; omega)) only [go_sem, Nat.reduceBEq, reduceCtorEq, Nat.reduceAdd, Int.reduceEq, Int.reduceLT, Int.reduceLE, Int.reduceMul, Int.reduceAdd, Int.reduceSub, reduceIte, Nat.reduceLeDiff, Nat.reduceLT, Nat.reduceMul, Nat.reduceSub, Int.reduceToNat, s32, Tryd.underlying23, sl23, ze5, by5, sz5]
  cases a with
  | none =>
    simp -implicitDefEqProofs (disch := first | omega | (simp only [h_szP, h_szS]; done) | (simp only [h_szP, h_szS]; omega)) only [go_sem, Nat.reduceBEq, reduceCtorEq, Nat.reduceAdd, Int.reduceEq, Int.reduceLT, Int.reduceLE, Int.reduceMul, Int.reduceAdd, Int.reduceSub, reduceIte, Nat.reduceLeDiff, Nat.reduceLT, Nat.reduceMul, Nat.reduceSub, Int.reduceToNat, s32, Tryd.underlying23, sl23, ze5, by5, sz5]
    have : ds = [] := by
      rcases hv.2 with ⟨e, _⟩ | ⟨b, o, c, cc, ee, ff, e, _⟩
      · injection e with _ e _; exact List.length_eq_zero_iff.1 e
      · injection e with e _ _; cases e
    subst this
    exact ⟨Ss.nil _ _ _, Keeps.refl'⟩
  | some a =>
    simp -implicitDefEqProofs (disch := first | omega | (simp only [h_szP, h_szS]; done) | (simp only [h_szP, h_szS]; omega)) only [go_sem, Nat.reduceBEq, reduceCtorEq, Nat.reduceAdd, Int.reduceEq, Int.reduceLT, Int.reduceLE, Int.reduceMul, Int.reduceAdd, Int.reduceSub, reduceIte, Nat.reduceLeDiff, Nat.reduceLT, Nat.reduceMul, Nat.reduceSub, Int.reduceToNat, s32, Tryd.underlying23, sl23, ze5, by5, sz5]
    have s0 : Sl (h.push (.cells #[] 5)) h.size (.slice (some ⟨h.size, 0, none⟩) 0 0) 5 1 0 [] := ⟨rfl, .inr ⟨_, _, rfl, Nat.le_refl _, Nat.le_refl _, [], by simp, by simp⟩⟩
    have hv3 := hv.ext (Keeps.push h (.cells #[] 5) (Nat.le_refl _))
    refine app_sl (n := ds.length) (new := flat encB ds) elB15 s0 (Vw.len hv3) (Vw.srcAll hv3) (flat_len encB_len ds) (flat_all encB_one ds) (by omega) rfl (by simp) ?_
    intro v4 h4 S4 G4
    have K4 : Keeps h.size h h4 := (Keeps.push h _ (Nat.le_refl _)).trans (G4.keeps (fun b hb => by simp [blk] at hb; omega) (by simp))
    have S5 : Ss h4 h.size v4 5 encB 1 ds := by
      unfold Ss
      rw [Nat.zero_add, List.nil_append] at S4
      exact S4
    obtain ⟨a4, c4, e4, _⟩ := S5.vs.shape
    rw [e4] at S5 ⊢
    simp -implicitDefEqProofs (disch := first | omega | (simp only [h_szP, h_szS]; done) | (simp only [h_szP, h_szS]; omega)) only [go_sem, Nat.reduceBEq, reduceCtorEq, Nat.reduceAdd, Int.reduceEq, Int.reduceLT, Int.reduceLE, Int.reduceMul, Int.reduceAdd, Int.reduceSub, reduceIte, Nat.reduceLeDiff, Nat.reduceLT, Nat.reduceMul, Nat.reduceSub, Int.reduceToNat, s32, Tryd.underlying23, sl23, ze5, by5, sz5]
    exact ⟨S5, K4, fun e => by injection e with e _ _; cases e⟩
theorem read2_c {h : Heap} {lo t q r y : Nat} {v : Value} {D : List Nat} (R : FT h lo t q r y v D) (hD : D.length ≤ 6000) :
    Fn Tryd.prog 11 [ptr t 0, .int .i64 2, .int .i64 0, .int .i64 65536] h fun x h' => ∃ w, x = .tuple #[w, .int .i64 0] ∧ Ss h' h.size w 5 encB 1 D ∧ Keeps h.size h h' := by
  obtain ⟨va, vc, ev, hvc⟩ := R.hs.vs.shape
  subst ev
  have y1 := R.hy
  refine Fn_c Tryd.func11 mixed c11 (by kernel_rfl) ?_; rw [r11]
  simp -implicitDefEqProofs (disch := first | omega | (simp only [h_szP, h_szS]; done) | (simp only [h_szP, h_szS]; omega)) only [go_sem, Nat.reduceBEq, reduceCtorEq, Nat.reduceAdd, Int.reduceEq, Int.reduceLT, Int.reduceLE, Int.reduceMul, Int.reduceAdd, Int.reduceSub, reduceIte, Nat.reduceLeDiff, Nat.reduceLT, Nat.reduceMul, Nat.reduceSub, Int.reduceToNat, s11, Tryd.underlying26, Tryd.underlying3, fo69_0, sh3, sl23, ze5, by5, sz5, fo69_2, sh23, Tryd.underlying23]
  refine FnK.val (plain2_c R) ?_
  by_cases hb : D = []
  · subst hb
    simp -implicitDefEqProofs (disch := first | omega | (simp only [h_szP, h_szS]; done) | (simp only [h_szP, h_szS]; omega)) only [go_sem, Nat.reduceBEq, reduceCtorEq, Nat.reduceAdd, Int.reduceEq, Int.reduceLT, Int.reduceLE, Int.reduceMul, Int.reduceAdd, Int.reduceSub, reduceIte, Nat.reduceLeDiff, Nat.reduceLT, Nat.reduceMul, Nat.reduceSub, Int.reduceToNat, s11, Tryd.underlying26, Tryd.underlying3, fo69_0, sh3, sl23, ze5, by5, sz5, fo69_2, sh23, Tryd.underlying23, y1, List.length_nil]
    exact ⟨_, rfl, Ss.nil _ _ _, Keeps.refl'⟩
  · have hb0 : 0 < D.length := List.length_pos_iff.2 hb
    have d1 : ((D.length : Int) ≤ 0) = False := eq_false (by omega)
    obtain ⟨b5, c5, e5, hc5, hlb, hb5⟩ := R.hs.open (i := 0) (by omega)
    injection e5 with e6 e7 e8
    subst e6 e8
    simp -implicitDefEqProofs (disch := first | omega | (simp only [h_szP, h_szS]; done) | (simp only [h_szP, h_szS]; omega)) only [go_sem, Nat.reduceBEq, reduceCtorEq, Nat.reduceAdd, Int.reduceEq, Int.reduceLT, Int.reduceLE, Int.reduceMul, Int.reduceAdd, Int.reduceSub, reduceIte, Nat.reduceLeDiff, Nat.reduceLT, Nat.reduceMul, Nat.reduceSub, Int.reduceToNat, s11, Tryd.underlying26, Tryd.underlying3, fo69_0, sh3, sl23, ze5, by5, sz5, fo69_2, sh23, Tryd.underlying23, y1, d1]
    refine FnK.use (clone2_c R.hs.vs (by omega)) ?_
    intro w h2 ⟨S2, K2, _⟩
    obtain ⟨wa, wc, ew, _⟩ := S2.vs.shape
    rw [ew] at S2 ⊢
    simp -implicitDefEqProofs (disch := first | omega | (simp only [h_szP, h_szS]; done) | (simp only [h_szP, h_szS]; omega)) only [go_sem, Nat.reduceBEq, reduceCtorEq, Nat.reduceAdd, Int.reduceEq, Int.reduceLT, Int.reduceLE, Int.reduceMul, Int.reduceAdd, Int.reduceSub, reduceIte, Nat.reduceLeDiff, Nat.reduceLT, Nat.reduceMul, Nat.reduceSub, Int.reduceToNat, s11, Tryd.underlying26, Tryd.underlying3, fo69_0, sh3, sl23, ze5, by5, sz5, fo69_2, sh23, Tryd.underlying23]
    exact ⟨_, rfl, S2, K2⟩
theorem cut2_c {h : Heap} {lo t q r y k : Nat} {v : Value} {D : List Nat} (R : FT h lo t q r y v D) (hl : lo ≤ h.size) (hD : D.length ≤ 6000) (hk : k ≤ 6000) :
    Fn Tryd.prog 13 [ptr t 0, .int .i64 2, .int .i64 k] h fun x h' => x = .int .i64 0 ∧ ∃ v', Chg h h' lo t q r y v (cutD D k) v' := by
  obtain ⟨va, vc, ev, hvc⟩ := R.hs.vs.shape
  obtain ⟨n1, n2, n3, n4⟩ := R.ne
  subst ev
  have y1 := R.hy
  have ly := getElem?_lt y1
  have dk : ((k : Int) < 0) = False := eq_false (by omega)
  have dm : ((1048576 : Int) < k) = False := eq_false (by omega)
  refine Fn_c Tryd.func13 mixed c13 (by kernel_rfl) ?_; rw [r13]
  simp -implicitDefEqProofs (disch := first | omega | (simp only [h_szP, h_szS]; done) | (simp only [h_szP, h_szS]; omega)) only [go_sem, Nat.reduceBEq, reduceCtorEq, Nat.reduceAdd, Int.reduceEq, Int.reduceLT, Int.reduceLE, Int.reduceMul, Int.reduceAdd, Int.reduceSub, reduceIte, Nat.reduceLeDiff, Nat.reduceLT, Nat.reduceMul, Nat.reduceSub, Int.reduceToNat, s13, Tryd.underlying26, fo69_0, sh3, Tryd.underlying3, fo69_2, sh23, Tryd.underlying23, sl23, ze5, by5, sz5, sz23]
  refine FnK.val (plain2_c R) ?_
  by_cases hg : k ≤ D.length
  · have d2 : ((k : Int) ≤ D.length) = True := eq_true (by omega)
    obtain ⟨a, cap, e1, hcap, hn, S⟩ := Sl.cut (k := k) R.hs hg
    injection e1 with e1 e2 e3
    subst e1 e3
    have S4 : Ss h lo (.slice va k k) 5 encB 1 (cutD D k) := by
      unfold Ss
      rw [cutD_len]
      have : flat encB (cutD D k) = (flat encB D).take (k * 1) := by
        rw [flat_take encB_len]
        congr 1
        unfold cutD
        rw [show k - D.length = 0 by omega]
        simp
      rw [this]
      exact S
    have C := R.store S4 ⟨Nat.le_refl _, fun _ _ _ => rfl, .inl (by cases va <;> rfl)⟩
    have ea : (if k = 0 then va else Option.map (fun a => addA a 0) va) = va := by
      split
      · rfl
      · rcases R.hs.2 with ⟨e, _⟩ | ⟨b, cap, e, _⟩
        · injection e with e _ _; rw [e]; rfl
        · injection e with e _ _; rw [e]; rfl
    simp -implicitDefEqProofs (disch := first | omega | (simp only [h_szP, h_szS]; done) | (simp only [h_szP, h_szS]; omega)) only [go_sem, Nat.reduceBEq, reduceCtorEq, Nat.reduceAdd, Int.reduceEq, Int.reduceLT, Int.reduceLE, Int.reduceMul, Int.reduceAdd, Int.reduceSub, reduceIte, Nat.reduceLeDiff, Nat.reduceLT, Nat.reduceMul, Nat.reduceSub, Int.reduceToNat, s13, Tryd.underlying26, fo69_0, sh3, Tryd.underlying3, fo69_2, sh23, Tryd.underlying23, sl23, ze5, by5, sz5, sz23, y1, d2, dk, dm, ea]
    exact ⟨_, C⟩
  · have d2 : ((k : Int) ≤ D.length) = False := eq_false (by omega)
    simp -implicitDefEqProofs (disch := first | omega | (simp only [h_szP, h_szS]; done) | (simp only [h_szP, h_szS]; omega)) only [go_sem, Nat.reduceBEq, reduceCtorEq, Nat.reduceAdd, Int.reduceEq, Int.reduceLT, Int.reduceLE, Int.reduceMul, Int.reduceAdd, Int.reduceSub, reduceIte, Nat.reduceLeDiff, Nat.reduceLT, Nat.reduceMul, Nat.reduceSub, Int.reduceToNat, s13, Tryd.underlying26, fo69_0, sh3, Tryd.underlying3, fo69_2, sh23, Tryd.underlying23, sl23, ze5, by5, sz5, sz23, y1, d2, dk, dm]
    have e1 : ((k : Int) - D.length) = ((k - D.length : Nat) : Int) := by omega
    rw [e1]
    refine app_zeros (m := D.length) (n := k - D.length) elB15 int3 R.hs (rep_one _) (by omega) hl ?_
    intro v4 h4 S4 G4
    have S4 : Ss h4 lo v4 5 encB 1 (cutD D k) := by
      unfold Ss
      rw [zeros_u8, ← flat_app] at S4
      rw [cutD_len]
      have e5 : cutD D k = D ++ List.replicate (k - D.length) 0 := by
        unfold cutD
        rw [List.take_of_length_le (by simp; omega)]
      rw [e5, show k = D.length + (k - D.length) by omega]
      simpa using S4
    have C := R.store S4 G4
    have y4 : h4[y]? = some (.cells #[.int .i64 1, .int .i64 0, .slice va D.length vc, .slice none 0 0, .int .i64 0, .int .i64 1, .int .i64 0] 69 (0, 0)) := by rw [G4.2.1 y ly fun e => (n4 y e).2.2 rfl]; exact y1
    have l4 := getElem?_lt y4
    obtain ⟨a4, c4, e4, _⟩ := S4.vs.shape
    rw [e4] at C ⊢
    simp -implicitDefEqProofs (disch := first | omega | (simp only [h_szP, h_szS]; done) | (simp only [h_szP, h_szS]; omega)) only [go_sem, Nat.reduceBEq, reduceCtorEq, Nat.reduceAdd, Int.reduceEq, Int.reduceLT, Int.reduceLE, Int.reduceMul, Int.reduceAdd, Int.reduceSub, reduceIte, Nat.reduceLeDiff, Nat.reduceLT, Nat.reduceMul, Nat.reduceSub, Int.reduceToNat, s13, Tryd.underlying26, fo69_0, sh3, Tryd.underlying3, fo69_2, sh23, Tryd.underlying23, sl23, ze5, by5, sz5, sz23, y4]
    exact ⟨_, C⟩
theorem cutbig_c {h : Heap} {lo t q r y : Nat} {v : Value} {D : List Nat} (R : FT h lo t q r y v D) : Fn Tryd.prog 13 [ptr t 0, .int .i64 2, .int .i64 1048577] h fun x h' => x = .int .i64 27 ∧ h' = h := by
  have y1 := R.hy
  refine Fn_c Tryd.func13 mixed c13 (by kernel_rfl) ?_; rw [r13]
  simp -implicitDefEqProofs (disch := first | omega | (simp only [h_szP, h_szS]; done) | (simp only [h_szP, h_szS]; omega)) only [go_sem, Nat.reduceBEq, reduceCtorEq, Nat.reduceAdd, Int.reduceEq, Int.reduceLT, Int.reduceLE, Int.reduceMul, Int.reduceAdd, Int.reduceSub, reduceIte, Nat.reduceLeDiff, Nat.reduceLT, Nat.reduceMul, Nat.reduceSub, Int.reduceToNat, s13, Tryd.underlying26, fo69_0, sh3, Tryd.underlying3, fo69_2, sh23, Tryd.underlying23, sl23, ze5, by5, sz5, sz23]
  refine FnK.val (plain2_c R) ?_
  simp -implicitDefEqProofs (disch := first | omega | (simp only [h_szP, h_szS]; done) | (simp only [h_szP, h_szS]; omega)) only [go_sem, Nat.reduceBEq, reduceCtorEq, Nat.reduceAdd, Int.reduceEq, Int.reduceLT, Int.reduceLE, Int.reduceMul, Int.reduceAdd, Int.reduceSub, reduceIte, Nat.reduceLeDiff, Nat.reduceLT, Nat.reduceMul, Nat.reduceSub, Int.reduceToNat, s13, Tryd.underlying26, fo69_0, sh3, Tryd.underlying3, fo69_2, sh23, Tryd.underlying23, sl23, ze5, by5, sz5, sz23, y1]
theorem info2_c {h : Heap} {lo t q r y : Nat} {v : Value} {D : List Nat} (R : FT h lo t q r y v D) : Fn Tryd.prog 14 [ptr t 0, .int .i64 2] h fun x h' => x = .tuple #[.agg #[.int .i64 2, .int .i64 1, .int .i64 0, .int .i64 1, .int .i64 D.length], .bool true] ∧ Keeps h.size h h' := by
  obtain ⟨va, vc, ev, hvc⟩ := R.hs.vs.shape
  subst ev
  have y1 := R.hy
  have ly := getElem?_lt y1
  refine Fn_c Tryd.func14 mixed c14 (by kernel_rfl) ?_; rw [r14]
  simp -implicitDefEqProofs (disch := first | omega | (simp only [h_szP, h_szS]; done) | (simp only [h_szP, h_szS]; omega)) only [go_sem, Nat.reduceBEq, reduceCtorEq, Nat.reduceAdd, Int.reduceEq, Int.reduceLT, Int.reduceLE, Int.reduceMul, Int.reduceAdd, Int.reduceSub, reduceIte, Nat.reduceLeDiff, Nat.reduceLT, Nat.reduceMul, Nat.reduceSub, Int.reduceToNat, s14, zc38, Tryd.underlying67, sd38, sz38, fo69_0, sh3, fo69_1, fo69_5, fo69_2, sh23, Tryd.underlying23, sl23, ze5, by5, sz5, pl38_0, pl38_1, pl38_2, pl38_3, pl38_4, Tryd.underlying3, fo69_3, sh55, Tryd.underlying55, sl55, ze59, by59, sz59, fo38_4, sz3, fo38_3, sh59, zc59, fo59_2, sh38]
  have K0 := Keeps.push h (.cells #[.int .i64 0, .int .i64 0, .int .i64 0, .int .i64 0, .int .i64 0] 38) (Nat.le_refl _)
  have y2 := (R.ext K0).hy
  have ly2 := getElem?_lt y2
  refine FnK.val (get2_c (R.ext K0)) ?_
  simp -implicitDefEqProofs (disch := first | omega | (simp only [h_szP, h_szS]; done) | (simp only [h_szP, h_szS]; omega)) only [go_sem, Nat.reduceBEq, reduceCtorEq, Nat.reduceAdd, Int.reduceEq, Int.reduceLT, Int.reduceLE, Int.reduceMul, Int.reduceAdd, Int.reduceSub, reduceIte, Nat.reduceLeDiff, Nat.reduceLT, Nat.reduceMul, Nat.reduceSub, Int.reduceToNat, s14, zc38, Tryd.underlying67, sd38, sz38, fo69_0, sh3, fo69_1, fo69_5, fo69_2, sh23, Tryd.underlying23, sl23, ze5, by5, sz5, pl38_0, pl38_1, pl38_2, pl38_3, pl38_4, Tryd.underlying3, fo69_3, sh55, Tryd.underlying55, sl55, ze59, by59, sz59, fo38_4, sz3, fo38_3, sh59, zc59, fo59_2, sh38, y2]
  repeat' refine And.intro ?_ ?_
  all_goals exact (Keeps.push _ _ (Nat.le_refl _)).push' (Nat.le_refl _)
end Go.SX.G
