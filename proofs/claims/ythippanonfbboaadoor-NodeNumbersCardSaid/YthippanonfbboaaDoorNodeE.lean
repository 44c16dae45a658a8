/- The reference's Make in a tree of a root. No condition but on sizes. -/
import Derived.Test.YthippanonfbboaaDoorNodeD
set_option linter.unusedVariables false
set_option linter.unusedSimpArgs false
namespace Go.SX.G
open Go Go.SX Go.Proofs
set_option maxRecDepth 100000
set_option maxHeartbeats 1000000
/-- what Make leaves as it was. -/
structure Lv (h h' : Heap) (m bn r : Nat) : Prop where
  size : h.size ≤ h'.size
  old : ∀ b, b < h.size → b ≠ m → b ≠ bn → b ≠ r → h'[b]? = h[b]?
theorem Lv.of {h h' : Heap} {m bn r : Nat} (k : Keeps h.size h h') : Lv h h' m bn r := ⟨k.size, fun b hb _ _ _ => k.old b hb⟩
theorem elB15 : ElT Tryd.prog 23 5 1 1 (.int .u8 0) := ⟨sl23, by5, by decide, ze5, rfl, by rw [Tryd.underlying23]; rfl⟩
theorem elNp : ElT Tryd.prog 90 87 1 8 (.pointer none) := ⟨sl90, by87, by decide, ze87, rfl, by rw [Tryd.underlying90]; rfl⟩
theorem elEn : ElT Tryd.prog 55 59 3 32 (.agg #[.string ⟨#[]⟩, .int .i64 0, .int .i64 0]) := ⟨sl55, by59, by decide, ze59, rfl, by rw [Tryd.underlying55]; rfl⟩
def encEn (e : ByteArray × Int × Int) : List Value := [.string e.1, .int .i64 e.2.1, .int .i64 e.2.2]
theorem encEn_len (e : ByteArray × Int × Int) : (encEn e).length = 3 := rfl
/-- an entry more. -/
theorem renter_c {h : Heap} {m bn r x cap : Nat} {kd : Int} {w : Array Value} {bw : List Value} (s : ByteArray) (h1 : h[m]? = some (.cells #[.slice (some ⟨bn, 0, none⟩) 2 cap] 92 (0, 0))) (h2 : cellO 0 h[bn]? = some (ptr r 0)) (h2' : cellO 1 h[bn]? = some (ptr x 0))
    (h3 : h[r]? = some (.cells #[.int .i64 1, .int .i64 2, .int .i64 493, .slice none 0 0, .slice none 0 0, .int .i64 1, .int .i64 0, .int .i64 0] 89 (0, 0))) (h4 : cellO 1 h[x]? = some (.int .i64 kd)) :
    Fn Tryd.prog 70 [ptr m 0, .int .i64 1, .string s, .int .i64 2] h fun x h' => Lv h h' m bn r := by
  have gx : ∀ h' : Heap, h'[m]? = h[m]? → h'[bn]? = h[bn]? → Fn Tryd.prog 71 [ptr m 0, .int .i64 2] h' fun y h'' => y = ptr x 0 ∧ h'' = h' := by
    intro h' e1 e2
    rw [← e1] at h1
    rw [← e2] at h2'
    refine Fn_c Tryd.func71 mixed c71 (by kernel_rfl) ?_; rw [r71]
    simp -implicitDefEqProofs (disch := first | omega | (simp only [h_szP, h_szS]; done) | (simp only [h_szP, h_szS]; omega)) only [go_sem, Nat.reduceBEq, reduceCtorEq, Nat.reduceAdd, Int.reduceEq, Int.reduceLT, Int.reduceLE, Int.reduceMul, Int.reduceAdd, Int.reduceSub, reduceIte, Nat.reduceLeDiff, Nat.reduceLT, Nat.reduceMul, Nat.reduceSub, Int.reduceToNat, s71, Tryd.underlying3, fo92_0, sh90, Tryd.underlying90, sl90, ze87, by87, sz87, zc89, sd89, sh87, h1, h2']
  have gr : ∀ h' : Heap, h'[m]? = h[m]? → h'[bn]? = h[bn]? → Fn Tryd.prog 71 [ptr m 0, .int .i64 1] h' fun y h'' => y = ptr r 0 ∧ h'' = h' := by
    intro h' e1 e2
    rw [← e1] at h1
    rw [← e2] at h2
    refine Fn_c Tryd.func71 mixed c71 (by kernel_rfl) ?_; rw [r71]
    simp -implicitDefEqProofs (disch := first | omega | (simp only [h_szP, h_szS]; done) | (simp only [h_szP, h_szS]; omega)) only [go_sem, Nat.reduceBEq, reduceCtorEq, Nat.reduceAdd, Int.reduceEq, Int.reduceLT, Int.reduceLE, Int.reduceMul, Int.reduceAdd, Int.reduceSub, reduceIte, Nat.reduceLeDiff, Nat.reduceLT, Nat.reduceMul, Nat.reduceSub, Int.reduceToNat, s71, Tryd.underlying3, fo92_0, sh90, Tryd.underlying90, sl90, ze87, by87, sz87, zc89, sd89, sh87, h1, h2]
  refine Fn_c Tryd.func70 mixed c70 (by kernel_rfl) ?_; rw [r70]
  simp -implicitDefEqProofs (disch := first | omega | (simp only [h_szP, h_szS]; done) | (simp only [h_szP, h_szS]; omega)) only [go_sem, Nat.reduceBEq, reduceCtorEq, Nat.reduceAdd, Int.reduceEq, Int.reduceLT, Int.reduceLE, Int.reduceMul, Int.reduceAdd, Int.reduceSub, reduceIte, Nat.reduceLeDiff, Nat.reduceLT, Nat.reduceMul, Nat.reduceSub, Int.reduceToNat, s70, fo89_4, sh55, fo89_1, sh3, zc59, sd59, pl59_0, pl59_1, pl59_2, sl55, ze59, by59, sz59, Tryd.underlying55, sz55]
  refine FnK.val (gr h rfl rfl) ?_
  simp -implicitDefEqProofs (disch := first | omega | (simp only [h_szP, h_szS]; done) | (simp only [h_szP, h_szS]; omega)) only [go_sem, Nat.reduceBEq, reduceCtorEq, Nat.reduceAdd, Int.reduceEq, Int.reduceLT, Int.reduceLE, Int.reduceMul, Int.reduceAdd, Int.reduceSub, reduceIte, Nat.reduceLeDiff, Nat.reduceLT, Nat.reduceMul, Nat.reduceSub, Int.reduceToNat, s70, fo89_4, sh55, fo89_1, sh3, zc59, sd59, pl59_0, pl59_1, pl59_2, sl55, ze59, by59, sz59, Tryd.underlying55, sz55, h3]
  refine ⟨?_, ?_⟩
  all_goals
    refine FnK.val (gx h rfl rfl) ?_
    have hl3 := getElem?_lt h3
    simp -implicitDefEqProofs (disch := first | omega | (simp only [h_szP, h_szS]; done) | (simp only [h_szP, h_szS]; omega)) only [go_sem, Nat.reduceBEq, reduceCtorEq, Nat.reduceAdd, Int.reduceEq, Int.reduceLT, Int.reduceLE, Int.reduceMul, Int.reduceAdd, Int.reduceSub, reduceIte, Nat.reduceLeDiff, Nat.reduceLT, Nat.reduceMul, Nat.reduceSub, Int.reduceToNat, s70, fo89_4, sh55, fo89_1, sh3, zc59, sd59, pl59_0, pl59_1, pl59_2, sl55, ze59, by59, sz59, Tryd.underlying55, sz55, h3, h4]
    try refine ⟨?_, ?_⟩
    all_goals
      refine app_push (lo := h.size) (s, 2, kd) elEn encEn_len (Ss.nil h h.size 59) rfl rfl rfl (by simp) (Nat.le_refl _) ?_
      intro v' h' S' K' F' B'
      obtain ⟨a', c', e', _⟩ := S'.vs.shape
      have g3 := K'.at h3 hl3
      have gl := getElem?_lt g3
      rw [e']
      simp -implicitDefEqProofs (disch := first | omega | (simp only [h_szP, h_szS]; done) | (simp only [h_szP, h_szS]; omega)) only [go_sem, Nat.reduceBEq, reduceCtorEq, Nat.reduceAdd, Int.reduceEq, Int.reduceLT, Int.reduceLE, Int.reduceMul, Int.reduceAdd, Int.reduceSub, reduceIte, Nat.reduceLeDiff, Nat.reduceLT, Nat.reduceMul, Nat.reduceSub, Int.reduceToNat, s70, fo89_4, sh55, fo89_1, sh3, zc59, sd59, pl59_0, pl59_1, pl59_2, sl55, ze59, by59, sz59, Tryd.underlying55, sz55, g3]
      exact ⟨by have := K'.size; simp; omega, fun b hb _ _ q => by rw [h_setN _ _ _ _ q, K'.old b hb]⟩
theorem rmake_c {h : Heap} {m bn r : Nat} {v : Value} {ds : List Nat} (R : Rt h m bn r) (n k md : Int) (s : ByteArray) (hs : s.size ≤ 1000) (hv : Vs h v encB 1 ds) (hl : ds.length ≤ 10000) : Fn Tryd.prog 40 [ptr m 0, .int .i64 n, .string s, .int .i64 k, .int .i64 md, v] h fun x h' => (∃ a e : Nat, a ≤ 100 ∧ e ≤ 100 ∧ x = .tuple #[.int .i64 a, .int .i64 e]) ∧ Lv h h' m bn r := by
  by_cases hn : n = 1
  · subst hn
    refine Fn_c Tryd.func40 mixed c40 (by kernel_rfl) ?_; rw [r40]
    simp -implicitDefEqProofs (disch := first | omega | (simp only [h_szP, h_szS]; done) | (simp only [h_szP, h_szS]; omega)) only [go_sem, Nat.reduceBEq, reduceCtorEq, Nat.reduceAdd, Int.reduceEq, Int.reduceLT, Int.reduceLE, Int.reduceMul, Int.reduceAdd, Int.reduceSub, reduceIte, Nat.reduceLeDiff, Nat.reduceLT, Nat.reduceMul, Nat.reduceSub, Int.reduceToNat, s40, Tryd.underlying26, Tryd.underlying3, fo92_0, sh90, Tryd.underlying90, sl90, ze87, by87, sz87, sh87, fo89_0, sh3, sl23, ze5, by5, sz5, Tryd.underlying23, zc89, sd89, pl89_0, pl89_1, pl89_2, pl89_3, pl89_6, fo89_5, sz3, sz90]
    refine FnK.val (isdir_r R) ?_
    simp -implicitDefEqProofs (disch := first | omega | (simp only [h_szP, h_szS]; done) | (simp only [h_szP, h_szS]; omega)) only [go_sem, Nat.reduceBEq, reduceCtorEq, Nat.reduceAdd, Int.reduceEq, Int.reduceLT, Int.reduceLE, Int.reduceMul, Int.reduceAdd, Int.reduceSub, reduceIte, Nat.reduceLeDiff, Nat.reduceLT, Nat.reduceMul, Nat.reduceSub, Int.reduceToNat, s40, Tryd.underlying26, Tryd.underlying3, fo92_0, sh90, Tryd.underlying90, sl90, ze87, by87, sz87, sh87, fo89_0, sh3, sl23, ze5, by5, sz5, Tryd.underlying23, zc89, sd89, pl89_0, pl89_1, pl89_2, pl89_3, pl89_6, fo89_5, sz3, sz90]
    refine FnK.use (may_c k md hv hl) ?_
    intro x h2 ⟨⟨b, e1⟩, e2⟩
    rw [e1, e2]
    simp -implicitDefEqProofs (disch := first | omega | (simp only [h_szP, h_szS]; done) | (simp only [h_szP, h_szS]; omega)) only [go_sem, Nat.reduceBEq, reduceCtorEq, Nat.reduceAdd, Int.reduceEq, Int.reduceLT, Int.reduceLE, Int.reduceMul, Int.reduceAdd, Int.reduceSub, reduceIte, Nat.reduceLeDiff, Nat.reduceLT, Nat.reduceMul, Nat.reduceSub, Int.reduceToNat, s40, Tryd.underlying26, Tryd.underlying3, fo92_0, sh90, Tryd.underlying90, sl90, ze87, by87, sz87, sh87, fo89_0, sh3, sl23, ze5, by5, sz5, Tryd.underlying23, zc89, sd89, pl89_0, pl89_1, pl89_2, pl89_3, pl89_6, fo89_5, sz3, sz90]
    rw [t_all]
    refine ⟨fun _ => ?_, fun _ => ⟨⟨0, 22, by omega, by omega, rfl⟩, Lv.of Keeps.refl'⟩⟩
    refine FnK.use (rplace_c R s hs) ?_
    intro x h3 ⟨⟨e, he, e3⟩, K3⟩
    have R3 := R.ext K3
    have h1 := R3.t
    have h2' := R3.n
    have h3' := R3.r
    rw [e3]
    simp -implicitDefEqProofs (disch := first | omega | (simp only [h_szP, h_szS]; done) | (simp only [h_szP, h_szS]; omega)) only [go_sem, Nat.reduceBEq, reduceCtorEq, Nat.reduceAdd, Int.reduceEq, Int.reduceLT, Int.reduceLE, Int.reduceMul, Int.reduceAdd, Int.reduceSub, reduceIte, Nat.reduceLeDiff, Nat.reduceLT, Nat.reduceMul, Nat.reduceSub, Int.reduceToNat, s40, Tryd.underlying26, Tryd.underlying3, fo92_0, sh90, Tryd.underlying90, sl90, ze87, by87, sz87, sh87, fo89_0, sh3, sl23, ze5, by5, sz5, Tryd.underlying23, zc89, sd89, pl89_0, pl89_1, pl89_2, pl89_3, pl89_6, fo89_5, sz3, sz90, h1, h2', h3']
    refine ⟨fun _ => ?_, fun _ => ⟨⟨0, e, by omega, he, rfl⟩, Lv.of K3⟩⟩
    refine FnK.val (rlen_c R3) ?_
    simp -implicitDefEqProofs (disch := first | omega | (simp only [h_szP, h_szS]; done) | (simp only [h_szP, h_szS]; omega)) only [go_sem, Nat.reduceBEq, reduceCtorEq, Nat.reduceAdd, Int.reduceEq, Int.reduceLT, Int.reduceLE, Int.reduceMul, Int.reduceAdd, Int.reduceSub, reduceIte, Nat.reduceLeDiff, Nat.reduceLT, Nat.reduceMul, Nat.reduceSub, Int.reduceToNat, s40, Tryd.underlying26, Tryd.underlying3, fo92_0, sh90, Tryd.underlying90, sl90, ze87, by87, sz87, sh87, fo89_0, sh3, sl23, ze5, by5, sz5, Tryd.underlying23, zc89, sd89, pl89_0, pl89_1, pl89_2, pl89_3, pl89_6, fo89_5, sz3, sz90, h1, h2', h3']
    refine LoopK.use (fun q fr hh => hh = h3 ∧ ((q = 1 ∧ fr = (((((((fr0.up 15 (.int .i64 1)).up 5 v).up 4 (.int .i64 md)).up 3 (.int .i64 k)).up 2 (.string s)).up 1 (.int .i64 1)).up 0 (ptr m 0))) ∨ (q = 0 ∧ fr = (((((((fr0.up 15 (.int .i64 2)).up 5 v).up 4 (.int .i64 md)).up 3 (.int .i64 k)).up 2 (.string s)).up 1 (.int .i64 1)).up 0 (ptr m 0))))) 1 ⟨rfl, .inl ⟨rfl, rfl⟩⟩ ?_
    intro q fr hh ⟨e0, hf⟩
    have e0 := e0.symm
    subst e0
    rcases hf with ⟨hk, hf⟩ | ⟨hk, hf⟩
    · subst hf
      simp -implicitDefEqProofs (disch := first | omega | (simp only [h_szP, h_szS]; done) | (simp only [h_szP, h_szS]; omega)) only [go_sem, Nat.reduceBEq, reduceCtorEq, Nat.reduceAdd, Int.reduceEq, Int.reduceLT, Int.reduceLE, Int.reduceMul, Int.reduceAdd, Int.reduceSub, reduceIte, Nat.reduceLeDiff, Nat.reduceLT, Nat.reduceMul, Nat.reduceSub, Int.reduceToNat, s40, Tryd.underlying26, Tryd.underlying3, fo92_0, sh90, Tryd.underlying90, sl90, ze87, by87, sz87, sh87, fo89_0, sh3, sl23, ze5, by5, sz5, Tryd.underlying23, zc89, sd89, pl89_0, pl89_1, pl89_2, pl89_3, pl89_6, fo89_5, sz3, sz90, h1, h2', h3']
      exact ⟨0, by omega, .inr rfl⟩
    · subst hf
      simp -implicitDefEqProofs (disch := first | omega | (simp only [h_szP, h_szS]; done) | (simp only [h_szP, h_szS]; omega)) only [go_sem, Nat.reduceBEq, reduceCtorEq, Nat.reduceAdd, Int.reduceEq, Int.reduceLT, Int.reduceLE, Int.reduceMul, Int.reduceAdd, Int.reduceSub, reduceIte, Nat.reduceLeDiff, Nat.reduceLT, Nat.reduceMul, Nat.reduceSub, Int.reduceToNat, s40, Tryd.underlying26, Tryd.underlying3, fo92_0, sh90, Tryd.underlying90, sl90, ze87, by87, sz87, sh87, fo89_0, sh3, sl23, ze5, by5, sz5, Tryd.underlying23, zc89, sd89, pl89_0, pl89_1, pl89_2, pl89_3, pl89_6, fo89_5, sz3, sz90, h1, h2', h3']
      have s0 : Sl (h3.push (.cells #[] 5)) h3.size (.slice (some ⟨h3.size, 0, none⟩) 0 0) 5 1 0 [] := ⟨rfl, .inr ⟨_, _, rfl, Nat.le_refl _, Nat.le_refl _, [], by simp, by simp⟩⟩
      have hv3 := (hv.ext K3).ext (Keeps.push h3 (.cells #[] 5) (Nat.le_refl _))
      refine app_sl (n := ds.length) (new := flat encB ds) elB15 s0 (Vw.len hv3) (Vw.srcAll hv3) (flat_len encB_len ds) (flat_all encB_one ds) (by omega) (by obtain ⟨a, c, e, _⟩ := hv3.shape; rw [e]; rfl) (by simp) ?_
      intro v4 h4 S4 G4
      have K4 : Keeps h3.size h3 h4 := (Keeps.push h3 _ (Nat.le_refl _)).trans (G4.keeps (fun b hb => by simp [blk] at hb; omega) (by simp))
      have R4 := R3.ext K4
      have h1 := R4.t
      have h2' := R4.n
      have h3' := R4.r
      have l1 := getElem?_lt h1
      have l2 := getElem?_lt h2'
      have l3 := getElem?_lt h3'
      obtain ⟨a4, c4, e4, _⟩ := S4.vw.shape
      rw [e4]
      simp -implicitDefEqProofs (disch := first | omega | (simp only [h_szP, h_szS]; done) | (simp only [h_szP, h_szS]; omega)) only [go_sem, Nat.reduceBEq, reduceCtorEq, Nat.reduceAdd, Int.reduceEq, Int.reduceLT, Int.reduceLE, Int.reduceMul, Int.reduceAdd, Int.reduceSub, reduceIte, Nat.reduceLeDiff, Nat.reduceLT, Nat.reduceMul, Nat.reduceSub, Int.reduceToNat, s40, Tryd.underlying26, Tryd.underlying3, fo92_0, sh90, Tryd.underlying90, sl90, ze87, by87, sz87, sh87, fo89_0, sh3, sl23, ze5, by5, sz5, Tryd.underlying23, zc89, sd89, pl89_0, pl89_1, pl89_2, pl89_3, pl89_6, fo89_5, sz3, sz90, h1, h2', h3', mk_ptr]
      have nbm : bn ≠ m := fun e => by rw [e, h1] at h2'; simp at h2'
      have fin : ∀ (C : List Value) {K : Value → Heap → Prop}, (C[1]? = some (.int .i64 k)) →
          (∀ (v6 : Value) (h6 : Heap) (b6 c6 : Nat), v6 = .slice (some ⟨b6, 0, none⟩) 2 c6 → cellO 0 h6[b6]? = some (ptr r 0) → cellO 1 h6[b6]? = some (ptr h4.size 0) → b6 ≠ m → (b6 = bn ∨ h4.size ≤ b6) → h4.size < h6.size → (∀ b, b < h4.size → b ≠ bn → h6[b]? = h4[b]?) → cellO 1 h6[h4.size]? = some (.int .i64 k) → K v6 h6) →
          @appK Tryd.prog ((h4.push (.cells C.toArray 89)).push (.cells #[ptr h4.size 0] 87)) 90 90 (.slice (some ⟨bn, 0, none⟩) 1 1) (.slice (some ⟨h4.size + 1, 0, none⟩) 1 1) ⟨K⟩ := by
        intro C K hC hk
        have sN : Sl ((h4.push (.cells C.toArray 89)).push (.cells #[ptr h4.size 0] 87)) 0 (.slice (some ⟨bn, 0, none⟩) 1 1) 87 1 1 [ptr r 0] :=
          ⟨rfl, .inr ⟨bn, 1, rfl, Nat.le_refl _, Nat.zero_le _, [], by rw [h_pushL _ _ _ (by simp; omega), h_pushL _ _ _ l2]; exact h2', by simp⟩⟩
        refine app_sl (n := 1) (new := [ptr h4.size 0]) elNp sN rfl (by simp only [srcCells, cells?]; rw [h_pushE _ _ _ (by simp)]; rfl) rfl rfl (by omega) rfl (Nat.zero_le _) ?_
        intro v6 h6 S6 G6
        obtain ⟨b6, c6, e6, _, _, q0⟩ := S6.cell (i := 0) (u := ptr r 0) rfl
        obtain ⟨b6', c6', e6', _, _, q1⟩ := S6.cell (i := 1) (u := ptr h4.size 0) rfl
        have eb : b6' = b6 := by rw [e6] at e6'; injection e6' with e _ _; injection e with e; injection e with e; exact e.symm
        have hb6 : b6 = bn ∨ b6 = ((h4.push (.cells C.toArray 89)).push (.cells #[ptr h4.size 0] 87)).size := by
          rcases G6.2.2 with e | e
          · left; rw [e6] at e; simpa [blk] using e
          · right; rw [e6] at e; simpa [blk] using e
        have sz := G6.1
        simp only [Array.size_push] at sz hb6
        refine hk v6 h6 b6 c6 e6 q0 (by rw [← eb]; exact q1) (fun e9 => hb6.elim (fun e => nbm (e ▸ e9)) (fun e => by omega)) (by omega) (by omega) (fun b hb q => ?_) ?_
        · rw [G6.2.1 b (by simp; omega) (by simp [blk]; exact Ne.symm q), h_pushL _ _ _ (by simp; omega), h_pushL _ _ _ hb]
        · rw [G6.2.1 h4.size (by simp; omega) (by simp [blk]; omega), h_pushL _ _ _ (by simp), h_pushE _ _ _ rfl]
          show C.toArray[1]? = _
          simpa using hC
      refine ⟨fun _ => ?_, fun _ => ?_⟩
      all_goals
        refine fin _ ?_ ?_
        · rfl
        intro v6 h6 b6 c6 e6 q0 q1 nb nbh sz6 old6 kx
        have hm6 := old6 m l1 (Ne.symm nbm)
        rw [h1] at hm6
        have hr6 := old6 r l3 (fun e => by rw [e, h2'] at h3'; simp at h3')
        rw [h3'] at hr6
        have lm6 := getElem?_lt hm6
        have rm : r ≠ m := fun e => by rw [e, h1] at h3'; simp at h3'
        rw [e6]
        simp -implicitDefEqProofs (disch := first | omega | (simp only [h_szP, h_szS]; done) | (simp only [h_szP, h_szS]; omega)) only [go_sem, Nat.reduceBEq, reduceCtorEq, Nat.reduceAdd, Int.reduceEq, Int.reduceLT, Int.reduceLE, Int.reduceMul, Int.reduceAdd, Int.reduceSub, reduceIte, Nat.reduceLeDiff, Nat.reduceLT, Nat.reduceMul, Nat.reduceSub, Int.reduceToNat, s40, Tryd.underlying26, Tryd.underlying3, fo92_0, sh90, Tryd.underlying90, sl90, ze87, by87, sz87, sh87, fo89_0, sh3, sl23, ze5, by5, sz5, Tryd.underlying23, zc89, sd89, pl89_0, pl89_1, pl89_2, pl89_3, pl89_6, fo89_5, sz3, sz90, hm6]
        refine FnK.use (renter_c (m := m) (bn := b6) (r := r) (x := h4.size) (cap := c6) (kd := k) (w := #[]) (bw := []) s (h_setS _ _ _ lm6) (by rw [h_setN _ _ _ _ nb]; exact q0) (by rw [h_setN _ _ _ _ nb]; exact q1) (by rw [h_setN _ _ _ _ rm]; exact hr6) (by rw [h_setN _ _ _ _ (by omega)]; exact kx)) ?_
        intro y h8 L8
        simp -implicitDefEqProofs (disch := first | omega | (simp only [h_szP, h_szS]; done) | (simp only [h_szP, h_szS]; omega)) only [go_sem, Nat.reduceBEq, reduceCtorEq, Nat.reduceAdd, Int.reduceEq, Int.reduceLT, Int.reduceLE, Int.reduceMul, Int.reduceAdd, Int.reduceSub, reduceIte, Nat.reduceLeDiff, Nat.reduceLT, Nat.reduceMul, Nat.reduceSub, Int.reduceToNat, s40, Tryd.underlying26, Tryd.underlying3, fo92_0, sh90, Tryd.underlying90, sl90, ze87, by87, sz87, sh87, fo89_0, sh3, sl23, ze5, by5, sz5, Tryd.underlying23, zc89, sd89, pl89_0, pl89_1, pl89_2, pl89_3, pl89_6, fo89_5, sz3, sz90]
        have s4 := K4.size
        have s3 := K3.size
        have s8 := L8.size
        simp only [Array.size_setIfInBounds] at s8
        refine ⟨⟨2, 0, by omega, by omega, rfl⟩, by omega, fun b hb p1 p2 p3 => ?_⟩
        rw [L8.old b (by simp; omega) p1 (fun e => by rcases nbh with q | q; exact p2 (e.trans q); omega) p3, h_setN _ _ _ _ p1, old6 b (by omega) p2, K4.old b (by omega), K3.old b hb]
  · refine Fn_c Tryd.func40 mixed c40 (by kernel_rfl) ?_; rw [r40]
    simp -implicitDefEqProofs (disch := first | omega | (simp only [h_szP, h_szS]; done) | (simp only [h_szP, h_szS]; omega)) only [go_sem, Nat.reduceBEq, reduceCtorEq, Nat.reduceAdd, Int.reduceEq, Int.reduceLT, Int.reduceLE, Int.reduceMul, Int.reduceAdd, Int.reduceSub, reduceIte, Nat.reduceLeDiff, Nat.reduceLT, Nat.reduceMul, Nat.reduceSub, Int.reduceToNat, s40, Tryd.underlying26, Tryd.underlying3, fo92_0, sh90, Tryd.underlying90, sl90, ze87, by87, sz87, sh87, fo89_0, sh3, sl23, ze5, by5, sz5, Tryd.underlying23, zc89, sd89, pl89_0, pl89_1, pl89_2, pl89_3, pl89_6, fo89_5, sz3, sz90]
    refine FnK.use (isdir_o R n hn) ?_
    intro x h1 ⟨e1, K1⟩
    rw [e1]
    simp -implicitDefEqProofs (disch := first | omega | (simp only [h_szP, h_szS]; done) | (simp only [h_szP, h_szS]; omega)) only [go_sem, Nat.reduceBEq, reduceCtorEq, Nat.reduceAdd, Int.reduceEq, Int.reduceLT, Int.reduceLE, Int.reduceMul, Int.reduceAdd, Int.reduceSub, reduceIte, Nat.reduceLeDiff, Nat.reduceLT, Nat.reduceMul, Nat.reduceSub, Int.reduceToNat, s40, Tryd.underlying26, Tryd.underlying3, fo92_0, sh90, Tryd.underlying90, sl90, ze87, by87, sz87, sh87, fo89_0, sh3, sl23, ze5, by5, sz5, Tryd.underlying23, zc89, sd89, pl89_0, pl89_1, pl89_2, pl89_3, pl89_6, fo89_5, sz3, sz90]
    exact ⟨⟨0, 2, by omega, by omega, rfl⟩, Lv.of K1⟩
end Go.SX.G
