/- The space: New, up, span, lay, where. No condition but on sizes. -/
import Derived.Test.YtajfhnphhdoobaaMemA
import Derived.Test.YtajfhnphhdoobaaMemSp
set_option linter.unusedVariables false
set_option linter.unusedSimpArgs false
namespace Go.SX.G
open Go Go.SX Go.Proofs
set_option maxRecDepth 100000
set_option maxHeartbeats 2000000
/-- a space at a block. -/
structure MR (h : Heap) (s : Nat) (M : MemD) : Prop where
  top : h[s]? = some (.cells #[ptr M.l 0, ptr M.p 0, .int .i64 M.most, .int .u64 M.base, .int .u64 M.fin] 78 (0, 0))
  lr : LR h M.l M.bl M.rs
  sr : SR h M.p M.D
  wf : wfR M.rs
  len : M.rs.length ≤ 256
  ds : s ≠ M.l ∧ M.bl ≠ some s ∧ ¬ foot M.p M.D s
  dl : M.bl ≠ some M.l ∧ ¬ foot M.p M.D M.l
  db : ∀ b, M.bl = some b → ¬ foot M.p M.D b
  num : M.most < 9223372036854775808 ∧ M.base ≤ 274877906944 ∧ M.fin ≤ 274877906944
/-- its blocks. -/
def mfoot (s : Nat) (M : MemD) (b : Nat) : Prop := b = s ∨ b = M.l ∨ M.bl = some b ∨ foot M.p M.D b
theorem MR.lt {h : Heap} {s : Nat} {M : MemD} (r : MR h s M) {b : Nat} (f : mfoot s M b) : b < h.size := by
  rcases f with rfl | rfl | f | f
  · exact getElem?_lt r.top
  · exact r.lr.lt
  · exact r.lr.blt f
  · exact r.sr.lt f
theorem MR.mono {h h' : Heap} {s : Nat} {M : MemD} (r : MR h s M) (k : ∀ b, mfoot s M b → h'[b]? = h[b]?) : MR h' s M :=
  ⟨by rw [k s (.inl rfl)]; exact r.top, r.lr.mono (k _ (.inr (.inl rfl))) fun b e => k b (.inr (.inr (.inl e))), r.sr.mono fun b f => k b (.inr (.inr (.inr f))), r.wf, r.len, r.ds, r.dl, r.db, r.num⟩
theorem MR.ext {h h' : Heap} {s : Nat} {M : MemD} (r : MR h s M) (k : Keeps h.size h h') : MR h' s M := r.mono fun b f => k.old b (r.lt f)
/-- blocks outside are as they were. -/
structure Fx (F F' : Nat → Prop) (h h' : Heap) : Prop where
  size : h.size ≤ h'.size
  ft : ∀ b, F' b → F b ∨ h.size ≤ b
  old : ∀ b, b < h.size → ¬ F b → h'[b]? = h[b]?
theorem Fx.of {F : Nat → Prop} {h h' : Heap} (k : Keeps h.size h h') : Fx F F h h' := ⟨k.size, fun _ f => .inl f, fun b hb _ => k.old b hb⟩
theorem Fx.trans {F F1 F2 : Nat → Prop} {h h1 h2 : Heap} (a : Fx F F1 h h1) (b : Fx F1 F2 h1 h2) : Fx F F2 h h2 := by
  refine ⟨Nat.le_trans a.size b.size, fun x f => ?_, fun x hx f => ?_⟩
  · have := a.size
    rcases b.ft x f with q | q
    · exact a.ft x q
    · right; omega
  · have := a.size
    rw [b.old x (by omega) fun q => ?_, a.old x hx f]
    rcases a.ft x q with z | z
    · exact f z
    · omega
/-- what is one's own stays apart from what was there first. -/
theorem Fx.own {F F' : Nat → Prop} {h0 h h' : Heap} (x : Fx F F' h h') (hF : ∀ b, F b → h0.size ≤ b) (k : Keeps h0.size h0 h) : Keeps h0.size h0 h' ∧ ∀ b, F' b → h0.size ≤ b := by
  have h1 := k.size
  have h2 := x.size
  refine ⟨⟨by omega, fun b hb => by rw [x.old b (by omega) fun f => by have := hF b f; omega, k.old b hb]⟩, fun b f => ?_⟩
  rcases x.ft b f with q | q
  · exact hF b q
  · omega
theorem mnew_c (h : Heap) (n : Nat) (hn : n < 9223372036854775808) : Fn Try.prog 7 [.int .i64 n] h fun x h' => ∃ s M, x = ptr s 0 ∧ MR h' s M ∧ Keeps h.size h h' ∧ (∀ b, mfoot s M b → h.size ≤ b) ∧ M.rs = [] ∧ M.D.es = [] ∧ M.most = n ∧ M.base = 0 ∧ M.fin = 0 ∧ M.D.clock = 0 ∧ M.D.all = 0 ∧ M.D.ss = [] := by
  have hmx : (if (n : Int) < 0 then (0 : Int) else n) = n := by rw [if_neg (by omega)]
  have K0 : ∀ (o : Obj), Keeps h.size h (h.push o) := fun o => Keeps.push h o (Nat.le_refl _)
  refine Fn_c Try.func7 mixed c7 (by kernel_rfl) ?_; rw [r7]
  simp -implicitDefEqProofs (disch := first | omega | (simp only [h_szP, h_szS]; done) | (simp only [h_szP, h_szS]; omega)) only [go_sem, Nat.reduceBEq, reduceCtorEq, Nat.reduceAdd, Int.reduceEq, Int.reduceLT, Int.reduceLE, Int.reduceMul, Int.reduceAdd, Int.reduceSub, reduceIte, Nat.reduceLeDiff, Nat.reduceLT, Nat.reduceMul, Nat.reduceSub, Int.reduceToNat, s7, Try.underlying3, zc78, sd78, pl78_0, pl78_1, pl78_2]
  refine FnK.use (rnew_c h) ?_
  intro x1 h1 ⟨e1, e2⟩
  rw [e1, e2]
  simp -implicitDefEqProofs (disch := first | omega | (simp only [h_szP, h_szS]; done) | (simp only [h_szP, h_szS]; omega)) only [go_sem, Nat.reduceBEq, reduceCtorEq, Nat.reduceAdd, Int.reduceEq, Int.reduceLT, Int.reduceLE, Int.reduceMul, Int.reduceAdd, Int.reduceSub, reduceIte, Nat.reduceLeDiff, Nat.reduceLT, Nat.reduceMul, Nat.reduceSub, Int.reduceToNat, s7, Try.underlying3, zc78, sd78, pl78_0, pl78_1, pl78_2]
  refine FnK.use (pnew_c _) ?_
  intro x2 h2 ⟨e3, e4⟩
  rw [e3, e4]
  simp -implicitDefEqProofs (disch := first | omega | (simp only [h_szP, h_szS]; done) | (simp only [h_szP, h_szS]; omega)) only [go_sem, Nat.reduceBEq, reduceCtorEq, Nat.reduceAdd, Int.reduceEq, Int.reduceLT, Int.reduceLE, Int.reduceMul, Int.reduceAdd, Int.reduceSub, reduceIte, Nat.reduceLeDiff, Nat.reduceLT, Nat.reduceMul, Nat.reduceSub, Int.reduceToNat, s7, Try.underlying3, zc78, sd78, pl78_0, pl78_1, pl78_2, hmx]
  obtain ⟨hh, ehh⟩ : ∃ hh : Heap, hh = ((((h.push (.cells #[.slice none 0 0] 117)).push (.map #[] 0)).push (.map #[] 0)).push (.cells #[.map (some (h.size + 1)), .map (some (h.size + 2)), .int .u64 0, .int .u64 0] 121)).push
    (.cells #[.pointer (some ⟨h.size, 0, none⟩), .pointer (some ⟨h.size + 3, 0, none⟩), .int .i64 n, .int .u64 0, .int .u64 0] 78) := ⟨_, rfl⟩
  rw [← ehh]
  have h0 : hh[h.size]? = some (.cells #[.slice none 0 0] 117 (0, 0)) := by rw [ehh]; simp -implicitDefEqProofs (disch := first | omega | (simp only [h_szP, h_szS]; done) | (simp only [h_szP, h_szS]; omega)) only [go_sem, Nat.reduceBEq, reduceCtorEq, Nat.reduceAdd, Int.reduceEq, Int.reduceLT, Int.reduceLE, Int.reduceMul, Int.reduceAdd, Int.reduceSub, reduceIte, Nat.reduceLeDiff, Nat.reduceLT, Nat.reduceMul, Nat.reduceSub, Int.reduceToNat]
  have h1 : hh[h.size + 1]? = some (.map #[] 0) := by rw [ehh]; simp -implicitDefEqProofs (disch := first | omega | (simp only [h_szP, h_szS]; done) | (simp only [h_szP, h_szS]; omega)) only [go_sem, Nat.reduceBEq, reduceCtorEq, Nat.reduceAdd, Int.reduceEq, Int.reduceLT, Int.reduceLE, Int.reduceMul, Int.reduceAdd, Int.reduceSub, reduceIte, Nat.reduceLeDiff, Nat.reduceLT, Nat.reduceMul, Nat.reduceSub, Int.reduceToNat]
  have h2 : hh[h.size + 2]? = some (.map #[] 0) := by rw [ehh]; simp -implicitDefEqProofs (disch := first | omega | (simp only [h_szP, h_szS]; done) | (simp only [h_szP, h_szS]; omega)) only [go_sem, Nat.reduceBEq, reduceCtorEq, Nat.reduceAdd, Int.reduceEq, Int.reduceLT, Int.reduceLE, Int.reduceMul, Int.reduceAdd, Int.reduceSub, reduceIte, Nat.reduceLeDiff, Nat.reduceLT, Nat.reduceMul, Nat.reduceSub, Int.reduceToNat]
  have h3 : hh[h.size + 3]? = some (.cells #[.map (some (h.size + 1)), .map (some (h.size + 2)), .int .u64 0, .int .u64 0] 121 (0, 0)) := by rw [ehh]; simp -implicitDefEqProofs (disch := first | omega | (simp only [h_szP, h_szS]; done) | (simp only [h_szP, h_szS]; omega)) only [go_sem, Nat.reduceBEq, reduceCtorEq, Nat.reduceAdd, Int.reduceEq, Int.reduceLT, Int.reduceLE, Int.reduceMul, Int.reduceAdd, Int.reduceSub, reduceIte, Nat.reduceLeDiff, Nat.reduceLT, Nat.reduceMul, Nat.reduceSub, Int.reduceToNat]
  have h4 : hh[h.size + 4]? = some (.cells #[.pointer (some ⟨h.size, 0, none⟩), .pointer (some ⟨h.size + 3, 0, none⟩), .int .i64 n, .int .u64 0, .int .u64 0] 78 (0, 0)) := by rw [ehh]; simp -implicitDefEqProofs (disch := first | omega | (simp only [h_szP, h_szS]; done) | (simp only [h_szP, h_szS]; omega)) only [go_sem, Nat.reduceBEq, reduceCtorEq, Nat.reduceAdd, Int.reduceEq, Int.reduceLT, Int.reduceLE, Int.reduceMul, Int.reduceAdd, Int.reduceSub, reduceIte, Nat.reduceLeDiff, Nat.reduceLT, Nat.reduceMul, Nat.reduceSub, Int.reduceToNat]
  have hK : Keeps h.size h hh := by rw [ehh]; exact ((((K0 _).push' (Nat.le_refl _)).push' (Nat.le_refl _)).push' (Nat.le_refl _)).push' (Nat.le_refl _)
  have hft : ∀ b, foot (h.size + 3) ⟨h.size + 1, h.size + 2, [], 0, [], 0, 0, 0⟩ b → b = h.size + 3 ∨ b = h.size + 1 ∨ b = h.size + 2 := by
    rintro b (f | f | f | ⟨l, hl, _⟩)
    · exact .inl f
    · exact .inr (.inl f)
    · exact .inr (.inr f)
    · cases hl
  refine ⟨h.size + 4, ⟨h.size, none, [], h.size + 3, ⟨h.size + 1, h.size + 2, [], 0, [], 0, 0, 0⟩, n, 0, 0⟩, rfl, ⟨h4, ⟨_, h0, rfl, Vs.nil _⟩, ⟨h3, h1, h2, fun l hl => (by cases hl), List.Pairwise.nil, List.Pairwise.nil, List.Pairwise.nil, List.Pairwise.nil, by show h.size + 1 ≠ h.size + 2; omega, fun s hs => (by cases hs), List.Pairwise.nil, ⟨by show (0 : Nat) < _; decide, by show (0 : Nat) < _; decide⟩⟩, wfR.nil, by simp, ⟨by show h.size + 4 ≠ h.size; omega, by simp, fun f => ?_⟩, ⟨by simp, fun f => ?_⟩, fun b e => (by cases e), hn, by simp, by simp⟩, hK, ?_, rfl, rfl, rfl, rfl, rfl, rfl, rfl, rfl⟩
  · have := hft (h.size + 4) f; omega
  · have := hft h.size f; omega
  · rintro b (f | f | f | f)
    · subst f; show h.size ≤ h.size + 4; omega
    · subst f; exact Nat.le_refl _
    · cases f
    · have := hft b f; omega
theorem up_c (h : Heap) (n : Nat) (hn : n < 18446744073709551616) : Fn Try.prog 48 [.int .u64 n] h fun x h' => x = placeV (upO n) ∧ h' = h := by
  unfold upO
  by_cases q : n ≤ 274877906944
  · have hd : decide ((274877906944 : Int) < n) = false := decide_eq_false (by omega)
    rw [if_pos q]
    refine Fn_c Try.func48 mixed c48 (by kernel_rfl) ?_; rw [r48]
    simp -implicitDefEqProofs (disch := first | omega | (simp only [h_szP, h_szS]; done) | (simp only [h_szP, h_szS]; omega)) only [go_sem, Nat.reduceBEq, reduceCtorEq, Nat.reduceAdd, Int.reduceEq, Int.reduceLT, Int.reduceLE, Int.reduceMul, Int.reduceAdd, Int.reduceSub, reduceIte, Nat.reduceLeDiff, Nat.reduceLT, Nat.reduceMul, Nat.reduceSub, Int.reduceToNat, s48, Try.underlying26, hd]
    simp only [placeV, upN]
    congr 4
    omega
  · have hd : decide ((274877906944 : Int) < n) = true := decide_eq_true (by omega)
    rw [if_neg q]
    refine Fn_c Try.func48 mixed c48 (by kernel_rfl) ?_; rw [r48]
    simp -implicitDefEqProofs (disch := first | omega | (simp only [h_szP, h_szS]; done) | (simp only [h_szP, h_szS]; omega)) only [go_sem, Nat.reduceBEq, reduceCtorEq, Nat.reduceAdd, Int.reduceEq, Int.reduceLT, Int.reduceLE, Int.reduceMul, Int.reduceAdd, Int.reduceSub, reduceIte, Nat.reduceLeDiff, Nat.reduceLT, Nat.reduceMul, Nat.reduceSub, Int.reduceToNat, s48, Try.underlying26, hd]
    rfl
theorem placeV_some (a : Nat) : placeV (some a) = .tuple #[.int .u64 a, .bool true] := rfl
theorem placeV_none : placeV none = .tuple #[.int .u64 0, .bool false] := rfl
theorem mspan_c (h : Heap) (a n : Nat) (ha : a < 18446744073709551616) (hn : n < 18446744073709551616) : Fn Try.prog 26 [.int .u64 a, .int .u64 n] h fun x h' => x = placeV (spanO a n) ∧ h' = h := by
  refine Fn_c Try.func26 mixed c26 (by kernel_rfl) ?_; rw [r26]
  simp -implicitDefEqProofs (disch := first | omega | (simp only [h_szP, h_szS]; done) | (simp only [h_szP, h_szS]; omega)) only [go_sem, Nat.reduceBEq, reduceCtorEq, Nat.reduceAdd, Int.reduceEq, Int.reduceLT, Int.reduceLE, Int.reduceMul, Int.reduceAdd, Int.reduceSub, reduceIte, Nat.reduceLeDiff, Nat.reduceLT, Nat.reduceMul, Nat.reduceSub, Int.reduceToNat, s26, Try.underlying26]
  refine FnK.val (up_c h n hn) ?_
  unfold upO
  by_cases q : n ≤ 274877906944
  · rw [if_pos q, placeV_some]
    have hu := upN_le q
    have hu0 : upN n = 0 ↔ n = 0 := by unfold upN; omega
    by_cases qa : a ≤ 274877906944
    · have hw : IntKind.u64.wrap (274877906944 - (a : Int)) = 274877906944 - (a : Int) := wr_u64 _ (by omega) (by omega)
      by_cases qf : upN n ≤ 274877906944 - a
      · have hw2 : IntKind.u64.wrap ((a : Int) + (upN n : Nat)) = ((a + upN n : Nat) : Int) := by rw [wr_u64 _ (by omega) (by omega)]; omega
        simp -implicitDefEqProofs (disch := first | omega | (simp only [h_szP, h_szS]; done) | (simp only [h_szP, h_szS]; omega)) only [go_sem, Nat.reduceBEq, reduceCtorEq, Nat.reduceAdd, Int.reduceEq, Int.reduceLT, Int.reduceLE, Int.reduceMul, Int.reduceAdd, Int.reduceSub, reduceIte, Nat.reduceLeDiff, Nat.reduceLT, Nat.reduceMul, Nat.reduceSub, Int.reduceToNat, s26, Try.underlying26, hw, hw2]
        unfold spanO
        repeat' first | intro _ | refine And.intro ?_ ?_
        all_goals first | (rw [if_pos (by omega)]; rfl) | (rw [if_neg (by omega)]; rfl) | omega
      · have hd : decide ((274877906944 - (a : Int)) < (upN n : Nat)) = true := decide_eq_true (by omega)
        simp -implicitDefEqProofs (disch := first | omega | (simp only [h_szP, h_szS]; done) | (simp only [h_szP, h_szS]; omega)) only [go_sem, Nat.reduceBEq, reduceCtorEq, Nat.reduceAdd, Int.reduceEq, Int.reduceLT, Int.reduceLE, Int.reduceMul, Int.reduceAdd, Int.reduceSub, reduceIte, Nat.reduceLeDiff, Nat.reduceLT, Nat.reduceMul, Nat.reduceSub, Int.reduceToNat, s26, Try.underlying26, hw, hd]
        unfold spanO
        repeat' first | intro _ | refine And.intro ?_ ?_
        all_goals first | (rw [if_pos (by omega)]; rfl) | (rw [if_neg (by omega)]; rfl) | omega
    · have hd : decide ((274877906944 : Int) < a) = true := decide_eq_true (by omega)
      simp -implicitDefEqProofs (disch := first | omega | (simp only [h_szP, h_szS]; done) | (simp only [h_szP, h_szS]; omega)) only [go_sem, Nat.reduceBEq, reduceCtorEq, Nat.reduceAdd, Int.reduceEq, Int.reduceLT, Int.reduceLE, Int.reduceMul, Int.reduceAdd, Int.reduceSub, reduceIte, Nat.reduceLeDiff, Nat.reduceLT, Nat.reduceMul, Nat.reduceSub, Int.reduceToNat, s26, Try.underlying26, hd]
      unfold spanO
      repeat' first | intro _ | refine And.intro ?_ ?_
      all_goals first | (rw [if_pos (by omega)]; rfl) | (rw [if_neg (by omega)]; rfl) | omega
  · rw [if_neg q, placeV_none]
    simp -implicitDefEqProofs (disch := first | omega | (simp only [h_szP, h_szS]; done) | (simp only [h_szP, h_szS]; omega)) only [go_sem, Nat.reduceBEq, reduceCtorEq, Nat.reduceAdd, Int.reduceEq, Int.reduceLT, Int.reduceLE, Int.reduceMul, Int.reduceAdd, Int.reduceSub, reduceIte, Nat.reduceLeDiff, Nat.reduceLT, Nat.reduceMul, Nat.reduceSub, Int.reduceToNat, s26, Try.underlying26]
    unfold spanO
    rw [if_neg (by omega)]
    rfl
end Go.SX.G
