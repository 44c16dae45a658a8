/- Regions: small functions, what looks for one. No condition but on sizes. -/
import Derived.Test.YtajfhnphhdoobaaRegC
set_option linter.unusedVariables false
set_option linter.unusedSimpArgs false
namespace Go.SX.G
open Go Go.SX Go.Proofs
set_option maxRecDepth 100000
set_option maxHeartbeats 1000000
/-- a list of regions at a block; 'bl': where its slice lies. -/
def LR (h : Heap) (l : Nat) (bl : Option Nat) (rs : List Reg) : Prop := ∃ v, h[l]? = some (.cells #[v] 117 (0, 0)) ∧ blk v = bl ∧ Vs h v encR 3 rs
theorem LR.lt {h : Heap} {l : Nat} {bl : Option Nat} {rs : List Reg} (k : LR h l bl rs) : l < h.size := by obtain ⟨v, h1, _⟩ := k; exact getElem?_lt h1
theorem LR.blt {h : Heap} {l b : Nat} {bl : Option Nat} {rs : List Reg} (k : LR h l bl rs) (e : bl = some b) : b < h.size := by obtain ⟨v, h1, h2, h3⟩ := k; exact h3.blk_lt (h2.trans e)
theorem LR.mono {h h' : Heap} {l : Nat} {bl : Option Nat} {rs : List Reg} (k : LR h l bl rs) (h1 : h'[l]? = h[l]?) (h2 : ∀ b, bl = some b → h'[b]? = h[b]?) : LR h' l bl rs := by
  obtain ⟨v, e1, e2, e3⟩ := k
  exact ⟨v, h1.trans e1, e2, e3.mono fun b hb => h2 b (e2.symm.trans hb)⟩
theorem LR.ext {h h' : Heap} {l : Nat} {bl : Option Nat} {rs : List Reg} (k : LR h l bl rs) (q : Keeps h.size h h') : LR h' l bl rs := k.mono (q.old _ k.lt) fun b e => q.old _ (k.blt e)
/-- what an operation that sets a list's regions comes to. -/
inductive Took (h h' : Heap) (l : Nat) (x : Value) (rs : List Reg) : Prop
  | no (n : 256 < rs.length) (e : x = .int .i64 12) (k : Keeps h.size h h')
  | yes (n : rs.length ≤ 256) (e : x = .int .i64 0) (bl : Option Nat) (r : LR h' l bl rs) (fresh : ∀ b, bl = some b → h.size ≤ b) (size : h.size ≤ h'.size) (old : ∀ b, b < h.size → b ≠ l → h'[b]? = h[b]?)
theorem rnew_c (h : Heap) : Fn Try.prog 23 [] h fun v h' => v = ptr h.size 0 ∧ h' = h.push (.cells #[.slice none 0 0] 117 (0, 0)) := by
  refine Fn_c Try.func23 mixed c23 (by kernel_rfl) ?_; rw [r23]
  simp -implicitDefEqProofs (disch := first | omega | (simp only [h_szP, h_szS]; done) | (simp only [h_szP, h_szS]; omega)) only [go_sem, Nat.reduceBEq, reduceCtorEq, Nat.reduceAdd, Int.reduceEq, Int.reduceLT, Int.reduceLE, Int.reduceMul, Int.reduceAdd, Int.reduceSub, reduceIte, Nat.reduceLeDiff, Nat.reduceLT, Nat.reduceMul, Nat.reduceSub, Int.reduceToNat, s23, zc117, sd117]
theorem span_c (h : Heap) (s e : Nat) : Fn Try.prog 67 [.int .u64 s, .int .u64 e] h fun v h' => v = .bool (spanB s e) ∧ h' = h := by
  refine Fn_c Try.func67 mixed c67 (by kernel_rfl) ?_; rw [r67]
  simp -implicitDefEqProofs (disch := first | omega | (simp only [h_szP, h_szS]; done) | (simp only [h_szP, h_szS]; omega)) only [go_sem, Nat.reduceBEq, reduceCtorEq, Nat.reduceAdd, Int.reduceEq, Int.reduceLT, Int.reduceLE, Int.reduceMul, Int.reduceAdd, Int.reduceSub, reduceIte, Nat.reduceLeDiff, Nat.reduceLT, Nat.reduceMul, Nat.reduceSub, Int.reduceToNat, s67, Try.underlying26]
  unfold spanB
  repeat' first | intro _ | refine And.intro ?_ ?_
  all_goals first | rfl | (congr 1; symm; first | (apply decide_eq_true; omega) | (apply decide_eq_false; omega) | (congr 1; apply propext; omega))
theorem prots_c (h : Heap) (p : Int) : Fn Try.prog 71 [.int .i64 p] h fun v h' => v = .bool (decide (0 ≤ p ∧ p ≤ 7)) ∧ h' = h := by
  refine Fn_c Try.func71 mixed c71 (by kernel_rfl) ?_; rw [r71]
  simp -implicitDefEqProofs (disch := first | omega | (simp only [h_szP, h_szS]; done) | (simp only [h_szP, h_szS]; omega)) only [go_sem, Nat.reduceBEq, reduceCtorEq, Nat.reduceAdd, Int.reduceEq, Int.reduceLT, Int.reduceLE, Int.reduceMul, Int.reduceAdd, Int.reduceSub, reduceIte, Nat.reduceLeDiff, Nat.reduceLT, Nat.reduceMul, Nat.reduceSub, Int.reduceToNat, s71, Try.underlying3]
  repeat' first | intro _ | refine And.intro ?_ ?_
  all_goals first | rfl | (congr 1; symm; first | (apply decide_eq_true; omega) | (apply decide_eq_false; omega) | (congr 1; apply propext; omega))
theorem clone_c {h : Heap} {v : Value} {rs : List Reg} (hv : Vs h v encR 3 rs) (hl : rs.length ≤ 4000000000) :
    Fn Try.prog 70 [v] h fun x h' => Vs h' x encR 3 rs ∧ (∀ b, blk x = some b → h.size ≤ b) ∧ Keeps h.size h h' := by
  rcases hv.2 with ⟨e1, h0⟩ | ⟨b, o, cap, c, e, f, e1, hc, hB, hr, hL⟩
  · subst e1
    refine Fn_c Try.func70 mixed c70 (by kernel_rfl) ?_; rw [r70]
    simp -implicitDefEqProofs (disch := first | omega | (simp only [h_szP, h_szS]; done) | (simp only [h_szP, h_szS]; omega)) only [go_sem, Nat.reduceBEq, reduceCtorEq, Nat.reduceAdd, Int.reduceEq, Int.reduceLT, Int.reduceLE, Int.reduceMul, Int.reduceAdd, Int.reduceSub, reduceIte, Nat.reduceLeDiff, Nat.reduceLT, Nat.reduceMul, Nat.reduceSub, Int.reduceToNat, s70, Try.underlying115, sl115, ze83, by83, sz83]
    exact ⟨hv, fun b hb => (by cases hb), Keeps.refl'⟩
  · subst e1
    refine Fn_c Try.func70 mixed c70 (by kernel_rfl) ?_; rw [r70]
    simp -implicitDefEqProofs (disch := first | omega | (simp only [h_szP, h_szS]; done) | (simp only [h_szP, h_szS]; omega)) only [go_sem, Nat.reduceBEq, reduceCtorEq, Nat.reduceAdd, Int.reduceEq, Int.reduceLT, Int.reduceLE, Int.reduceMul, Int.reduceAdd, Int.reduceSub, reduceIte, Nat.reduceLeDiff, Nat.reduceLT, Nat.reduceMul, Nat.reduceSub, Int.reduceToNat, s70, Try.underlying115, sl115, ze83, by83, sz83]
    have hs : Vs (h.push (.cells #[] 83)) (.slice (some ⟨b, o, none⟩) rs.length cap) encR 3 rs := hv.ext (Keeps.push _ _ (Nat.le_refl _))
    refine app_sl (L := []) (m := 0) (n := rs.length) (lo := h.size) (new := flat encR rs) elR ⟨rfl, .inr ⟨h.size, 0, rfl, Nat.le_refl _, Nat.le_refl _, [], h_pushE _ _ _ rfl, Nat.le_refl _⟩⟩ rfl ?_ (flat_len encR_len rs) (flat_all encR_one rs) (by omega) rfl (by simp) ?_
    · have := Vw.srcAll hs
      exact this
    · intro v' h' hs' hg
      simp -implicitDefEqProofs (disch := first | omega | (simp only [h_szP, h_szS]; done) | (simp only [h_szP, h_szS]; omega)) only [go_sem, Nat.reduceBEq, reduceCtorEq, Nat.reduceAdd, Int.reduceEq, Int.reduceLT, Int.reduceLE, Int.reduceMul, Int.reduceAdd, Int.reduceSub, reduceIte, Nat.reduceLeDiff, Nat.reduceLT, Nat.reduceMul, Nat.reduceSub, Int.reduceToNat, s70, Try.underlying115, sl115, ze83, by83, sz83]
      rw [Nat.zero_add, List.nil_append] at hs'
      refine ⟨hs'.vw, fun b' hb' => ?_, (Keeps.push _ _ (Nat.le_refl _)).trans (hg.keeps (lo := h.size) (fun b hb => ?_) (by simp))⟩
      · exact (hs'.blk_lt hb').1
      · simp [blk] at hb; omega
theorem take_c {h : Heap} {l : Nat} {bl0 : Option Nat} {v : Value} {rs rs0 : List Reg} (hl : LR h l bl0 rs0) (hv : Vs h v encR 3 rs) (hn : rs.length ≤ 4000000000) :
    Fn Try.prog 72 [ptr l 0, v] h fun x h' => Took h h' l x (joL rs) := by
  obtain ⟨v0, hl0, _⟩ := hl
  have hlt := getElem?_lt hl0
  refine Fn_c Try.func72 mixed c72 (by kernel_rfl) ?_; rw [r72]
  simp -implicitDefEqProofs (disch := first | omega | (simp only [h_szP, h_szS]; done) | (simp only [h_szP, h_szS]; omega)) only [go_sem, Nat.reduceBEq, reduceCtorEq, Nat.reduceAdd, Int.reduceEq, Int.reduceLT, Int.reduceLE, Int.reduceMul, Int.reduceAdd, Int.reduceSub, reduceIte, Nat.reduceLeDiff, Nat.reduceLT, Nat.reduceMul, Nat.reduceSub, Int.reduceToNat, s72, Try.underlying115, sl115, ze83, by83, sz83, Try.underlying3, fo117_0, sz115]
  refine FnK.use (joined_c hv hn) ?_
  intro v1 h1 ⟨S1, K1⟩
  obtain ⟨a, cap, e1, hcap⟩ := S1.vs.shape
  subst e1
  have hl1 := K1.at hl0 hlt
  have hlt1 := getElem?_lt hl1
  simp -implicitDefEqProofs (disch := first | omega | (simp only [h_szP, h_szS]; done) | (simp only [h_szP, h_szS]; omega)) only [go_sem, Nat.reduceBEq, reduceCtorEq, Nat.reduceAdd, Int.reduceEq, Int.reduceLT, Int.reduceLE, Int.reduceMul, Int.reduceAdd, Int.reduceSub, reduceIte, Nat.reduceLeDiff, Nat.reduceLT, Nat.reduceMul, Nat.reduceSub, Int.reduceToNat, s72, Try.underlying115, sl115, ze83, by83, sz83, Try.underlying3, fo117_0, sz115, hl1]
  refine ⟨fun q => ?_, fun q => ?_⟩
  · exact .no (by omega) rfl K1
  · refine .yes (by omega) rfl _ ⟨_, h_setS _ _ _ hlt1, rfl, ?_⟩ (fun b hb => (S1.blk hb).1) (by simp; exact K1.size) fun b hb hne => ?_
    · refine S1.vs.mono fun b hb => ?_
      have := S1.blk hb
      exact h_setN _ _ _ _ (by omega)
    · rw [h_setN _ _ _ _ hne, K1.old b hb]
end Go.SX.G
