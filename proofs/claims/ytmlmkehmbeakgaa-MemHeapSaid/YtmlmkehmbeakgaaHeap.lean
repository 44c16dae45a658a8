/- MemHeap, the walk. No condition. -/
import Derived.Test.YtmlmkehmbeakgaaMemH
import Derived.Test.YtmlmkehmbeakgaaBytes
import Derived.Test.YtmlmkehmbeakgaaHeapPlain
set_option linter.unusedVariables false
set_option linter.unusedSimpArgs false
namespace Go.SX.G
open Go Go.SX Go.Proofs
set_option maxRecDepth 100000
set_option maxHeartbeats 2000000
def encI (x : Nat) : List Value := [.int .u32 (x : Int)]
theorem encI_len (x : Nat) : (encI x).length = 1 := rfl
/-- a heap that ends at 'e', below a mapping at 'w'; all its bytes are 0. -/
structure HeapI (h : Heap) (s : Nat) (M : MemD) (e w : Nat) : Prop where
  r : MR h s M
  most : M.most = 40
  base : M.base = 8192
  fin : M.fin = e
  lo : 8192 ≤ e
  hi : e < 200000
  rs : M.rs = heapL (upN e) w
  le : upN e ≤ w
  zero : ∀ y, y < w → memAt M y = 0
theorem HeapI.ext {h h' : Heap} {s e w : Nat} {M : MemD} (q : HeapI h s M e w) (k : Keeps h.size h h') : HeapI h' s M e w := ⟨q.r.ext k, q.most, q.base, q.fin, q.lo, q.hi, q.rs, q.le, q.zero⟩
theorem heap_brk {h : Heap} {s e w : Nat} {M : MemD} (n : Nat) (q : HeapI h s M e w) (hn : n < 200000) (hw1 : w % 4096 = 0) (hw2 : w ≤ 126976) :
    Fn Try.prog 24 [ptr s 0, .int .u64 n] h fun x h' => ∃ (g : Nat) (M' : MemD), x = .int .u64 g ∧ HeapI h' s M' g w ∧ Fx (mfoot s M) (mfoot s M') h h' ∧ (8192 ≤ n ∧ upN n ≤ w → g = n) ∧ (¬ (8192 ≤ n ∧ upN n ≤ w) → g = e) := by
  refine (mbrk_c n q.r (by omega)).mono ?_
  intro x h' hx
  have hl := q.lo
  have hh := q.hi
  have hle := q.le
  have hu : 8192 ≤ upN e := by unfold upN; omega
  have hfree : ∀ m, upN e < m → freeB M.rs (upN e) m = true → m ≤ w := by
    intro m hm hf
    rw [q.rs] at hf
    unfold freeB at hf
    rw [heapL_free hu hm hle] at hf
    simp at hf
    exact hf.2
  have hne : upN n % 4096 = 0 := by unfold upN; omega
  have hee : upN e % 4096 = 0 := by unfold upN; omega
  cases hx with
  | out c ex k =>
    rw [q.base] at c
    rw [q.fin] at ex
    exact ⟨e, M, ex, q.ext k, Fx.of k, fun z => by omega, fun _ => rfl⟩
  | full c c1 c2 ex k =>
    rw [q.base] at c
    rw [q.fin] at ex c1 c2
    refine ⟨e, M, ex, q.ext k, Fx.of k, fun z => ?_, fun _ => rfl⟩
    exfalso
    rw [q.rs, heapL_grow hu c1 z.2] at c2
    rcases c2 with c2 | c2 | c2
    · unfold freeB at c2
      rw [heapL_free hu c1 hle, decide_eq_false (show ¬ w < upN n by omega)] at c2
      simp [spanB] at c2
      have h5 : upN n ≤ 274877906944 := by omega
      exact absurd h5 (by have := c2 hee hne c1; omega)
    · have := heapL_len (upN n) w; omega
    · have := heapL_pages (e := upN n) (w := w) (by omega) z.2 hw2
      rw [q.most] at c2; omega
  | stuck c c1 c2 ex k =>
    exfalso
    rw [q.fin] at c1 c2
    rw [q.base] at c
    rw [q.rs, heapL_cut (by unfold upN; omega) c1 hle] at c2
    have := heapL_len (upN n) w; omega
  | grow c c1 c2 c3 c4 ex M' r rs byte most base fin fx sr =>
    rw [q.fin] at c1 c2 rs byte
    rw [q.base] at c
    have hm := hfree _ c1 c2
    rw [q.rs, heapL_grow hu c1 hm] at rs
    refine ⟨n, M', ex, ⟨r, by rw [most, q.most], by rw [base, q.base], fin, c.1, hn, rs, hm, fun y hy => ?_⟩, fx, fun _ => rfl, fun z => absurd ⟨c.1, hm⟩ z⟩
    rw [byte]
    split
    · rfl
    · exact q.zero y hy
  | cut c c1 c2 ex M' r rs byte most base fin fx sr =>
    rw [q.fin] at c1 c2 rs byte
    rw [q.base] at c
    rw [q.rs, heapL_cut (by unfold upN; omega) c1 hle] at rs
    refine ⟨n, M', ex, ⟨r, by rw [most, q.most], by rw [base, q.base], fin, c.1, hn, rs, by omega, fun y hy => ?_⟩, fx, fun _ => rfl, fun z => absurd ⟨c.1, by omega⟩ z⟩
    rw [byte]
    split
    · rfl
    · exact q.zero y hy
  | same c c1 ex r fx =>
    rw [q.fin] at c1
    rw [q.base] at c
    exact ⟨n, _, ex, ⟨r, q.most, q.base, rfl, c.1, hn, by show M.rs = _; rw [c1]; exact q.rs, by omega, q.zero⟩, fx, fun _ => rfl, fun z => absurd ⟨c.1, by omega⟩ z⟩
/-- a byte put into the heap, or the last one made 0. -/
theorem heap_ok {h : Heap} {s e w : Nat} {M : MemD} (q : HeapI h s M e w) {y : Nat} (h1 : 8192 ≤ y) (h2 : y < upN e) : ∃ r, atL M.rs y = some r ∧ r.p = 3 := by
  have hu : 8192 ≤ upN e := by omega
  have hw := q.r.wf
  rw [q.rs] at hw ⊢
  exact (heapL_at hw hu q.le).1 (.inl ⟨h1, h2⟩)
theorem memheap_c {h : Heap} {v : Value} {xs : List Nat} (hv : Vs h v encI 1 xs) (hx : ∀ x ∈ xs, x < 4294967296) (wall : Nat) (hwall : wall < 256) :
    Fn Try.prog 7 [v, .int .u8 wall] h fun r h' => r = .bool true ∧ ∀ b, b < h.size → h'[b]? = h[b]? := by
  obtain ⟨a0, cap0, e1, hcap⟩ := hv.shape
  subst e1
  refine Fn_c Try.func7 mixed c7 (by kernel_rfl) ?_; rw [r7]
  simp -implicitDefEqProofs (disch := first | omega | (simp only [h_szP, h_szS]; done) | (simp only [h_szP, h_szS]; omega)) only [go_sem, Nat.reduceBEq, reduceCtorEq, Nat.reduceAdd, Int.reduceEq, Int.reduceLT, Int.reduceLE, Int.reduceMul, Int.reduceAdd, Int.reduceSub, reduceIte, Nat.reduceLeDiff, Nat.reduceLT, Nat.reduceMul, Nat.reduceSub, Int.reduceToNat, s7, Try.underlying31, Try.underlying22, Try.underlying5, Try.underlying47, sl47, ze49, by49, sz49, Try.underlying3, sh49, Try.underlying49, sl50, ze5, by5, sz5, sh5, Try.underlying41, fd41_0]
  refine FnK.use (mnew_c h 40 (by omega)) ?_
  intro x h1 hx1
  obtain ⟨s, M, e1, R, K1, hF, m1, m2, m3, m4, m5, m6⟩ := hx1
  rw [e1]
  simp -implicitDefEqProofs (disch := first | omega | (simp only [h_szP, h_szS]; done) | (simp only [h_szP, h_szS]; omega)) only [go_sem, Nat.reduceBEq, reduceCtorEq, Nat.reduceAdd, Int.reduceEq, Int.reduceLT, Int.reduceLE, Int.reduceMul, Int.reduceAdd, Int.reduceSub, reduceIte, Nat.reduceLeDiff, Nat.reduceLT, Nat.reduceMul, Nat.reduceSub, Int.reduceToNat, s7, Try.underlying31, Try.underlying22, Try.underlying5, Try.underlying47, sl47, ze49, by49, sz49, Try.underlying3, sh49, Try.underlying49, sl50, ze5, by5, sz5, sh5, Try.underlying41, fd41_0]
  refine FnK.use (answers8_c h1) ?_
  intro x h2 ⟨e2, K2⟩
  rw [e2]
  have R2 := R.ext K2
  have K3 := K1.of_ext K2 (Nat.le_refl _)
  simp -implicitDefEqProofs (disch := first | omega | (simp only [h_szP, h_szS]; done) | (simp only [h_szP, h_szS]; omega)) only [go_sem, Nat.reduceBEq, reduceCtorEq, Nat.reduceAdd, Int.reduceEq, Int.reduceLT, Int.reduceLE, Int.reduceMul, Int.reduceAdd, Int.reduceSub, reduceIte, Nat.reduceLeDiff, Nat.reduceLT, Nat.reduceMul, Nat.reduceSub, Int.reduceToNat, s7, Try.underlying31, Try.underlying22, Try.underlying5, Try.underlying47, sl47, ze49, by49, sz49, Try.underlying3, sh49, Try.underlying49, sl50, ze5, by5, sz5, sh5, Try.underlying41, fd41_0]
  refine FnK.use (msetbrk_c 8000 R2 (by omega)) ?_
  intro x h3 ⟨R3, sz3, old3⟩
  have hu0 : upN 8000 = 8192 := by decide
  rw [hu0] at R3
  simp -implicitDefEqProofs (disch := first | omega | (simp only [h_szP, h_szS]; done) | (simp only [h_szP, h_szS]; omega)) only [go_sem, Nat.reduceBEq, reduceCtorEq, Nat.reduceAdd, Int.reduceEq, Int.reduceLT, Int.reduceLE, Int.reduceMul, Int.reduceAdd, Int.reduceSub, reduceIte, Nat.reduceLeDiff, Nat.reduceLT, Nat.reduceMul, Nat.reduceSub, Int.reduceToNat, s7, Try.underlying31, Try.underlying22, Try.underlying5, Try.underlying47, sl47, ze49, by49, sz49, Try.underlying3, sh49, Try.underlying49, sl50, ze5, by5, sz5, sh5, Try.underlying41, fd41_0]
  refine FnK.use (mbrk_c 0 R3 (by omega)) ?_
  intro x h4 hx4
  have e4 : x = .int .u64 (8192 : Nat) ∧ Keeps h3.size h3 h4 := by
    cases hx4 with
    | out c ex k => exact ⟨ex, k⟩
    | full c => exact absurd c.1 (by show ¬ 8192 ≤ 0; decide)
    | stuck c => exact absurd c.1 (by show ¬ 8192 ≤ 0; decide)
    | grow c => exact absurd c.1 (by show ¬ 8192 ≤ 0; decide)
    | cut c => exact absurd c.1 (by show ¬ 8192 ≤ 0; decide)
    | same c => exact absurd c.1 (by show ¬ 8192 ≤ 0; decide)
  obtain ⟨e4, K4⟩ := e4
  rw [e4]
  have R4 := R3.ext K4
  have K5 : Keeps h.size h h4 := by
    have hs := hF s (.inl rfl)
    have : Keeps h.size h h3 := ⟨by have := K3.size; omega, fun b hb => by rw [old3 b (by omega), K3.old b hb]⟩
    exact this.of_ext K4 (Nat.le_refl _)
  obtain ⟨w, hw⟩ : ∃ w : Nat, w = (12 + wall % 20) * 4096 := ⟨_, rfl⟩
  have hA : ((12 : Int) + (wall : Int) % 20) * 4096 = w := by omega
  simp -implicitDefEqProofs (disch := first | omega | (simp only [h_szP, h_szS]; done) | (simp only [h_szP, h_szS]; omega)) only [go_sem, Nat.reduceBEq, reduceCtorEq, Nat.reduceAdd, Int.reduceEq, Int.reduceLT, Int.reduceLE, Int.reduceMul, Int.reduceAdd, Int.reduceSub, reduceIte, Nat.reduceLeDiff, Nat.reduceLT, Nat.reduceMul, Nat.reduceSub, Int.reduceToNat, s7, Try.underlying31, Try.underlying22, Try.underlying5, Try.underlying47, sl47, ze49, by49, sz49, Try.underlying3, sh49, Try.underlying49, sl50, ze5, by5, sz5, sh5, Try.underlying41, fd41_0, hA]
  refine FnK.use (mmap_c w 4096 3 true R4 (by omega) (by omega)) ?_
  intro x h5 hx5
  obtain ⟨c0, n0, p0⟩ : joL (wiL M.rs ⟨w, w + upN 4096, (3 : Int).toNat⟩) = heapL 8192 w ∧ spanO w 4096 = some (w + upN 4096) ∧ upN 4096 = 4096 := by
    refine ⟨by rw [m1]; exact heapL_first w, ?_, by decide⟩
    have : upN 4096 = 4096 := by decide
    unfold spanO
    rw [this, if_pos (by omega)]
  cases hx5 with
  | bad c => exact absurd (by omega) c
  | noroom c f => cases f
  | nospan c b hb wh => simp only [if_true] at hb; subst hb; rw [n0] at wh; cases wh
  | lay c b hb wh y t ex =>
  simp only [if_true] at hb
  subst hb
  have hpg : pagesL (heapL 8192 b) ≤ 40 := heapL_pages (by omega) (by omega) (by omega)
  have hln := heapL_len 8192 b
  cases t with
  | no c =>
    exfalso
    change 256 < (joL (wiL M.rs ⟨b, b + upN 4096, (3 : Int).toNat⟩)).length ∨ M.most < pagesL (joL (wiL M.rs ⟨b, b + upN 4096, (3 : Int).toNat⟩)) at c
    rw [c0, m3] at c; omega
  | yes c1 c2 ey M1 r rs byte most base fin fx sr =>
  change M1.rs = joL (wiL M.rs ⟨b, b + upN 4096, (3 : Int).toNat⟩) at rs
  rw [c0] at rs
  obtain ⟨K6, hF6⟩ := fx.own (h0 := h) (fun b f => hF b f) K5
  have hm0 : ∀ y, memAt M y = 0 := fun y => by unfold memAt; rw [m2]; rfl
  have Q0 : HeapI h5 s M1 8192 b := ⟨r, by rw [most]; exact m3, base, fin, by omega, by omega, rs, by show 8192 ≤ b; omega, fun y hy => by rw [byte]; split <;> first | rfl | exact hm0 y⟩
  have ex' : x = numE b 0 := by
    rcases ex with ⟨e2, _⟩ | ⟨_, e2⟩
    · rw [ey] at e2; cases e2
    · exact e2
  rw [ex']
  unfold numE
  simp -implicitDefEqProofs (disch := first | omega | (simp only [h_szP, h_szS]; done) | (simp only [h_szP, h_szS]; omega)) only [go_sem, Nat.reduceBEq, reduceCtorEq, Nat.reduceAdd, Int.reduceEq, Int.reduceLT, Int.reduceLE, Int.reduceMul, Int.reduceAdd, Int.reduceSub, reduceIte, Nat.reduceLeDiff, Nat.reduceLT, Nat.reduceMul, Nat.reduceSub, Int.reduceToNat, s7, Try.underlying31, Try.underlying22, Try.underlying5, Try.underlying47, sl47, ze49, by49, sz49, Try.underlying3, sh49, Try.underlying49, sl50, ze5, by5, sz5, sh5, Try.underlying41, fd41_0]
  obtain ⟨I, hI⟩ : ∃ I : Nat → Fr → Heap → Prop, I = fun k fr hh => ∃ (i e : Nat) (M : MemD), i + k = xs.length ∧ i ≤ 40 ∧ HeapI hh s M e b ∧ Keeps h.size h hh ∧ (∀ b, mfoot s M b → h.size ≤ b) ∧
      fr = ((((((fr0.up 9 (.int .i64 i)).up 8 (.int .u64 e)).up 7 (.int .u64 b)).up 6 (.int .u64 8192)).up 5 (ptr s 0)).up 0 (.slice a0 xs.length cap0)) := ⟨_, rfl⟩
  refine LoopK.use I xs.length (by rw [hI]; exact ⟨0, 8192, M1, by omega, by omega, Q0, K6, hF6, rfl⟩) ?_
  clear hm0 Q0 K6 hF6 r rs byte most base fin fx sr ex ex' ey c1 c2 c n0 p0 wh
  intro k fr hh hK
  rw [hI] at hK
  obtain ⟨i, e, M2, hk, hi40, Q, K6, hF6, hf⟩ := hK
  subst hf
  by_cases hi : i < xs.length ∧ i < 40
  · obtain ⟨hi, hi3⟩ := hi
    have hd1 : decide ((i : Int) < xs.length) = true := decide_eq_true (by omega)
    have hd2 : decide ((i : Int) < 40) = true := decide_eq_true (by omega)
    obtain ⟨vb, vo, cap', e1, hcap', hvb⟩ := hv.open hi
    cases e1
    obtain ⟨n', hn'⟩ : ∃ n, n = xs[i] := ⟨_, rfl⟩
    have hn1 : n' < 4294967296 := by rw [hn']; exact hx _ (List.getElem_mem hi)
    have hE : cellO (vo + i) h[vb]? = some (.int .u32 n') := by rw [hn']; have := hv.field encI_len hi (j := 0) (by omega); simpa [encI] using this
    have hE' := K6.old vb hvb
    obtain ⟨n, hn⟩ : ∃ n, n = n' % 200000 := ⟨_, rfl⟩
    have hn2 : (n' : Int) % 200000 = n := by omega
    simp -implicitDefEqProofs (disch := first | omega | (simp only [h_szP, h_szS]; done) | (simp only [h_szP, h_szS]; omega)) only [go_sem, Nat.reduceBEq, reduceCtorEq, Nat.reduceAdd, Int.reduceEq, Int.reduceLT, Int.reduceLE, Int.reduceMul, Int.reduceAdd, Int.reduceSub, reduceIte, Nat.reduceLeDiff, Nat.reduceLT, Nat.reduceMul, Nat.reduceSub, Int.reduceToNat, s7, Try.underlying31, Try.underlying22, Try.underlying5, Try.underlying47, sl47, ze49, by49, sz49, Try.underlying3, sh49, Try.underlying49, sl50, ze5, by5, sz5, sh5, Try.underlying41, fd41_0, hd1, hd2, hE', hE, Nat.mul_one, hn2]
    refine FnK.use (heap_brk n Q (by omega) (by omega) (by omega)) ?_
    intro x h6 ⟨g, M3, ex, Q3, fx3, g1, g2⟩
    rw [ex]
    obtain ⟨K7, hF7⟩ := fx3.own (h0 := h) hF6 K6
    have three : (8192 ≤ n ∧ upN n ≤ b) ∨ (8192 ≤ n ∧ b < upN n) ∨ n < 8192 := by omega
    rcases three with z | z | z
    have eg := g1 z
    have hd3 : decide ((8192 : Int) ≤ n) = true := decide_eq_true (by omega)
    simp -implicitDefEqProofs (disch := first | omega | (simp only [h_szP, h_szS]; done) | (simp only [h_szP, h_szS]; omega)) only [go_sem, Nat.reduceBEq, reduceCtorEq, Nat.reduceAdd, Int.reduceEq, Int.reduceLT, Int.reduceLE, Int.reduceMul, Int.reduceAdd, Int.reduceSub, reduceIte, Nat.reduceLeDiff, Nat.reduceLT, Nat.reduceMul, Nat.reduceSub, Int.reduceToNat, s7, Try.underlying31, Try.underlying22, Try.underlying5, Try.underlying47, sl47, ze49, by49, sz49, Try.underlying3, sh49, Try.underlying49, sl50, ze5, by5, sz5, sh5, Try.underlying41, fd41_0, hd3]
    refine FnK.val (up6_c h6 n (by omega)) ?_
    have hd4 : decide (((upN n : Nat) : Int) ≤ b) = true := decide_eq_true (by omega)
    clear g1 g2
    subst eg
    by_cases q : e < g
    have hd5 : decide ((e : Int) < g) = true := decide_eq_true (by omega)
    have hw9 : IntKind.u64.wrap ((g : Int) - 1) = ((g - 1 : Nat) : Int) := by rw [wrap_u64]; omega
    simp -implicitDefEqProofs (disch := first | omega | (simp only [h_szP, h_szS]; done) | (simp only [h_szP, h_szS]; omega)) only [go_sem, Nat.reduceBEq, reduceCtorEq, Nat.reduceAdd, Int.reduceEq, Int.reduceLT, Int.reduceLE, Int.reduceMul, Int.reduceAdd, Int.reduceSub, reduceIte, Nat.reduceLeDiff, Nat.reduceLT, Nat.reduceMul, Nat.reduceSub, Int.reduceToNat, s7, Try.underlying31, Try.underlying22, Try.underlying5, Try.underlying47, sl47, ze49, by49, sz49, Try.underlying3, sh49, Try.underlying49, sl50, ze5, by5, sz5, sh5, Try.underlying41, fd41_0, hd4, hd5, hw9]
    refine FnK.use (mpeek_c (g - 1) 1 Q3.r (by omega) (by omega) (by omega)) ?_
    intro x h7 ⟨S7, K8⟩
    have hp1 : peekL M3 (g - 1) 1 = [0] := by
      have hu : g ≤ upN g := by unfold upN; omega
      have := Q3.zero (g - 1) (by omega)
      simp [peekL, List.range_succ, this]
    rw [hp1] at S7
    obtain ⟨pb, pc, e7, _, _, _⟩ := S7.open (i := 0) (by decide)
    rw [e7] at S7 ⊢
    have hc7 : cellO 0 h7[pb]? = some (.int .u8 0) := S7.vs.field encB_len (i := 0) (j := 0) (by decide) (by decide)
    simp -implicitDefEqProofs (disch := first | omega | (simp only [h_szP, h_szS]; done) | (simp only [h_szP, h_szS]; omega)) only [go_sem, Nat.reduceBEq, reduceCtorEq, Nat.reduceAdd, Int.reduceEq, Int.reduceLT, Int.reduceLE, Int.reduceMul, Int.reduceAdd, Int.reduceSub, reduceIte, Nat.reduceLeDiff, Nat.reduceLT, Nat.reduceMul, Nat.reduceSub, Int.reduceToNat, s7, Try.underlying31, Try.underlying22, Try.underlying5, Try.underlying47, sl47, ze49, by49, sz49, Try.underlying3, sh49, Try.underlying49, sl50, ze5, by5, sz5, sh5, Try.underlying41, fd41_0, hc7]
    have Q4 := Q3.ext K8
    have K9 := K7.of_ext K8 (Nat.le_refl _)
    rotate_left
    have hd5 : decide ((e : Int) < g) = false := decide_eq_false (by omega)
    simp -implicitDefEqProofs (disch := first | omega | (simp only [h_szP, h_szS]; done) | (simp only [h_szP, h_szS]; omega)) only [go_sem, Nat.reduceBEq, reduceCtorEq, Nat.reduceAdd, Int.reduceEq, Int.reduceLT, Int.reduceLE, Int.reduceMul, Int.reduceAdd, Int.reduceSub, reduceIte, Nat.reduceLeDiff, Nat.reduceLT, Nat.reduceMul, Nat.reduceSub, Int.reduceToNat, s7, Try.underlying31, Try.underlying22, Try.underlying5, Try.underlying47, sl47, ze49, by49, sz49, Try.underlying3, sh49, Try.underlying49, sl50, ze5, by5, sz5, sh5, Try.underlying41, fd41_0, hd4, hd5]
    have Q4 := Q3
    have K9 := K7
    rotate_left
    have eg := g2 (by omega)
    have hd3 : decide ((8192 : Int) ≤ n) = true := decide_eq_true (by omega)
    simp -implicitDefEqProofs (disch := first | omega | (simp only [h_szP, h_szS]; done) | (simp only [h_szP, h_szS]; omega)) only [go_sem, Nat.reduceBEq, reduceCtorEq, Nat.reduceAdd, Int.reduceEq, Int.reduceLT, Int.reduceLE, Int.reduceMul, Int.reduceAdd, Int.reduceSub, reduceIte, Nat.reduceLeDiff, Nat.reduceLT, Nat.reduceMul, Nat.reduceSub, Int.reduceToNat, s7, Try.underlying31, Try.underlying22, Try.underlying5, Try.underlying47, sl47, ze49, by49, sz49, Try.underlying3, sh49, Try.underlying49, sl50, ze5, by5, sz5, sh5, Try.underlying41, fd41_0, hd3]
    refine FnK.val (up6_c h6 n (by omega)) ?_
    have hd4 : decide (((upN n : Nat) : Int) ≤ b) = false := decide_eq_false (by omega)
    clear g1 g2
    subst eg
    simp -implicitDefEqProofs (disch := first | omega | (simp only [h_szP, h_szS]; done) | (simp only [h_szP, h_szS]; omega)) only [go_sem, Nat.reduceBEq, reduceCtorEq, Nat.reduceAdd, Int.reduceEq, Int.reduceLT, Int.reduceLE, Int.reduceMul, Int.reduceAdd, Int.reduceSub, reduceIte, Nat.reduceLeDiff, Nat.reduceLT, Nat.reduceMul, Nat.reduceSub, Int.reduceToNat, s7, Try.underlying31, Try.underlying22, Try.underlying5, Try.underlying47, sl47, ze49, by49, sz49, Try.underlying3, sh49, Try.underlying49, sl50, ze5, by5, sz5, sh5, Try.underlying41, fd41_0, hd4]
    have Q4 := Q3
    have K9 := K7
    rotate_left
    have eg := g2 (by omega)
    have hd3 : decide ((8192 : Int) ≤ n) = false := decide_eq_false (by omega)
    clear g1 g2
    subst eg
    simp -implicitDefEqProofs (disch := first | omega | (simp only [h_szP, h_szS]; done) | (simp only [h_szP, h_szS]; omega)) only [go_sem, Nat.reduceBEq, reduceCtorEq, Nat.reduceAdd, Int.reduceEq, Int.reduceLT, Int.reduceLE, Int.reduceMul, Int.reduceAdd, Int.reduceSub, reduceIte, Nat.reduceLeDiff, Nat.reduceLT, Nat.reduceMul, Nat.reduceSub, Int.reduceToNat, s7, Try.underlying31, Try.underlying22, Try.underlying5, Try.underlying47, sl47, ze49, by49, sz49, Try.underlying3, sh49, Try.underlying49, sl50, ze5, by5, sz5, sh5, Try.underlying41, fd41_0, hd3]
    have Q4 := Q3
    have K9 := K7
    rotate_left
    all_goals
      have hglo := Q4.lo
      have hghi := Q4.hi
      have hgle := Q4.le
      have hug : g ≤ upN g ∧ upN g % 4096 = 0 := by unfold upN; omega
      have hw10 : (g : Int) - 1 = ((g - 1 : Nat) : Int) := by omega
      have hw11 : IntKind.u64.wrap ((g - 1 : Nat) : Int) = ((g - 1 : Nat) : Int) := by rw [wrap_u64]; omega
      have mk1 : ∀ (hh : Heap) (x : Nat), Vs (hh.push (.cells #[.int .u8 x] 5)) (.slice (some ⟨hh.size, 0, none⟩) 1 1) encB 1 [x] := fun hh x =>
        (Ss.mk (lo := 0) encB_len (xs := [x]) [] (h_pushE _ _ _ rfl) rfl rfl (Nat.le_refl _) (Nat.le_refl _) (Nat.zero_le _)).vs
      refine ⟨fun q8 => ?_, fun q8 => ?_⟩
      rotate_left
      have Q5 := Q4
      have K10 := K9
      have hF8 := hF7
      rotate_left
      have hg8 : 8192 < g := by omega
      have ok : ∀ p, 3 &&& p = p → okAt M3.rs p (g - 1) := fun p hp => by
        obtain ⟨r, e1, e2⟩ := heap_ok Q4 (y := g - 1) (by omega) (by omega)
        exact ⟨r, e1, by rw [e2]; exact hp⟩
      have adr0 : ∀ i, i < 1 → adr (g - 1) i = g - 1 := fun i hi => by unfold adr; omega
      have apart : ∀ {hh : Heap} {M : MemD} {o : Obj} (R : MR hh s M) (x : Nat), blk (.slice (some ⟨hh.size, 0, none⟩) 1 1) = some x → ¬ mfoot s M x := fun R x q f => by
        have := R.lt f
        simp only [blk, Option.some.injEq] at q; omega
      simp only [hw10, hw11]
      refine FnK.use (mput_c (g - 1) (Q4.r.ext (Keeps.push _ _ (Nat.le_refl _))) (by omega) (by decide) (mk1 _ 7) (apart (o := .cells #[] 0) Q4.r) (by simp)) ?_
      intro x h8 ⟨M4, P4⟩
      have A4 := (P4.g.widen (h0 := _) (Keeps.push _ _ (Nat.le_refl _))).fx.own (h0 := h) hF7 K9
      simp -implicitDefEqProofs (disch := first | omega | (simp only [h_szP, h_szS]; done) | (simp only [h_szP, h_szS]; omega)) only [go_sem, Nat.reduceBEq, reduceCtorEq, Nat.reduceAdd, Int.reduceEq, Int.reduceLT, Int.reduceLE, Int.reduceMul, Int.reduceAdd, Int.reduceSub, reduceIte, Nat.reduceLeDiff, Nat.reduceLT, Nat.reduceMul, Nat.reduceSub, Int.reduceToNat, s7, Try.underlying31, Try.underlying22, Try.underlying5, Try.underlying47, sl47, ze49, by49, sz49, Try.underlying3, sh49, Try.underlying49, sl50, ze5, by5, sz5, sh5, Try.underlying41, fd41_0, hw10, hw11]
      refine FnK.use (mstore_ok (g - 1) 1 7 P4.g.r (by omega) (by omega) (by decide) (fun i hi => by rw [adr0 i hi, P4.rs]; exact ok 2 rfl)) ?_
      intro x h9 ⟨e9, M5, G5, rs5, by5⟩
      rw [e9]; unfold fltA
      have A5 := G5.fx.own (h0 := h) A4.2 A4.1
      simp -implicitDefEqProofs (disch := first | omega | (simp only [h_szP, h_szS]; done) | (simp only [h_szP, h_szS]; omega)) only [go_sem, Nat.reduceBEq, reduceCtorEq, Nat.reduceAdd, Int.reduceEq, Int.reduceLT, Int.reduceLE, Int.reduceMul, Int.reduceAdd, Int.reduceSub, reduceIte, Nat.reduceLeDiff, Nat.reduceLT, Nat.reduceMul, Nat.reduceSub, Int.reduceToNat, s7, Try.underlying31, Try.underlying22, Try.underlying5, Try.underlying47, sl47, ze49, by49, sz49, Try.underlying3, sh49, Try.underlying49, sl50, ze5, by5, sz5, sh5, Try.underlying41, fd41_0, hw10, hw11]
      refine FnK.use (mput_c (g - 1) (G5.r.ext (Keeps.push _ _ (Nat.le_refl _))) (by omega) (by decide) (mk1 _ 0) (apart (o := .cells #[] 0) G5.r) (by simp)) ?_
      intro x h10 ⟨M6, P6⟩
      have A6 := (P6.g.widen (h0 := _) (Keeps.push _ _ (Nat.le_refl _))).fx.own (h0 := h) A5.2 A5.1
      have at5 : (atL M5.rs (g - 1)).isSome = true := by
        obtain ⟨r, e1, _⟩ := ok 2 rfl
        rw [rs5, P4.rs, e1]; rfl
      have Q5 : HeapI h10 s M6 g b := by
        refine ⟨P6.g.r, by rw [P6.g.most, G5.most, P4.g.most]; exact Q4.most, by rw [P6.g.base, G5.base, P4.g.base]; exact Q4.base, by rw [P6.g.fin, G5.fin, P4.g.fin]; exact Q4.fin, hglo, hghi, by rw [P6.rs, rs5, P4.rs]; exact Q4.rs, hgle, fun y hy => ?_⟩
        have l1 : ∀ x : Nat, [x].length = 1 := fun _ => rfl
        by_cases z : y = g - 1
        · rw [P6.byte, l1, if_pos ⟨by omega, by omega, by omega, by rw [z]; exact at5⟩, z]; simp
        · rw [P6.byte, l1, if_neg (fun q => by omega), by5, if_neg (by omega), P4.byte, l1, if_neg (fun q => by omega)]
          exact Q4.zero y hy
      have K10 := A6.1
      have hF8 := A6.2
      simp -implicitDefEqProofs (disch := first | omega | (simp only [h_szP, h_szS]; done) | (simp only [h_szP, h_szS]; omega)) only [go_sem, Nat.reduceBEq, reduceCtorEq, Nat.reduceAdd, Int.reduceEq, Int.reduceLT, Int.reduceLE, Int.reduceMul, Int.reduceAdd, Int.reduceSub, reduceIte, Nat.reduceLeDiff, Nat.reduceLT, Nat.reduceMul, Nat.reduceSub, Int.reduceToNat, s7, Try.underlying31, Try.underlying22, Try.underlying5, Try.underlying47, sl47, ze49, by49, sz49, Try.underlying3, sh49, Try.underlying49, sl50, ze5, by5, sz5, sh5, Try.underlying41, fd41_0]
    all_goals
      refine FnK.val (up6_c _ g (by omega)) ?_
      simp -implicitDefEqProofs (disch := first | omega | (simp only [h_szP, h_szS]; done) | (simp only [h_szP, h_szS]; omega)) only [go_sem, Nat.reduceBEq, reduceCtorEq, Nat.reduceAdd, Int.reduceEq, Int.reduceLT, Int.reduceLE, Int.reduceMul, Int.reduceAdd, Int.reduceSub, reduceIte, Nat.reduceLeDiff, Nat.reduceLT, Nat.reduceMul, Nat.reduceSub, Int.reduceToNat, s7, Try.underlying31, Try.underlying22, Try.underlying5, Try.underlying47, sl47, ze49, by49, sz49, Try.underlying3, sh49, Try.underlying49, sl50, ze5, by5, sz5, sh5, Try.underlying41, fd41_0]
      refine FnK.use (mstore_c (upN g) 1 1 Q5.r (by omega) (by omega)) ?_
      intro x h11 hx11
      cases hx11 with
      | no p k11 ne =>
        obtain ⟨z, ex11⟩ := ne
        rw [ex11]; unfold fltA
        simp -implicitDefEqProofs (disch := first | omega | (simp only [h_szP, h_szS]; done) | (simp only [h_szP, h_szS]; omega)) only [go_sem, Nat.reduceBEq, reduceCtorEq, Nat.reduceAdd, Int.reduceEq, Int.reduceLT, Int.reduceLE, Int.reduceMul, Int.reduceAdd, Int.reduceSub, reduceIte, Nat.reduceLeDiff, Nat.reduceLT, Nat.reduceMul, Nat.reduceSub, Int.reduceToNat, s7, Try.underlying31, Try.underlying22, Try.underlying5, Try.underlying47, sl47, ze49, by49, sz49, Try.underlying3, sh49, Try.underlying49, sl50, ze5, by5, sz5, sh5, Try.underlying41, fd41_0]
        refine ⟨k - 1, by omega, ?_⟩
        rw [hI]
        exact ⟨i + 1, g, _, by omega, by omega, Q5.ext k11, K10.of_ext k11 (Nat.le_refl _), hF8, rfl⟩
      | ok c11 f11 ex11 M7 G7 rs7 by7 =>
        have hub : upN g = b := by
          cases f11 with
          | none hok =>
            obtain ⟨r, h1, h2⟩ := hok 0 (by decide)
            have e0 : adr (upN g) 0 = upN g := by unfold adr; omega
            rw [e0] at h1
            have hwf := Q5.r.wf
            rw [Q5.rs] at h1 hwf
            apply Classical.byContradiction
            intro hne
            rw [(heapL_at hwf (by omega) hgle).2 (by omega)] at h1
            cases h1
        have hd6 : (((upN g : Nat) : Int) = b) = True := eq_true (by omega)
        rw [ex11]; unfold fltA
        simp -implicitDefEqProofs (disch := first | omega | (simp only [h_szP, h_szS]; done) | (simp only [h_szP, h_szS]; omega)) only [go_sem, Nat.reduceBEq, reduceCtorEq, Nat.reduceAdd, Int.reduceEq, Int.reduceLT, Int.reduceLE, Int.reduceMul, Int.reduceAdd, Int.reduceSub, reduceIte, Nat.reduceLeDiff, Nat.reduceLT, Nat.reduceMul, Nat.reduceSub, Int.reduceToNat, s7, Try.underlying31, Try.underlying22, Try.underlying5, Try.underlying47, sl47, ze49, by49, sz49, Try.underlying3, sh49, Try.underlying49, sl50, ze5, by5, sz5, sh5, Try.underlying41, fd41_0]
        refine FnK.val (up6_c _ g (by omega)) ?_
        simp -implicitDefEqProofs (disch := first | omega | (simp only [h_szP, h_szS]; done) | (simp only [h_szP, h_szS]; omega)) only [go_sem, Nat.reduceBEq, reduceCtorEq, Nat.reduceAdd, Int.reduceEq, Int.reduceLT, Int.reduceLE, Int.reduceMul, Int.reduceAdd, Int.reduceSub, reduceIte, Nat.reduceLeDiff, Nat.reduceLT, Nat.reduceMul, Nat.reduceSub, Int.reduceToNat, s7, Try.underlying31, Try.underlying22, Try.underlying5, Try.underlying47, sl47, ze49, by49, sz49, Try.underlying3, sh49, Try.underlying49, sl50, ze5, by5, sz5, sh5, Try.underlying41, fd41_0, hd6]
        have A7 := G7.fx.own (h0 := h) hF8 K10
        refine ⟨k - 1, by omega, ?_⟩
        rw [hI]
        exact ⟨i + 1, g, M7, by omega, by omega, ⟨G7.r, G7.most.trans Q5.most, G7.base.trans Q5.base, G7.fin.trans Q5.fin, hglo, hghi, rs7.trans Q5.rs, hgle, fun y hy => by rw [by7, if_neg (by omega)]; exact Q5.zero y hy⟩, A7.1, A7.2, rfl⟩
  · by_cases hi2 : i < xs.length
    · have hd1 : decide ((i : Int) < xs.length) = true := decide_eq_true (by omega)
      have hd2 : decide ((i : Int) < 40) = false := decide_eq_false (by omega)
      simp -implicitDefEqProofs (disch := first | omega | (simp only [h_szP, h_szS]; done) | (simp only [h_szP, h_szS]; omega)) only [go_sem, Nat.reduceBEq, reduceCtorEq, Nat.reduceAdd, Int.reduceEq, Int.reduceLT, Int.reduceLE, Int.reduceMul, Int.reduceAdd, Int.reduceSub, reduceIte, Nat.reduceLeDiff, Nat.reduceLT, Nat.reduceMul, Nat.reduceSub, Int.reduceToNat, s7, Try.underlying31, Try.underlying22, Try.underlying5, Try.underlying47, sl47, ze49, by49, sz49, Try.underlying3, sh49, Try.underlying49, sl50, ze5, by5, sz5, sh5, Try.underlying41, fd41_0, hd1, hd2]
      exact fun b hb => K6.old b hb
    · have hd1 : decide ((i : Int) < xs.length) = false := decide_eq_false (by omega)
      simp -implicitDefEqProofs (disch := first | omega | (simp only [h_szP, h_szS]; done) | (simp only [h_szP, h_szS]; omega)) only [go_sem, Nat.reduceBEq, reduceCtorEq, Nat.reduceAdd, Int.reduceEq, Int.reduceLT, Int.reduceLE, Int.reduceMul, Int.reduceAdd, Int.reduceSub, reduceIte, Nat.reduceLeDiff, Nat.reduceLT, Nat.reduceMul, Nat.reduceSub, Int.reduceToNat, s7, Try.underlying31, Try.underlying22, Try.underlying5, Try.underlying47, sl47, ze49, by49, sz49, Try.underlying3, sh49, Try.underlying49, sl50, ze5, by5, sz5, sh5, Try.underlying41, fd41_0, hd1]
      exact fun b hb => K6.old b hb
end Go.SX.G
