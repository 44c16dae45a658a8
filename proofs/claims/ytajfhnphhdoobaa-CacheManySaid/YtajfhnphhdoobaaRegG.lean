/- Regions: Map, Unmap, Protect, Free, Room, All, Pages, Copy. No condition but on sizes. -/
import Derived.Test.YtajfhnphhdoobaaRegF
set_option linter.unusedVariables false
set_option linter.unusedSimpArgs false
namespace Go.SX.G
open Go Go.SX Go.Proofs
set_option maxRecDepth 100000
set_option maxHeartbeats 1000000
theorem Took.widen {h0 h h' : Heap} {l : Nat} {x : Value} {rs : List Reg} (k : Keeps h0.size h0 h) (hl : l < h0.size) (t : Took h h' l x rs) : Took h0 h' l x rs := by
  cases t with
  | no n e q => exact .no n e (k.of_ext q (Nat.le_refl _))
  | yes n e bl r fresh size old =>
    have := k.size
    exact .yes n e bl r (fun b hb => by have := fresh b hb; omega) (by omega) fun b hb hne => (old b (by omega) hne).trans (k.old b hb)
theorem rmap_c {h : Heap} {l : Nat} {bl : Option Nat} {rs : List Reg} (s e p : Nat) (hl : LR h l bl rs) (hn : rs.length ≤ 1000000) (hs : spanB s e = true) (hp : p ≤ 7) :
    Fn Try.prog 50 [ptr l 0, .int .u64 s, .int .u64 e, .int .i64 p] h fun x h' => Took h h' l x (joL (wiL rs ⟨s, e, p⟩)) := by
  have hll := hl.lt
  obtain ⟨v, hl0, hbl, hv⟩ := id hl
  have hwl : (wiL rs ⟨s, e, p⟩).length ≤ 2 * rs.length + 1 := by
    have := woL_len s e rs
    simp only [wiL, List.length_append, List.length_take, List.length_drop, List.length_cons, List.length_nil]; omega
  have hpr : decide ((0 : Int) ≤ p ∧ (p : Int) ≤ 7) = true := decide_eq_true (by omega)
  refine Fn_c Try.func50 mixed c50 (by kernel_rfl) ?_; rw [r50]
  simp -implicitDefEqProofs (disch := first | omega | (simp only [h_szP, h_szS]; done) | (simp only [h_szP, h_szS]; omega)) only [go_sem, Nat.reduceBEq, reduceCtorEq, Nat.reduceAdd, Int.reduceEq, Int.reduceLT, Int.reduceLE, Int.reduceMul, Int.reduceAdd, Int.reduceSub, reduceIte, Nat.reduceLeDiff, Nat.reduceLT, Nat.reduceMul, Nat.reduceSub, Int.reduceToNat, s50, Try.underlying73, fo117_0, sh115, zc83, sd83, pl83_0, pl83_1, pl83_2]
  refine FnK.val (span_c h s e) ?_
  rw [hs]
  simp -implicitDefEqProofs (disch := first | omega | (simp only [h_szP, h_szS]; done) | (simp only [h_szP, h_szS]; omega)) only [go_sem, Nat.reduceBEq, reduceCtorEq, Nat.reduceAdd, Int.reduceEq, Int.reduceLT, Int.reduceLE, Int.reduceMul, Int.reduceAdd, Int.reduceSub, reduceIte, Nat.reduceLeDiff, Nat.reduceLT, Nat.reduceMul, Nat.reduceSub, Int.reduceToNat, s50, Try.underlying73, fo117_0, sh115, zc83, sd83, pl83_0, pl83_1, pl83_2]
  refine FnK.val (prots_c h p) ?_
  rw [hpr]
  simp -implicitDefEqProofs (disch := first | omega | (simp only [h_szP, h_szS]; done) | (simp only [h_szP, h_szS]; omega)) only [go_sem, Nat.reduceBEq, reduceCtorEq, Nat.reduceAdd, Int.reduceEq, Int.reduceLT, Int.reduceLE, Int.reduceMul, Int.reduceAdd, Int.reduceSub, reduceIte, Nat.reduceLeDiff, Nat.reduceLT, Nat.reduceMul, Nat.reduceSub, Int.reduceToNat, s50, Try.underlying73, fo117_0, sh115, zc83, sd83, pl83_0, pl83_1, pl83_2, hl0]
  refine FnK.use (with_c ⟨s, e, p⟩ hv (by omega)) ?_
  intro v1 h1 ⟨S1, K1⟩
  simp -implicitDefEqProofs (disch := first | omega | (simp only [h_szP, h_szS]; done) | (simp only [h_szP, h_szS]; omega)) only [go_sem, Nat.reduceBEq, reduceCtorEq, Nat.reduceAdd, Int.reduceEq, Int.reduceLT, Int.reduceLE, Int.reduceMul, Int.reduceAdd, Int.reduceSub, reduceIte, Nat.reduceLeDiff, Nat.reduceLT, Nat.reduceMul, Nat.reduceSub, Int.reduceToNat, s50, Try.underlying73, fo117_0, sh115, zc83, sd83, pl83_0, pl83_1, pl83_2]
  refine FnK.use (take_c (hl.ext K1) S1.vs (by omega)) ?_
  intro x h2 hx
  simp -implicitDefEqProofs (disch := first | omega | (simp only [h_szP, h_szS]; done) | (simp only [h_szP, h_szS]; omega)) only [go_sem, Nat.reduceBEq, reduceCtorEq, Nat.reduceAdd, Int.reduceEq, Int.reduceLT, Int.reduceLE, Int.reduceMul, Int.reduceAdd, Int.reduceSub, reduceIte, Nat.reduceLeDiff, Nat.reduceLT, Nat.reduceMul, Nat.reduceSub, Int.reduceToNat, s50, Try.underlying73, fo117_0, sh115, zc83, sd83, pl83_0, pl83_1, pl83_2]
  exact hx.widen K1 hll
/-- what Protect comes to. -/
inductive Guarded (h h' : Heap) (l : Nat) (x : Value) (rs : List Reg) (s e : Nat) (p : Int) : Prop
  | bad (c : ¬ (0 ≤ p ∧ p ≤ 7)) (e : x = .int .i64 22) (k : Keeps h.size h h')
  | hole (c : ∃ a, s ≤ a ∧ a < e ∧ atL rs a = none) (e : x = .int .i64 12) (k : Keeps h.size h h')
  | took (c : ∀ a, s ≤ a → a < e → (atL rs a).isSome = true) (hp : 0 ≤ p ∧ p ≤ 7) (t : Took h h' l x (joL (wiL rs ⟨s, e, p.toNat⟩)))
theorem containsFunc_c {h : Heap} {v : Value} {rs : List Reg} {g : Nat} {cap : Array Value} (p : Reg → Bool) (hv : Vs h v encR 3 rs) (hl : rs.length ≤ 4000000000)
    (hg : ∀ r ∈ rs, ∀ h1, Keeps h.size h h1 → Fn Try.prog g ([.agg #[.int .u64 r.s, .int .u64 r.e, .int .i64 r.p]] ++ cap.toList) h1 fun x h' => x = .bool (p r) ∧ Keeps h1.size h1 h') :
    Fn Try.prog 68 [v, .func (.func g) #[] cap] h fun x h' => x = .bool (rs.any p) ∧ Keeps h.size h h' := by
  refine Fn_c Try.func68 mixed c68 (by kernel_rfl) ?_; rw [r68]
  simp -implicitDefEqProofs (disch := first | omega | (simp only [h_szP, h_szS]; done) | (simp only [h_szP, h_szS]; omega)) only [go_sem, Nat.reduceBEq, reduceCtorEq, Nat.reduceAdd, Int.reduceEq, Int.reduceLT, Int.reduceLE, Int.reduceMul, Int.reduceAdd, Int.reduceSub, reduceIte, Nat.reduceLeDiff, Nat.reduceLT, Nat.reduceMul, Nat.reduceSub, Int.reduceToNat, s68, Try.underlying3]
  refine FnK.use (indexFunc_c p hv hl hg) ?_
  intro x h1 hx
  obtain ⟨e1, K1⟩ := hx
  rw [e1]
  simp -implicitDefEqProofs (disch := first | omega | (simp only [h_szP, h_szS]; done) | (simp only [h_szP, h_szS]; omega)) only [go_sem, Nat.reduceBEq, reduceCtorEq, Nat.reduceAdd, Int.reduceEq, Int.reduceLT, Int.reduceLE, Int.reduceMul, Int.reduceAdd, Int.reduceSub, reduceIte, Nat.reduceLeDiff, Nat.reduceLT, Nat.reduceMul, Nat.reduceSub, Int.reduceToNat, s68, Try.underlying3]
  refine ⟨?_, K1⟩
  congr 1
  rcases idxOf_ins p rs with ⟨hneg, hi⟩ | ⟨hneg, hi, hi2⟩
  · rw [decide_eq_false (by omega)]
    symm
    rw [List.any_eq_false]
    exact fun x hx => by simpa using List.findIdx_eq_length.1 hi x hx
  · rw [decide_eq_true (by omega)]
    symm
    rw [List.any_eq_true]
    exact ⟨rs[rs.findIdx p], List.getElem_mem hi2, List.findIdx_getElem⟩
def freeB (rs : List Reg) (s e : Nat) : Bool := spanB s e && !(rs.any fun q => decide (q.s < e ∧ s < q.e))
theorem free_c {h : Heap} {l : Nat} {bl : Option Nat} {rs : List Reg} (s e : Nat) (hl : LR h l bl rs) (hn : rs.length ≤ 1000000) :
    Fn Try.prog 46 [ptr l 0, .int .u64 s, .int .u64 e] h fun x h' => x = .bool (freeB rs s e) ∧ Keeps h.size h h' := by
  obtain ⟨v, hl0, hbl, hv⟩ := id hl
  have hlt := hl.lt
  have K1 : Keeps h.size h ((h.push (.cells #[.int .u64 s] 26)).push (.cells #[.int .u64 e] 26)) := (Keeps.push' (Keeps.push _ _ (Nat.le_refl _)) (Nat.le_refl _))
  refine Fn_c Try.func46 mixed c46 (by kernel_rfl) ?_; rw [r46]
  simp -implicitDefEqProofs (disch := first | omega | (simp only [h_szP, h_szS]; done) | (simp only [h_szP, h_szS]; omega)) only [go_sem, Nat.reduceBEq, reduceCtorEq, Nat.reduceAdd, Int.reduceEq, Int.reduceLT, Int.reduceLE, Int.reduceMul, Int.reduceAdd, Int.reduceSub, reduceIte, Nat.reduceLeDiff, Nat.reduceLT, Nat.reduceMul, Nat.reduceSub, Int.reduceToNat, s46, Try.underlying73, sh26, fo117_0, sh115]
  refine FnK.val (span_c _ s e) ?_
  unfold freeB
  cases hs : spanB s e with
  | false =>
    simp -implicitDefEqProofs (disch := first | omega | (simp only [h_szP, h_szS]; done) | (simp only [h_szP, h_szS]; omega)) only [go_sem, Nat.reduceBEq, reduceCtorEq, Nat.reduceAdd, Int.reduceEq, Int.reduceLT, Int.reduceLE, Int.reduceMul, Int.reduceAdd, Int.reduceSub, reduceIte, Nat.reduceLeDiff, Nat.reduceLT, Nat.reduceMul, Nat.reduceSub, Int.reduceToNat, s46, Try.underlying73, sh26, fo117_0, sh115]
    exact ⟨by simp, K1⟩
  | true =>
    simp -implicitDefEqProofs (disch := first | omega | (simp only [h_szP, h_szS]; done) | (simp only [h_szP, h_szS]; omega)) only [go_sem, Nat.reduceBEq, reduceCtorEq, Nat.reduceAdd, Int.reduceEq, Int.reduceLT, Int.reduceLE, Int.reduceMul, Int.reduceAdd, Int.reduceSub, reduceIte, Nat.reduceLeDiff, Nat.reduceLT, Nat.reduceMul, Nat.reduceSub, Int.reduceToNat, s46, Try.underlying73, sh26, fo117_0, sh115, hl0]
    refine FnK.use (containsFunc_c (fun q => decide (q.s < e ∧ s < q.e)) (hv.ext K1) (by omega) ?_) ?_
    · intro r hr h1 K2
      refine free1_c (t1 := 26) (f1 := (0, 0)) (t2 := 26) (f2 := (0, 0)) r ?_ ?_
      · rw [K2.old _ (by simp)]; simp -implicitDefEqProofs (disch := first | omega | (simp only [h_szP, h_szS]; done) | (simp only [h_szP, h_szS]; omega)) only [go_sem, Nat.reduceBEq, reduceCtorEq, Nat.reduceAdd, Int.reduceEq, Int.reduceLT, Int.reduceLE, Int.reduceMul, Int.reduceAdd, Int.reduceSub, reduceIte, Nat.reduceLeDiff, Nat.reduceLT, Nat.reduceMul, Nat.reduceSub, Int.reduceToNat]
      · rw [K2.old _ (by simp; omega)]; simp -implicitDefEqProofs (disch := first | omega | (simp only [h_szP, h_szS]; done) | (simp only [h_szP, h_szS]; omega)) only [go_sem, Nat.reduceBEq, reduceCtorEq, Nat.reduceAdd, Int.reduceEq, Int.reduceLT, Int.reduceLE, Int.reduceMul, Int.reduceAdd, Int.reduceSub, reduceIte, Nat.reduceLeDiff, Nat.reduceLT, Nat.reduceMul, Nat.reduceSub, Int.reduceToNat]
    · intro x h2 hx
      obtain ⟨e1, K2⟩ := hx
      rw [e1]
      simp -implicitDefEqProofs (disch := first | omega | (simp only [h_szP, h_szS]; done) | (simp only [h_szP, h_szS]; omega)) only [go_sem, Nat.reduceBEq, reduceCtorEq, Nat.reduceAdd, Int.reduceEq, Int.reduceLT, Int.reduceLE, Int.reduceMul, Int.reduceAdd, Int.reduceSub, reduceIte, Nat.reduceLeDiff, Nat.reduceLT, Nat.reduceMul, Nat.reduceSub, Int.reduceToNat, s46, Try.underlying73, sh26, fo117_0, sh115]
      exact K1.trans (K2.le (by simp; omega))
theorem rcopy_c {h : Heap} {l : Nat} {bl : Option Nat} {rs : List Reg} (hl : LR h l bl rs) (hn : rs.length ≤ 1000000) :
    Fn Try.prog 49 [ptr l 0] h fun x h' => ∃ l' bl', x = ptr l' 0 ∧ LR h' l' bl' rs ∧ h.size ≤ l' ∧ (∀ b, bl' = some b → h.size ≤ b ∧ b ≠ l') ∧ Keeps h.size h h' := by
  obtain ⟨v, hl0, hbl, hv⟩ := id hl
  have hlt := hl.lt
  refine Fn_c Try.func49 mixed c49 (by kernel_rfl) ?_; rw [r49]
  simp -implicitDefEqProofs (disch := first | omega | (simp only [h_szP, h_szS]; done) | (simp only [h_szP, h_szS]; omega)) only [go_sem, Nat.reduceBEq, reduceCtorEq, Nat.reduceAdd, Int.reduceEq, Int.reduceLT, Int.reduceLE, Int.reduceMul, Int.reduceAdd, Int.reduceSub, reduceIte, Nat.reduceLeDiff, Nat.reduceLT, Nat.reduceMul, Nat.reduceSub, Int.reduceToNat, s49, Try.underlying73, fo117_0, sh115, zc117, sd117, pl117_0, hl0]
  refine FnK.use (clone_c hv (by omega)) ?_
  intro x h1 hx
  obtain ⟨V1, F1, K1⟩ := hx
  obtain ⟨a, cap, e1, hcap⟩ := V1.shape
  subst e1
  simp -implicitDefEqProofs (disch := first | omega | (simp only [h_szP, h_szS]; done) | (simp only [h_szP, h_szS]; omega)) only [go_sem, Nat.reduceBEq, reduceCtorEq, Nat.reduceAdd, Int.reduceEq, Int.reduceLT, Int.reduceLE, Int.reduceMul, Int.reduceAdd, Int.reduceSub, reduceIte, Nat.reduceLeDiff, Nat.reduceLT, Nat.reduceMul, Nat.reduceSub, Int.reduceToNat, s49, Try.underlying73, fo117_0, sh115, zc117, sd117, pl117_0]
  refine ⟨h1.size, _, rfl, ⟨_, h_pushE _ _ _ rfl, rfl, V1.ext (Keeps.push _ _ (Nat.le_refl _))⟩, K1.size, fun b hb => ⟨F1 b hb, fun e => ?_⟩, K1.push' (Nat.le_refl _)⟩
  have := V1.blk_lt hb; omega
theorem rpages_c {h : Heap} {l : Nat} {bl : Option Nat} {rs : List Reg} (hl : LR h l bl rs) (hn : rs.length ≤ 1000000) (hw : ∀ r ∈ rs, r.s ≤ r.e ∧ r.e ≤ 274877906944) :
    Fn Try.prog 51 [ptr l 0] h fun x h' => x = .int .i64 (pagesL rs) ∧ Keeps h.size h h' := by
  obtain ⟨v, hl0, hbl, hv⟩ := id hl
  have hlt := hl.lt
  obtain ⟨a, cap', e1, hcap⟩ := hv.shape
  subst e1
  have hpg : ∀ i, i ≤ rs.length → pagesL (rs.take i) ≤ i * 67108864 := by
    intro i
    induction i with
    | zero => intro _; simp [pagesL]
    | succ i ih =>
      intro hi
      have h1 := ih (by omega)
      have h2 := hw rs[i] (List.getElem_mem (by omega))
      rw [take_snoc _ _ (by omega)]
      simp only [pagesL, List.map_append, List.sum_append, List.map_cons, List.map_nil, List.sum_cons, List.sum_nil] at h1 ⊢
      omega
  refine Fn_c Try.func51 mixed c51 (by kernel_rfl) ?_; rw [r51]
  simp -implicitDefEqProofs (disch := first | omega | (simp only [h_szP, h_szS]; done) | (simp only [h_szP, h_szS]; omega)) only [go_sem, Nat.reduceBEq, reduceCtorEq, Nat.reduceAdd, Int.reduceEq, Int.reduceLT, Int.reduceLE, Int.reduceMul, Int.reduceAdd, Int.reduceSub, reduceIte, Nat.reduceLeDiff, Nat.reduceLT, Nat.reduceMul, Nat.reduceSub, Int.reduceToNat, s51, Try.underlying73, fo117_0, sh115, Try.underlying115, sl115, ze83, by83, sz83, Try.underlying3, sh83, zc83, fo83_1, sh26, fo83_0, Try.underlying26, hl0]
  refine LoopK.use (fun k fr h1 => ∃ i, i + k = rs.length ∧ Keeps h.size h h1 ∧
      fr = ((((fr0.up 13 (.int .i64 i)).up 12 (.int .i64 rs.length)).up 11 (.slice a rs.length cap')).up 3 (.int .u64 (pagesL (rs.take i))))) rs.length ?_ ?_
  · exact ⟨0, by omega, Keeps.refl', rfl⟩
  · intro k fr h1 hI
    obtain ⟨i, hk, K1, hf⟩ := hI
    subst hf
    by_cases hi : i < rs.length
    · obtain ⟨b, o, cap2, e1, hcap2, hbl2⟩ := hv.open hi
      cases e1
      obtain ⟨r, hr⟩ : ∃ r, r = rs[i] := ⟨_, rfl⟩
      have hE : cellsO (o + i * 3) 3 h[b]? = some [.int .u64 r.s, .int .u64 r.e, .int .i64 r.p] := by rw [hr]; exact hv.elem encR_len hi
      have hE' := K1.old b hbl2
      have hlt' : decide ((i : Int) < rs.length) = true := decide_eq_true (by omega)
      have hrw := hw r (by rw [hr]; exact List.getElem_mem hi)
      have h5 := hpg i (by omega)
      simp -implicitDefEqProofs (disch := first | omega | (simp only [h_szP, h_szS]; done) | (simp only [h_szP, h_szS]; omega)) only [go_sem, Nat.reduceBEq, reduceCtorEq, Nat.reduceAdd, Int.reduceEq, Int.reduceLT, Int.reduceLE, Int.reduceMul, Int.reduceAdd, Int.reduceSub, reduceIte, Nat.reduceLeDiff, Nat.reduceLT, Nat.reduceMul, Nat.reduceSub, Int.reduceToNat, s51, Try.underlying73, fo117_0, sh115, Try.underlying115, sl115, ze83, by83, sz83, Try.underlying3, sh83, zc83, fo83_1, sh26, fo83_0, Try.underlying26, hE', hE, hlt']
      refine ⟨k - 1, by omega, i + 1, by omega, K1.push' (Nat.le_refl _), ?_⟩
      have e2 : ((pagesL (rs.take (i + 1)) : Nat) : Int) = (pagesL (rs.take i) : Nat) + ((r.e : Int) - r.s) / 4096 := by
        rw [take_snoc _ _ hi, ← hr]
        simp only [pagesL, List.map_append, List.sum_append, List.map_cons, List.map_nil, List.sum_cons, List.sum_nil]
        omega
      rw [e2]; rfl
    · have e1 : i = rs.length := by omega
      subst e1
      have h5 := hpg rs.length (Nat.le_refl _)
      rw [List.take_length] at h5
      simp -implicitDefEqProofs (disch := first | omega | (simp only [h_szP, h_szS]; done) | (simp only [h_szP, h_szS]; omega)) only [go_sem, Nat.reduceBEq, reduceCtorEq, Nat.reduceAdd, Int.reduceEq, Int.reduceLT, Int.reduceLE, Int.reduceMul, Int.reduceAdd, Int.reduceSub, reduceIte, Nat.reduceLeDiff, Nat.reduceLT, Nat.reduceMul, Nat.reduceSub, Int.reduceToNat, s51, Try.underlying73, fo117_0, sh115, Try.underlying115, sl115, ze83, by83, sz83, Try.underlying3, sh83, zc83, fo83_1, sh26, fo83_0, Try.underlying26, List.take_length]
      exact K1
theorem room_c {h : Heap} {l : Nat} {bl : Option Nat} {rs : List Reg} (n b : Nat) (hl : LR h l bl rs) (hn : rs.length ≤ 1000000) (w : wfR rs) (hsz : n ≤ 274877906944) (hb : b ≤ 274877906944) :
    Fn Try.prog 47 [ptr l 0, .int .u64 n, .int .u64 b] h fun x h' => x = placeV (roomL rs.reverse (b / 4096 * 4096) (upP n)) ∧ h' = h := by
  obtain ⟨v, hl0, hbl, hv⟩ := id hl
  have hlt := hl.lt
  obtain ⟨a, cap', e1, hcap⟩ := hv.shape
  subst e1
  have hd : decide ((274877906944 : Int) < n) = false := decide_eq_false (by omega)
  have hup : (if ((n : Int) + 4096 - 1) / 4096 < 1 then (1 : Int) else ((n : Int) + 4096 - 1) / 4096) * 4096 = ((upP n : Nat) : Int) := by
    unfold upP; split <;> omega
  have hup2 : upP n ≤ 274877910000 := by unfold upP; omega
  refine Fn_c Try.func47 mixed c47 (by kernel_rfl) ?_; rw [r47]
  simp -implicitDefEqProofs (disch := first | omega | (simp only [h_szP, h_szS]; done) | (simp only [h_szP, h_szS]; omega)) only [go_sem, Nat.reduceBEq, reduceCtorEq, Nat.reduceAdd, Int.reduceEq, Int.reduceLT, Int.reduceLE, Int.reduceMul, Int.reduceAdd, Int.reduceSub, reduceIte, Nat.reduceLeDiff, Nat.reduceLT, Nat.reduceMul, Nat.reduceSub, Int.reduceToNat, s47, Try.underlying73, Try.underlying26, fo117_0, sh115, Try.underlying115, sl115, ze83, by83, sz83, Try.underlying3, fo83_1, sh26, fo83_0, hl0, hd, hup]
  refine LoopK.use (fun k fr h1 => h1 = h ∧ ((k = 0 ∧ roomL rs.reverse (b / 4096 * 4096) (upP n) = none ∧ ∃ e : Nat, fr = ((((fr0.up 9 (.int .i64 (-1))).up 8 (.int .u64 e)).up 1 (.int .u64 (upP n))).up 0 (ptr l 0))) ∨
      ∃ (i e : Nat), k = i + 1 ∧ i ≤ rs.length ∧ e ≤ 274877906944 ∧ roomL (rs.take i).reverse e (upP n) = roomL rs.reverse (b / 4096 * 4096) (upP n) ∧
      fr = ((((fr0.up 9 (.int .i64 i)).up 8 (.int .u64 e)).up 1 (.int .u64 (upP n))).up 0 (ptr l 0)))) (rs.length + 1) ?_ ?_
  · exact ⟨rfl, .inr ⟨rs.length, b / 4096 * 4096, rfl, Nat.le_refl _, by omega, by rw [List.take_length], rfl⟩⟩
  · intro k fr h1 hI
    obtain ⟨hh, hI⟩ := hI
    have hh := hh.symm
    subst hh
    rcases hI with ⟨hk, hr, e, hf⟩ | ⟨i, e, hk, hi, he, hr, hf⟩
    · subst hf
      simp -implicitDefEqProofs (disch := first | omega | (simp only [h_szP, h_szS]; done) | (simp only [h_szP, h_szS]; omega)) only [go_sem, Nat.reduceBEq, reduceCtorEq, Nat.reduceAdd, Int.reduceEq, Int.reduceLT, Int.reduceLE, Int.reduceMul, Int.reduceAdd, Int.reduceSub, reduceIte, Nat.reduceLeDiff, Nat.reduceLT, Nat.reduceMul, Nat.reduceSub, Int.reduceToNat, s47, Try.underlying73, Try.underlying26, fo117_0, sh115, Try.underlying115, sl115, ze83, by83, sz83, Try.underlying3, fo83_1, sh26, fo83_0]
      rw [hr]; rfl
    · subst hf
      have hd0 : decide ((0 : Int) ≤ i) = true := decide_eq_true (by omega)
      cases i with
      | zero =>
        rw [List.take_zero, List.reverse_nil] at hr
        rw [← hr]
        simp only [roomL]
        simp -implicitDefEqProofs (disch := first | omega | (simp only [h_szP, h_szS]; done) | (simp only [h_szP, h_szS]; omega)) only [go_sem, Nat.reduceBEq, reduceCtorEq, Nat.reduceAdd, Int.reduceEq, Int.reduceLT, Int.reduceLE, Int.reduceMul, Int.reduceAdd, Int.reduceSub, reduceIte, Nat.reduceLeDiff, Nat.reduceLT, Nat.reduceMul, Nat.reduceSub, Int.reduceToNat, s47, Try.underlying73, Try.underlying26, fo117_0, sh115, Try.underlying115, sl115, ze83, by83, sz83, Try.underlying3, fo83_1, sh26, fo83_0, hd0]
        refine ⟨fun q1 => ?_, fun q1 => ?_⟩
        simp -implicitDefEqProofs (disch := first | omega | (simp only [h_szP, h_szS]; done) | (simp only [h_szP, h_szS]; omega)) only [go_sem, Nat.reduceBEq, reduceCtorEq, Nat.reduceAdd, Int.reduceEq, Int.reduceLT, Int.reduceLE, Int.reduceMul, Int.reduceAdd, Int.reduceSub, reduceIte, Nat.reduceLeDiff, Nat.reduceLT, Nat.reduceMul, Nat.reduceSub, Int.reduceToNat, s47, Try.underlying73, Try.underlying26, fo117_0, sh115, Try.underlying115, sl115, ze83, by83, sz83, Try.underlying3, fo83_1, sh26, fo83_0, hd0, hl0]
        refine ⟨fun q2 => ?_, fun q2 => ?_⟩
        · simp -implicitDefEqProofs (disch := first | omega | (simp only [h_szP, h_szS]; done) | (simp only [h_szP, h_szS]; omega)) only [go_sem, Nat.reduceBEq, reduceCtorEq, Nat.reduceAdd, Int.reduceEq, Int.reduceLT, Int.reduceLE, Int.reduceMul, Int.reduceAdd, Int.reduceSub, reduceIte, Nat.reduceLeDiff, Nat.reduceLT, Nat.reduceMul, Nat.reduceSub, Int.reduceToNat, s47, Try.underlying73, Try.underlying26, fo117_0, sh115, Try.underlying115, sl115, ze83, by83, sz83, Try.underlying3, fo83_1, sh26, fo83_0]
          have : ((e : Int) - (upP n : Nat)) = ((e - upP n : Nat) : Int) := by omega
          simp only [placeV]
          rw [this]
        · rw [if_neg (by omega)]
          exact ⟨0, by omega, .inl ⟨rfl, rfl, e, rfl⟩⟩
        · rw [if_neg (by omega)]
          exact ⟨0, by omega, .inl ⟨rfl, rfl, e, rfl⟩⟩
      | succ i =>
        have e4 : (((i + 1 : Nat) : Int) - 1) = (i : Int) := by omega
        have hi' : i < rs.length := by omega
        obtain ⟨b2, o, cap2, e1, hcap2, hbl2⟩ := hv.open hi'
        cases e1
        obtain ⟨r, hr0⟩ : ∃ r, r = rs[i] := ⟨_, rfl⟩
        have hw := w.each r (by rw [hr0]; exact List.getElem_mem hi')
        have hE0 : cellO (o + i * 3) h[b2]? = some (.int .u64 r.s) := by rw [hr0]; exact hv.field encR_len hi' (j := 0) (by omega)
        have hE1 : cellO (o + i * 3 + 1) h[b2]? = some (.int .u64 r.e) := by rw [hr0]; exact hv.field encR_len hi' (j := 1) (by omega)
        have hr1 : (rs.take (i + 1)).reverse = r :: (rs.take i).reverse := by rw [take_snoc _ _ hi', List.reverse_append, ← hr0]; rfl
        rw [hr1] at hr
        rw [← hr]
        simp only [roomL]
        have hmx : (if (4096 : Int) < r.e then (r.e : Int) else 4096) = r.e := by split <;> omega
        have hmn : (if (r.s : Int) < e then (r.s : Int) else e) = ((min e r.s : Nat) : Int) := min_int e r.s
        have hpos : ((0 : Int) < ((i + 1 : Nat) : Int)) = True := eq_true (by omega)
        simp -implicitDefEqProofs (disch := first | omega | (simp only [h_szP, h_szS]; done) | (simp only [h_szP, h_szS]; omega)) only [go_sem, Nat.reduceBEq, reduceCtorEq, Nat.reduceAdd, Int.reduceEq, Int.reduceLT, Int.reduceLE, Int.reduceMul, Int.reduceAdd, Int.reduceSub, reduceIte, Nat.reduceLeDiff, Nat.reduceLT, Nat.reduceMul, Nat.reduceSub, Int.reduceToNat, s47, Try.underlying73, Try.underlying26, fo117_0, sh115, Try.underlying115, sl115, ze83, by83, sz83, Try.underlying3, fo83_1, sh26, fo83_0, hd0, hl0, hE0, hE1, e4, hmx, hmn, hpos]
        refine ⟨fun q1 => ?_, fun q1 => ?_⟩
        simp -implicitDefEqProofs (disch := first | omega | (simp only [h_szP, h_szS]; done) | (simp only [h_szP, h_szS]; omega)) only [go_sem, Nat.reduceBEq, reduceCtorEq, Nat.reduceAdd, Int.reduceEq, Int.reduceLT, Int.reduceLE, Int.reduceMul, Int.reduceAdd, Int.reduceSub, reduceIte, Nat.reduceLeDiff, Nat.reduceLT, Nat.reduceMul, Nat.reduceSub, Int.reduceToNat, s47, Try.underlying73, Try.underlying26, fo117_0, sh115, Try.underlying115, sl115, ze83, by83, sz83, Try.underlying3, fo83_1, sh26, fo83_0, hd0, hl0, hE0, hE1, e4, hmn, hpos]
        refine ⟨fun q2 => ?_, fun q2 => ?_⟩
        · simp -implicitDefEqProofs (disch := first | omega | (simp only [h_szP, h_szS]; done) | (simp only [h_szP, h_szS]; omega)) only [go_sem, Nat.reduceBEq, reduceCtorEq, Nat.reduceAdd, Int.reduceEq, Int.reduceLT, Int.reduceLE, Int.reduceMul, Int.reduceAdd, Int.reduceSub, reduceIte, Nat.reduceLeDiff, Nat.reduceLT, Nat.reduceMul, Nat.reduceSub, Int.reduceToNat, s47, Try.underlying73, Try.underlying26, fo117_0, sh115, Try.underlying115, sl115, ze83, by83, sz83, Try.underlying3, fo83_1, sh26, fo83_0]
          have : ((e : Int) - (upP n : Nat)) = ((e - upP n : Nat) : Int) := by omega
          simp only [placeV]
          rw [this]
        · rw [if_neg (by omega)]
          exact ⟨i + 1, by omega, .inr ⟨i, min e r.s, rfl, by omega, by omega, by rfl, rfl⟩⟩
        · rw [if_neg (by omega)]
          exact ⟨i + 1, by omega, .inr ⟨i, min e r.s, rfl, by omega, by omega, by rfl, rfl⟩⟩
end Go.SX.G