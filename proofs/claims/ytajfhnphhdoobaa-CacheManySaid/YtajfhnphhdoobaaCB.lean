/- A cache: Fetch, of none, and of one that is on. No condition but on sizes. -/
import Derived.Test.YtajfhnphhdoobaaCAb
set_option linter.unusedVariables false
set_option linter.unusedSimpArgs false
namespace Go.SX.G
open Go Go.SX Go.Proofs
set_option maxRecDepth 100000
set_option maxHeartbeats 40000000
theorem cfetch_nil {h : Heap} {s : Nat} {M : MemD} (a : Nat) (r : MR h s M) (ha : a < 18446744073709551616) :
    Fn Try.prog 12 [.pointer none, ptr s 0, .int .u64 a] h fun x h' => x = .tuple #[(readF M.rs (memAt M) a).1.v, (readF M.rs (memAt M) a).2.v] ∧ Keeps h.size h h' := by
  refine Fn_c Try.func12 mixed c12 (by kernel_rfl) ?_; rw [r12]
  simp -implicitDefEqProofs (disch := first | omega | (simp only [h_szP, h_szS]; done) | (simp only [h_szP, h_szS]; omega)) only [go_sem, Nat.reduceBEq, reduceCtorEq, Nat.reduceAdd, Int.reduceEq, Int.reduceLT, Int.reduceLE, Int.reduceMul, Int.reduceAdd, Int.reduceSub, reduceIte, Nat.reduceLeDiff, Nat.reduceLT, Nat.reduceMul, Nat.reduceSub, Int.reduceToNat, s12, zc34, zc38, Try.underlying31, fo88_0, sh4, sz34, sz38, fo88_2, sh23, Try.underlying23, sz23, fo88_1, sh86, Try.underlying86, Try.underlying26, ze90, zc90, sz90, fo90_0, fo34_6, sh3, fo90_1, sh26, fo90_2, sh34, sd38, fo38_0, Try.underlying3, sh38, sd90, pl90_0, pl90_1, pl90_2]
  refine FnK.use (cread_c a (r.ext ((Keeps.push _ _ (Nat.le_refl _)).push' (Nat.le_refl _))) ha) ?_
  intro x h1 ⟨e1, K1⟩
  have K2 := ((Keeps.push h _ (Nat.le_refl _)).push' (Nat.le_refl _)).of_ext K1 (Nat.le_refl _)
  have b0 : h1[h.size]? = some (.cells #[.int .i64 0, .int .i64 0, .int .i64 0, .int .i64 0, .int .i64 0, .int .i64 0, .int .i64 0] 34 (0, 0)) := by (rw [K1.old _ (by simp <;> omega)]; simp -implicitDefEqProofs (disch := first | omega | (simp only [h_szP, h_szS]; done) | (simp only [h_szP, h_szS]; omega)) only [go_sem, Nat.reduceBEq, reduceCtorEq, Nat.reduceAdd, Int.reduceEq, Int.reduceLT, Int.reduceLE, Int.reduceMul, Int.reduceAdd, Int.reduceSub, reduceIte, Nat.reduceLeDiff, Nat.reduceLT, Nat.reduceMul, Nat.reduceSub, Int.reduceToNat])
  have b1 : h1[h.size + 1]? = some (.cells #[.int .i64 0, .int .i64 0, .int .u64 0] 38 (0, 0)) := by (rw [K1.old _ (by simp <;> omega)]; simp -implicitDefEqProofs (disch := first | omega | (simp only [h_szP, h_szS]; done) | (simp only [h_szP, h_szS]; omega)) only [go_sem, Nat.reduceBEq, reduceCtorEq, Nat.reduceAdd, Int.reduceEq, Int.reduceLT, Int.reduceLE, Int.reduceMul, Int.reduceAdd, Int.reduceSub, reduceIte, Nat.reduceLeDiff, Nat.reduceLT, Nat.reduceMul, Nat.reduceSub, Int.reduceToNat])
  have l0 := getElem?_lt b0
  have l1 := getElem?_lt b1
  rw [e1]
  simp -implicitDefEqProofs (disch := first | omega | (simp only [h_szP, h_szS]; done) | (simp only [h_szP, h_szS]; omega)) only [go_sem, Nat.reduceBEq, reduceCtorEq, Nat.reduceAdd, Int.reduceEq, Int.reduceLT, Int.reduceLE, Int.reduceMul, Int.reduceAdd, Int.reduceSub, reduceIte, Nat.reduceLeDiff, Nat.reduceLT, Nat.reduceMul, Nat.reduceSub, Int.reduceToNat, s12, zc34, zc38, Try.underlying31, fo88_0, sh4, sz34, sz38, fo88_2, sh23, Try.underlying23, sz23, fo88_1, sh86, Try.underlying86, Try.underlying26, ze90, zc90, sz90, fo90_0, fo34_6, sh3, fo90_1, sh26, fo90_2, sh34, sd38, fo38_0, Try.underlying3, sh38, sd90, pl90_0, pl90_1, pl90_2, b0, b1, InstR.v, StopR.v]
  exact (K2.set' (Nat.le_refl _)).set' (by omega)
theorem ne_np (x y : Operand) (b : Nat) : binV Try.prog .neq 23 x y (.pointer none) (ptr b 0) = some (.bool true) := by simp [binV, quietEq, eqIn, Try.underlying23]
theorem and_dup {p : Prop} (h : p) : p ∧ p := ⟨h, h⟩
theorem three_ways (A B : Prop) : (A ∧ B) ∨ ¬ A ∨ (A ∧ ¬ B) := by
  by_cases a : A
  · by_cases b : B
    · exact .inl ⟨a, b⟩
    · exact .inr (.inr ⟨a, b⟩)
  · exact .inr (.inl a)
theorem keys_gone {es : List CE} {j a : Nat} (hp : es.Pairwise fun x y => x.pc ≠ y.pc) (hj : j < es.length) (e : (es[j].pc : Int) = a) : ∀ x ∈ es.eraseIdx j, (x.pc : Int) ≠ a := by
  intro x hx q
  obtain ⟨i, hi, e'⟩ := List.mem_eraseIdx_iff_getElem.1 hx
  obtain ⟨hl, e''⟩ := e'
  rw [List.pairwise_iff_getElem] at hp
  rcases Nat.lt_trichotomy i j with z | z | z
  · exact hp i j hi hj z (by rw [e'']; omega)
  · exact hl z
  · exact hp j i hj hi z (by rw [e'']; omega)
theorem readF_kind {rs : List Reg} {B : Nat → Nat} {a : Nat} (h : (readF rs B a).2.kind = 0) : (readF rs B a).2 = sOk := by
  unfold readF at h ⊢
  split at h
  · exact absurd h (by show ¬ ((4 : Int) = 0); decide)
  · split at h
    · exact absurd h (by show ¬ ((3 : Int) = 0); decide)
    · rename_i q; rw [if_neg q]
theorem cfetch_on {h : Heap} {s c m n : Nat} {M : MemD} {sp : Value} {es : List CE} (a : Nat) (r : MR h s M) (ha : a < 18446744073709551616) (C : CR h c m n sp es) (hsp : sp = .pointer none ∨ ∃ b cs e, sp = ptr b 0 ∧ h[b]? = some (.cells cs e (0, 0))) (hok : sp = ptr s 0 → ∀ e ∈ es, e.ok M) (hc : ¬ mfoot s M c) (hm : ¬ mfoot s M m) :
    Fn Try.prog 12 [ptr c 0, ptr s 0, .int .u64 a] h fun x h' => x = .tuple #[(readF M.rs (memAt M) a).1.v, (readF M.rs (memAt M) a).2.v] ∧ ∃ n' es', CR h' c m n' (ptr s 0) es' ∧ (∀ e ∈ es', e.ok M) ∧ h.size ≤ h'.size ∧ ∀ b, b < h.size → b ≠ c → b ≠ m → h'[b]? = h[b]? := by
  have ht := C.top
  have hmp := C.map
  obtain ⟨lc, lm⟩ := C.lt
  have ls := getElem?_lt r.top
  have hcm := C.ne
  have K0 : Keeps h.size h ((h.push (.cells #[.int .i64 0, .int .i64 0, .int .i64 0, .int .i64 0, .int .i64 0, .int .i64 0, .int .i64 0] 34)).push (.cells #[.int .i64 0, .int .i64 0, .int .u64 0] 38)) := (Keeps.push _ _ (Nat.le_refl _)).push' (Nat.le_refl _)
  obtain ⟨H0, e0⟩ : ∃ H0, H0 = (h.push (.cells #[.int .i64 0, .int .i64 0, .int .i64 0, .int .i64 0, .int .i64 0, .int .i64 0, .int .i64 0] 34)).push (.cells #[.int .i64 0, .int .i64 0, .int .u64 0] 38) := ⟨_, rfl⟩
  have z0 : H0.size = h.size + 2 := by rw [e0]; simp
  have b0 : H0[h.size]? = some (.cells #[.int .i64 0, .int .i64 0, .int .i64 0, .int .i64 0, .int .i64 0, .int .i64 0, .int .i64 0] 34 (0, 0)) := by rw [e0]; simp -implicitDefEqProofs (disch := first | omega | (simp only [h_szP, h_szS]; done) | (simp only [h_szP, h_szS]; omega)) only [go_sem, Nat.reduceBEq, reduceCtorEq, Nat.reduceAdd, Int.reduceEq, Int.reduceLT, Int.reduceLE, Int.reduceMul, Int.reduceAdd, Int.reduceSub, reduceIte, Nat.reduceLeDiff, Nat.reduceLT, Nat.reduceMul, Nat.reduceSub, Int.reduceToNat]
  have b1 : H0[h.size + 1]? = some (.cells #[.int .i64 0, .int .i64 0, .int .u64 0] 38 (0, 0)) := by rw [e0]; simp -implicitDefEqProofs (disch := first | omega | (simp only [h_szP, h_szS]; done) | (simp only [h_szP, h_szS]; omega)) only [go_sem, Nat.reduceBEq, reduceCtorEq, Nat.reduceAdd, Int.reduceEq, Int.reduceLT, Int.reduceLE, Int.reduceMul, Int.reduceAdd, Int.reduceSub, reduceIte, Nat.reduceLeDiff, Nat.reduceLT, Nat.reduceMul, Nat.reduceSub, Int.reduceToNat]
  rw [← e0] at K0
  have C0 : CR H0 c m n sp es := C.mono (K0.old _ lc) (K0.old _ lm)
  have r0 := r.ext K0
  by_cases qsp : sp = ptr s 0
  subst qsp
  have pe : ∀ hh : Heap, ptrE Try.prog hh 23 (ptr s 0) (ptr s 0) = some true := fun hh => by rw [ptrE_same Try.underlying23 sz78 (by decide)]; rfl
  refine Fn_c Try.func12 mixed c12 (by kernel_rfl) ?_; rw [r12]
  simp -implicitDefEqProofs (disch := first | omega | (simp only [h_szP, h_szS]; done) | (simp only [h_szP, h_szS]; omega)) only [go_sem, Nat.reduceBEq, reduceCtorEq, Nat.reduceAdd, Int.reduceEq, Int.reduceLT, Int.reduceLE, Int.reduceMul, Int.reduceAdd, Int.reduceSub, reduceIte, Nat.reduceLeDiff, Nat.reduceLT, Nat.reduceMul, Nat.reduceSub, Int.reduceToNat, s12, zc34, zc38, Try.underlying31, fo88_0, sh4, sz34, sz38, fo88_2, sh23, Try.underlying23, sz23, fo88_1, sh86, Try.underlying86, Try.underlying26, ze90, zc90, sz90, fo90_0, fo34_6, sh3, fo90_1, sh26, fo90_2, sh34, sd38, fo38_0, Try.underlying3, sh38, sd90, pl90_0, pl90_1, pl90_2, ht, pe]
  rw [← e0]
  obtain ⟨H, eH⟩ : ∃ H, H = H0 := ⟨_, rfl⟩
  rw [← eH]
  have oH : ∀ b, b ≠ c → b ≠ m → H[b]? = H0[b]? := fun b q1 q2 => by rw [eH]
  obtain ⟨es1, CH, ok1⟩ : ∃ es1, CR H c m n (ptr s 0) es1 ∧ ∀ e ∈ es1, e.ok M := ⟨es, by rw [eH]; exact C0, hok rfl⟩
  have zH : H.size = h.size + 2 := by rw [eH]; omega
  have htH := CH.top
  have hmH := CH.map
  have rH : MR H s M := r0.mono fun b f => oH b (fun q => hc (q ▸ f)) fun q => hm (q ▸ f)
  have b0H : H[h.size]? = some (.cells #[.int .i64 0, .int .i64 0, .int .i64 0, .int .i64 0, .int .i64 0, .int .i64 0, .int .i64 0] 34 (0, 0)) := by rw [oH _ (by omega) (by omega)]; exact b0
  have b1H : H[h.size + 1]? = some (.cells #[.int .i64 0, .int .i64 0, .int .u64 0] 38 (0, 0)) := by rw [oH _ (by omega) (by omega)]; exact b1
  have oldH : ∀ b, b < h.size → b ≠ c → b ≠ m → H[b]? = h[b]? := fun b hb q1 q2 => by rw [oH b q1 q2, K0.old b hb]
  have lmH : m < H.size := by omega
  rcases (fnd_cases (kf := fun e : CE => (e.pc : Int)) (a : Int) es1).symm with ⟨j, hj, e1, e2⟩ | hn0
  obtain ⟨E, hE⟩ : ∃ E, E = es1[j] := ⟨_, rfl⟩
  refine obK.use _ (look_some Try.underlying86 Try.underlying26 hmH hj e1 e2 true) ?_
  have e1o := e1
  rw [← hE] at e1 ⊢
  have okE := ok1 E (by rw [hE]; exact List.getElem_mem hj)
  have pE : E.pc = a := by omega
  have aE : a < 274877906944 := by have := okE.pc; omega
  unfold CE.v
  simp -implicitDefEqProofs (disch := first | omega | (simp only [h_szP, h_szS]; done) | (simp only [h_szP, h_szS]; omega)) only [go_sem, Nat.reduceBEq, reduceCtorEq, Nat.reduceAdd, Int.reduceEq, Int.reduceLT, Int.reduceLE, Int.reduceMul, Int.reduceAdd, Int.reduceSub, reduceIte, Nat.reduceLeDiff, Nat.reduceLT, Nat.reduceMul, Nat.reduceSub, Int.reduceToNat, s12, zc34, zc38, Try.underlying31, fo88_0, sh4, sz34, sz38, fo88_2, sh23, Try.underlying23, sz23, fo88_1, sh86, Try.underlying86, Try.underlying26, ze90, zc90, sz90, fo90_0, fo34_6, sh3, fo90_1, sh26, fo90_2, sh34, sd38, fo38_0, Try.underlying3, sh38, sd90, pl90_0, pl90_1, pl90_2, htH]
  refine FnK.val (stamps_c a E.i.size (rH.ext (Keeps.push _ _ (Nat.le_refl _))) aE okE.sz) ?_
  have nowE := okE.now
  rw [pE] at nowE
  obtain ⟨sf, hsf⟩ : ∃ sf, sf = stampV M.D (a / 4096) := ⟨_, rfl⟩
  obtain ⟨sl, hsl⟩ : ∃ sl, sl = stampV M.D (lastP a E.i.size) := ⟨_, rfl⟩
  rw [← hsf, ← hsl] at nowE ⊢
  rcases three_ways (sf = E.f) (sl = E.l) with ⟨qf, ql⟩ | qf | ⟨qf, ql⟩
  · have t1 : ((sf : Int) = (E.f : Int)) = True := eq_true (by omega)
    have t2 : ((sl : Int) = (E.l : Int)) = True := eq_true (by omega)
    simp -implicitDefEqProofs (disch := first | omega | (simp only [h_szP, h_szS]; done) | (simp only [h_szP, h_szS]; omega)) only [go_sem, Nat.reduceBEq, reduceCtorEq, Nat.reduceAdd, Int.reduceEq, Int.reduceLT, Int.reduceLE, Int.reduceMul, Int.reduceAdd, Int.reduceSub, reduceIte, Nat.reduceLeDiff, Nat.reduceLT, Nat.reduceMul, Nat.reduceSub, Int.reduceToNat, s12, zc34, zc38, Try.underlying31, fo88_0, sh4, sz34, sz38, fo88_2, sh23, Try.underlying23, sz23, fo88_1, sh86, Try.underlying86, Try.underlying26, ze90, zc90, sz90, fo90_0, fo34_6, sh3, fo90_1, sh26, fo90_2, sh34, sd38, fo38_0, Try.underlying3, sh38, sd90, pl90_0, pl90_1, pl90_2, htH, t1, t2, b0H, b1H]
    rw [nowE qf.symm ql.symm]
    refine ⟨?_, ?_⟩
    · first | rfl | (unfold InstR.v StopR.v sOk; rfl)
    refine ⟨n, es1, ?_, ok1, ?_, ?_⟩
    · exact CH.mono (by rw [h_pushL _ _ _ (by simp; omega), h_setN _ _ _ _ (by omega), h_setN _ _ _ _ (by omega)]) (by rw [h_pushL _ _ _ (by simp; omega), h_setN _ _ _ _ (by omega), h_setN _ _ _ _ (by omega)])
    · first | omega | (simp; omega)
    · intro b q1 q2 q3
      rw [h_pushL _ _ _ (by simp; omega), h_setN _ _ _ _ (by omega), h_setN _ _ _ _ (by omega)]
      exact oldH b q1 q2 q3
  have t1 : ((sf : Int) = (E.f : Int)) = False := eq_false (by omega)
  simp -implicitDefEqProofs (disch := first | omega | (simp only [h_szP, h_szS]; done) | (simp only [h_szP, h_szS]; omega)) only [go_sem, Nat.reduceBEq, reduceCtorEq, Nat.reduceAdd, Int.reduceEq, Int.reduceLT, Int.reduceLE, Int.reduceMul, Int.reduceAdd, Int.reduceSub, reduceIte, Nat.reduceLeDiff, Nat.reduceLT, Nat.reduceMul, Nat.reduceSub, Int.reduceToNat, s12, zc34, zc38, Try.underlying31, fo88_0, sh4, sz34, sz38, fo88_2, sh23, Try.underlying23, sz23, fo88_1, sh86, Try.underlying86, Try.underlying26, ze90, zc90, sz90, fo90_0, fo34_6, sh3, fo90_1, sh26, fo90_2, sh34, sd38, fo38_0, Try.underlying3, sh38, sd90, pl90_0, pl90_1, pl90_2, htH, t1]
  refine del_some Try.underlying86 Try.underlying26 (by rw [h_pushL _ _ _ lmH]; exact hmH) hj e1o e2 ?_
  simp -implicitDefEqProofs (disch := first | omega | (simp only [h_szP, h_szS]; done) | (simp only [h_szP, h_szS]; omega)) only [go_sem, Nat.reduceBEq, reduceCtorEq, Nat.reduceAdd, Int.reduceEq, Int.reduceLT, Int.reduceLE, Int.reduceMul, Int.reduceAdd, Int.reduceSub, reduceIte, Nat.reduceLeDiff, Nat.reduceLT, Nat.reduceMul, Nat.reduceSub, Int.reduceToNat, s12, zc34, zc38, Try.underlying31, fo88_0, sh4, sz34, sz38, fo88_2, sh23, Try.underlying23, sz23, fo88_1, sh86, Try.underlying86, Try.underlying26, ze90, zc90, sz90, fo90_0, fo34_6, sh3, fo90_1, sh26, fo90_2, sh34, sd38, fo38_0, Try.underlying3, sh38, sd90, pl90_0, pl90_1, pl90_2]
  obtain ⟨H3, e3⟩ : ∃ H3, H3 = (H.setIfInBounds m (.map (entA .u64 (fun e : CE => (e.pc : Int)) CE.v CE.born (es1.eraseIdx j)) n)).push (.cells #[.int .i64 E.i.op, .int .i64 E.i.rd, .int .i64 E.i.rs1, .int .i64 E.i.rs2, .int .i64 E.i.imm, .int .i64 E.i.order, .int .i64 E.i.size, .int .u64 E.f, .int .u64 E.l] 90) := ⟨_, rfl⟩
  rw [← e3]
  have o3 : ∀ b, b < h.size + 2 → b ≠ m → H3[b]? = H[b]? := fun b q1 q2 => by rw [e3, h_pushL _ _ _ (by simp; omega), h_setN _ _ _ _ q2]
  obtain ⟨es2, C3, ok3, kn⟩ : ∃ es2, CR H3 c m n (ptr s 0) es2 ∧ (∀ e ∈ es2, e.ok M) ∧ ∀ x ∈ es2, (x.pc : Int) ≠ a := ⟨es1.eraseIdx j, ⟨by rw [o3 c (by omega) hcm]; exact CH.top, by rw [e3, h_pushL _ _ _ (by simp; omega)]; exact h_setS _ _ _ lmH, hcm, Nat.le_trans (List.length_eraseIdx_le _ _) CH.le, CH.keys.sublist (List.eraseIdx_sublist _ _)⟩, fun x hx => ok1 x (List.mem_of_mem_eraseIdx hx), keys_gone CH.keys hj e1o⟩
  have z3 : H3.size = h.size + 3 := by rw [e3]; simp; omega
  rotate_left
  have t1 : ((sf : Int) = (E.f : Int)) = True := eq_true (by omega)
  have t2 : ((sl : Int) = (E.l : Int)) = False := eq_false (by omega)
  simp -implicitDefEqProofs (disch := first | omega | (simp only [h_szP, h_szS]; done) | (simp only [h_szP, h_szS]; omega)) only [go_sem, Nat.reduceBEq, reduceCtorEq, Nat.reduceAdd, Int.reduceEq, Int.reduceLT, Int.reduceLE, Int.reduceMul, Int.reduceAdd, Int.reduceSub, reduceIte, Nat.reduceLeDiff, Nat.reduceLT, Nat.reduceMul, Nat.reduceSub, Int.reduceToNat, s12, zc34, zc38, Try.underlying31, fo88_0, sh4, sz34, sz38, fo88_2, sh23, Try.underlying23, sz23, fo88_1, sh86, Try.underlying86, Try.underlying26, ze90, zc90, sz90, fo90_0, fo34_6, sh3, fo90_1, sh26, fo90_2, sh34, sd38, fo38_0, Try.underlying3, sh38, sd90, pl90_0, pl90_1, pl90_2, htH, t1, t2]
  refine del_some Try.underlying86 Try.underlying26 (by rw [h_pushL _ _ _ lmH]; exact hmH) hj e1o e2 ?_
  simp -implicitDefEqProofs (disch := first | omega | (simp only [h_szP, h_szS]; done) | (simp only [h_szP, h_szS]; omega)) only [go_sem, Nat.reduceBEq, reduceCtorEq, Nat.reduceAdd, Int.reduceEq, Int.reduceLT, Int.reduceLE, Int.reduceMul, Int.reduceAdd, Int.reduceSub, reduceIte, Nat.reduceLeDiff, Nat.reduceLT, Nat.reduceMul, Nat.reduceSub, Int.reduceToNat, s12, zc34, zc38, Try.underlying31, fo88_0, sh4, sz34, sz38, fo88_2, sh23, Try.underlying23, sz23, fo88_1, sh86, Try.underlying86, Try.underlying26, ze90, zc90, sz90, fo90_0, fo34_6, sh3, fo90_1, sh26, fo90_2, sh34, sd38, fo38_0, Try.underlying3, sh38, sd90, pl90_0, pl90_1, pl90_2]
  obtain ⟨H3, e3⟩ : ∃ H3, H3 = (H.setIfInBounds m (.map (entA .u64 (fun e : CE => (e.pc : Int)) CE.v CE.born (es1.eraseIdx j)) n)).push (.cells #[.int .i64 E.i.op, .int .i64 E.i.rd, .int .i64 E.i.rs1, .int .i64 E.i.rs2, .int .i64 E.i.imm, .int .i64 E.i.order, .int .i64 E.i.size, .int .u64 E.f, .int .u64 E.l] 90) := ⟨_, rfl⟩
  rw [← e3]
  have o3 : ∀ b, b < h.size + 2 → b ≠ m → H3[b]? = H[b]? := fun b q1 q2 => by rw [e3, h_pushL _ _ _ (by simp; omega), h_setN _ _ _ _ q2]
  obtain ⟨es2, C3, ok3, kn⟩ : ∃ es2, CR H3 c m n (ptr s 0) es2 ∧ (∀ e ∈ es2, e.ok M) ∧ ∀ x ∈ es2, (x.pc : Int) ≠ a := ⟨es1.eraseIdx j, ⟨by rw [o3 c (by omega) hcm]; exact CH.top, by rw [e3, h_pushL _ _ _ (by simp; omega)]; exact h_setS _ _ _ lmH, hcm, Nat.le_trans (List.length_eraseIdx_le _ _) CH.le, CH.keys.sublist (List.eraseIdx_sublist _ _)⟩, fun x hx => ok1 x (List.mem_of_mem_eraseIdx hx), keys_gone CH.keys hj e1o⟩
  have z3 : H3.size = h.size + 3 := by rw [e3]; simp; omega
  rotate_left
  refine obK.use _ (look_none Try.underlying86 Try.underlying26 ze90 hmH hn0 true) ?_
  simp -implicitDefEqProofs (disch := first | omega | (simp only [h_szP, h_szS]; done) | (simp only [h_szP, h_szS]; omega)) only [go_sem, Nat.reduceBEq, reduceCtorEq, Nat.reduceAdd, Int.reduceEq, Int.reduceLT, Int.reduceLE, Int.reduceMul, Int.reduceAdd, Int.reduceSub, reduceIte, Nat.reduceLeDiff, Nat.reduceLT, Nat.reduceMul, Nat.reduceSub, Int.reduceToNat, s12, zc34, zc38, Try.underlying31, fo88_0, sh4, sz34, sz38, fo88_2, sh23, Try.underlying23, sz23, fo88_1, sh86, Try.underlying86, Try.underlying26, ze90, zc90, sz90, fo90_0, fo34_6, sh3, fo90_1, sh26, fo90_2, sh34, sd38, fo38_0, Try.underlying3, sh38, sd90, pl90_0, pl90_1, pl90_2, htH]
  obtain ⟨H3, e3⟩ : ∃ H3, H3 = H.push (.cells #[.int .i64 0, .int .i64 0, .int .i64 0, .int .i64 0, .int .i64 0, .int .i64 0, .int .i64 0, .int .u64 0, .int .u64 0] 90) := ⟨_, rfl⟩
  rw [← e3]
  have o3 : ∀ b, b < h.size + 2 → b ≠ m → H3[b]? = H[b]? := fun b q1 q2 => by rw [e3, h_pushL _ _ _ (by omega)]
  obtain ⟨es2, C3, ok3, kn⟩ : ∃ es2, CR H3 c m n (ptr s 0) es2 ∧ (∀ e ∈ es2, e.ok M) ∧ ∀ x ∈ es2, (x.pc : Int) ≠ a := ⟨es1, CH.mono (by rw [e3, h_pushL _ _ _ (by omega)]) (by rw [e3, h_pushL _ _ _ (by omega)]), ok1, hn0⟩
  have z3 : H3.size = h.size + 3 := by rw [e3]; simp; omega
  rotate_left
  have pe : ∀ x y, orE (binV Try.prog .neq 23 x y sp (ptr s 0)) (ptrC Try.prog ((h.push (.cells #[.int .i64 0, .int .i64 0, .int .i64 0, .int .i64 0, .int .i64 0, .int .i64 0, .int .i64 0] 34)).push (.cells #[.int .i64 0, .int .i64 0, .int .u64 0] 38)) .neq 23 sp (ptr s 0)) = some (.bool true) := fun x y => by
    rcases hsp with e | ⟨t, tc, te, e, htb⟩
    · rw [e, o_np]; exact ne_np x y s
    · have q : s ≠ t := fun q => qsp (by rw [e, q])
      have pe : ptrE Try.prog H0 23 (ptr t 0) (ptr s 0) = some false := ptrE_diff Try.underlying23 sz78 (by decide) (by rw [K0.old _ (getElem?_lt htb)]; exact htb) r0.top (Ne.symm q)
      rw [e0] at pe
      rw [e, o_ppn, pe]; rfl
  refine Fn_c Try.func12 mixed c12 (by kernel_rfl) ?_; rw [r12]
  simp -implicitDefEqProofs (disch := first | omega | (simp only [h_szP, h_szS]; done) | (simp only [h_szP, h_szS]; omega)) only [go_sem, Nat.reduceBEq, reduceCtorEq, Nat.reduceAdd, Int.reduceEq, Int.reduceLT, Int.reduceLE, Int.reduceMul, Int.reduceAdd, Int.reduceSub, reduceIte, Nat.reduceLeDiff, Nat.reduceLT, Nat.reduceMul, Nat.reduceSub, Int.reduceToNat, s12, zc34, zc38, Try.underlying31, fo88_0, sh4, sz34, sz38, fo88_2, sh23, Try.underlying23, sz23, fo88_1, sh86, Try.underlying86, Try.underlying26, ze90, zc90, sz90, fo90_0, fo34_6, sh3, fo90_1, sh26, fo90_2, sh34, sd38, fo38_0, Try.underlying3, sh38, sd90, pl90_0, pl90_1, pl90_2, ht, pe]
  rw [← e0]
  refine FnK.use (cclear_c C0) ?_
  intro x h1 ⟨C1, z1, o1⟩
  have ht1 := C1.top
  have lc1 := getElem?_lt ht1
  simp -implicitDefEqProofs (disch := first | omega | (simp only [h_szP, h_szS]; done) | (simp only [h_szP, h_szS]; omega)) only [go_sem, Nat.reduceBEq, reduceCtorEq, Nat.reduceAdd, Int.reduceEq, Int.reduceLT, Int.reduceLE, Int.reduceMul, Int.reduceAdd, Int.reduceSub, reduceIte, Nat.reduceLeDiff, Nat.reduceLT, Nat.reduceMul, Nat.reduceSub, Int.reduceToNat, s12, zc34, zc38, Try.underlying31, fo88_0, sh4, sz34, sz38, fo88_2, sh23, Try.underlying23, sz23, fo88_1, sh86, Try.underlying86, Try.underlying26, ze90, zc90, sz90, fo90_0, fo34_6, sh3, fo90_1, sh26, fo90_2, sh34, sd38, fo38_0, Try.underlying3, sh38, sd90, pl90_0, pl90_1, pl90_2, ht1]
  obtain ⟨H, eH⟩ : ∃ H, H = h1.setIfInBounds c (.cells #[.bool true, .map (some m), ptr s 0] 88 (0, 0)) := ⟨_, rfl⟩
  rw [← eH]
  have oH : ∀ b, b ≠ c → b ≠ m → H[b]? = H0[b]? := fun b q1 q2 => by rw [eH, h_setN _ _ _ _ q1, o1 b q2]
  obtain ⟨es1, CH, ok1, hn0⟩ : ∃ es1, CR H c m n (ptr s 0) es1 ∧ (∀ e ∈ es1, e.ok M) ∧ ∀ x ∈ es1, (x.pc : Int) ≠ a := ⟨[], ⟨by rw [eH]; exact h_setS _ _ _ lc1, by rw [eH, h_setN _ _ _ _ hcm.symm]; exact C1.map, hcm, by simp, List.Pairwise.nil⟩, (fun e q => by cases q), (fun e q => by cases q)⟩
  have zH : H.size = h.size + 2 := by rw [eH]; simp; omega
  have htH := CH.top
  have hmH := CH.map
  have rH : MR H s M := r0.mono fun b f => oH b (fun q => hc (q ▸ f)) fun q => hm (q ▸ f)
  have b0H : H[h.size]? = some (.cells #[.int .i64 0, .int .i64 0, .int .i64 0, .int .i64 0, .int .i64 0, .int .i64 0, .int .i64 0] 34 (0, 0)) := by rw [oH _ (by omega) (by omega)]; exact b0
  have b1H : H[h.size + 1]? = some (.cells #[.int .i64 0, .int .i64 0, .int .u64 0] 38 (0, 0)) := by rw [oH _ (by omega) (by omega)]; exact b1
  have oldH : ∀ b, b < h.size → b ≠ c → b ≠ m → H[b]? = h[b]? := fun b hb q1 q2 => by rw [oH b q1 q2, K0.old b hb]
  have lmH : m < H.size := by omega
  refine obK.use _ (look_none Try.underlying86 Try.underlying26 ze90 hmH hn0 true) ?_
  simp -implicitDefEqProofs (disch := first | omega | (simp only [h_szP, h_szS]; done) | (simp only [h_szP, h_szS]; omega)) only [go_sem, Nat.reduceBEq, reduceCtorEq, Nat.reduceAdd, Int.reduceEq, Int.reduceLT, Int.reduceLE, Int.reduceMul, Int.reduceAdd, Int.reduceSub, reduceIte, Nat.reduceLeDiff, Nat.reduceLT, Nat.reduceMul, Nat.reduceSub, Int.reduceToNat, s12, zc34, zc38, Try.underlying31, fo88_0, sh4, sz34, sz38, fo88_2, sh23, Try.underlying23, sz23, fo88_1, sh86, Try.underlying86, Try.underlying26, ze90, zc90, sz90, fo90_0, fo34_6, sh3, fo90_1, sh26, fo90_2, sh34, sd38, fo38_0, Try.underlying3, sh38, sd90, pl90_0, pl90_1, pl90_2, htH]
  obtain ⟨H3, e3⟩ : ∃ H3, H3 = H.push (.cells #[.int .i64 0, .int .i64 0, .int .i64 0, .int .i64 0, .int .i64 0, .int .i64 0, .int .i64 0, .int .u64 0, .int .u64 0] 90) := ⟨_, rfl⟩
  rw [← e3]
  have o3 : ∀ b, b < h.size + 2 → b ≠ m → H3[b]? = H[b]? := fun b q1 q2 => by rw [e3, h_pushL _ _ _ (by omega)]
  obtain ⟨es2, C3, ok3, kn⟩ : ∃ es2, CR H3 c m n (ptr s 0) es2 ∧ (∀ e ∈ es2, e.ok M) ∧ ∀ x ∈ es2, (x.pc : Int) ≠ a := ⟨es1, CH.mono (by rw [e3, h_pushL _ _ _ (by omega)]) (by rw [e3, h_pushL _ _ _ (by omega)]), ok1, hn0⟩
  have z3 : H3.size = h.size + 3 := by rw [e3]; simp; omega
  rotate_left
  all_goals
    have ht3 := C3.top
    have hm3 := C3.map
    have r3 : MR H3 s M := rH.mono fun b f => o3 b (by have := r.lt f; omega) fun q => hm (q ▸ f)
    have b03 : H3[h.size]? = some (.cells #[.int .i64 0, .int .i64 0, .int .i64 0, .int .i64 0, .int .i64 0, .int .i64 0, .int .i64 0] 34 (0, 0)) := by rw [o3 _ (by omega) (by omega)]; exact b0H
    have b13 : H3[h.size + 1]? = some (.cells #[.int .i64 0, .int .i64 0, .int .u64 0] 38 (0, 0)) := by rw [o3 _ (by omega) (by omega)]; exact b1H
    have old3 : ∀ b, b < h.size → b ≠ c → b ≠ m → H3[b]? = h[b]? := fun b hb q1 q2 => by rw [o3 b (by omega) q2, oldH b hb q1 q2]
    refine FnK.use (cread_c a r3 ha) ?_
    intro x h4 ⟨e4, K4⟩
    rw [e4]
    have k4 := readF_kind (rs := M.rs) (B := memAt M) (a := a)
    have k5 := readF_ok (rs := M.rs) (B := memAt M) (a := a) (i := (readF M.rs (memAt M) a).1) r.wf ha
    obtain ⟨R1, hR1⟩ : ∃ R1, R1 = (readF M.rs (memAt M) a).1 := ⟨_, rfl⟩
    obtain ⟨R2, hR2⟩ : ∃ R2, R2 = (readF M.rs (memAt M) a).2 := ⟨_, rfl⟩
    have hR : readF M.rs (memAt M) a = (R1, R2) := by rw [hR1, hR2]
    rw [hR] at k4 k5 ⊢
    have C4 := C3.mono (K4.old c (by omega)) (K4.old m (by omega))
    have b04 := K4.at b03 (by omega)
    have b14 := K4.at b13 (by omega)
    have l4 := K4.size
    have ht4 := C4.top
    have hm4 := C4.map
    have r4 := r3.ext K4
    have old4 : ∀ b, b < h.size → b ≠ c → b ≠ m → h4[b]? = h[b]? := fun b hb q1 q2 => by rw [K4.old b (by omega), old3 b hb q1 q2]
    by_cases qk : R2.kind = 0
    rotate_left
    · have tk : (R2.kind = 0) = False := eq_false qk
      simp -implicitDefEqProofs (disch := first | omega | (simp only [h_szP, h_szS]; done) | (simp only [h_szP, h_szS]; omega)) only [go_sem, Nat.reduceBEq, reduceCtorEq, Nat.reduceAdd, Int.reduceEq, Int.reduceLT, Int.reduceLE, Int.reduceMul, Int.reduceAdd, Int.reduceSub, reduceIte, Nat.reduceLeDiff, Nat.reduceLT, Nat.reduceMul, Nat.reduceSub, Int.reduceToNat, s12, zc34, zc38, Try.underlying31, fo88_0, sh4, sz34, sz38, fo88_2, sh23, Try.underlying23, sz23, fo88_1, sh86, Try.underlying86, Try.underlying26, ze90, zc90, sz90, fo90_0, fo34_6, sh3, fo90_1, sh26, fo90_2, sh34, sd38, fo38_0, Try.underlying3, sh38, sd90, pl90_0, pl90_1, pl90_2, b04, b14, InstR.v, StopR.v, tk]
      try refine and_dup ?_
      refine ⟨n, es2, C4.mono (by repeat rw [h_setN _ _ _ _ (by omega)]) (by repeat rw [h_setN _ _ _ _ (by omega)]), ok3, by omega, fun b q1 q2 q3 => ?_⟩
      repeat rw [h_setN _ _ _ _ (by omega)]
      exact old4 b q1 q2 q3
    have eS := k4 qk
    subst eS
    obtain ⟨p1, p2, p3, _⟩ := k5 rfl
    have p2' : R1.size = 2 ∨ R1.size = 4 := p2
    have aE : a < 274877906944 := by omega
    clear p2 p3 k4 k5
    have lenE : ((entA .u64 (fun e : CE => (e.pc : Int)) CE.v CE.born es2).size : Int) = (es2.length : Int) := by simp [entA]
    obtain ⟨H5, e5⟩ : ∃ H5, H5 = (h4.setIfInBounds h.size (.cells #[.int .i64 R1.op, .int .i64 R1.rd, .int .i64 R1.rs1, .int .i64 R1.rs2, .int .i64 R1.imm, .int .i64 R1.order, .int .i64 R1.size] 34 (0, 0))).setIfInBounds (h.size + 1) (.cells #[.int .i64 0, .int .i64 0, .int .u64 0] 38 (0, 0)) := ⟨_, rfl⟩
    have o5 : ∀ b, b < h.size → H5[b]? = h4[b]? := fun b q => by rw [e5, h_setN _ _ _ _ (by omega), h_setN _ _ _ _ (by omega)]
    have b05 : H5[h.size]? = some (.cells #[.int .i64 R1.op, .int .i64 R1.rd, .int .i64 R1.rs1, .int .i64 R1.rs2, .int .i64 R1.imm, .int .i64 R1.order, .int .i64 R1.size] 34 (0, 0)) := by rw [e5, h_setN _ _ _ _ (by omega)]; exact h_setS _ _ _ (by omega)
    have b15 : H5[h.size + 1]? = some (.cells #[.int .i64 0, .int .i64 0, .int .u64 0] 38 (0, 0)) := by rw [e5]; exact h_setS _ _ _ (by simp; omega)
    have C5 := C4.mono (o5 c (by omega)) (o5 m (by omega))
    have z5 : H5.size = h4.size := by rw [e5]; simp
    by_cases ql : 4096 ≤ es2.length
    have dl : decide ((4096 : Int) ≤ (es2.length : Int)) = true := decide_eq_true (by omega)
    simp -implicitDefEqProofs (disch := first | omega | (simp only [h_szP, h_szS]; done) | (simp only [h_szP, h_szS]; omega)) only [go_sem, Nat.reduceBEq, reduceCtorEq, Nat.reduceAdd, Int.reduceEq, Int.reduceLT, Int.reduceLE, Int.reduceMul, Int.reduceAdd, Int.reduceSub, reduceIte, Nat.reduceLeDiff, Nat.reduceLT, Nat.reduceMul, Nat.reduceSub, Int.reduceToNat, s12, zc34, zc38, Try.underlying31, fo88_0, sh4, sz34, sz38, fo88_2, sh23, Try.underlying23, sz23, fo88_1, sh86, Try.underlying86, Try.underlying26, ze90, zc90, sz90, fo90_0, fo34_6, sh3, fo90_1, sh26, fo90_2, sh34, sd38, fo38_0, Try.underlying3, sh38, sd90, pl90_0, pl90_1, pl90_2, b04, b14, InstR.v, StopR.v, sOk, ht4, hm4, lenE, dl]
    rw [← e5]
    refine FnK.use (cclear_c C5) ?_
    intro x H6 ⟨C6, z6, o6⟩
    obtain ⟨es4, C7, ok7, kn7, le7⟩ : ∃ es4, CR H6 c m n (ptr s 0) es4 ∧ (∀ e ∈ es4, e.ok M) ∧ (∀ x ∈ es4, (x.pc : Int) ≠ a) ∧ es4.length < 4096 := ⟨[], C6, (fun e q => by cases q), (fun e q => by cases q), by simp⟩
    have ht6 := C7.top
    simp -implicitDefEqProofs (disch := first | omega | (simp only [h_szP, h_szS]; done) | (simp only [h_szP, h_szS]; omega)) only [go_sem, Nat.reduceBEq, reduceCtorEq, Nat.reduceAdd, Int.reduceEq, Int.reduceLT, Int.reduceLE, Int.reduceMul, Int.reduceAdd, Int.reduceSub, reduceIte, Nat.reduceLeDiff, Nat.reduceLT, Nat.reduceMul, Nat.reduceSub, Int.reduceToNat, s12, zc34, zc38, Try.underlying31, fo88_0, sh4, sz34, sz38, fo88_2, sh23, Try.underlying23, sz23, fo88_1, sh86, Try.underlying86, Try.underlying26, ze90, zc90, sz90, fo90_0, fo34_6, sh3, fo90_1, sh26, fo90_2, sh34, sd38, fo38_0, Try.underlying3, sh38, sd90, pl90_0, pl90_1, pl90_2, ht6]
    rotate_left
    have dl : decide ((4096 : Int) ≤ (es2.length : Int)) = false := decide_eq_false (by omega)
    simp -implicitDefEqProofs (disch := first | omega | (simp only [h_szP, h_szS]; done) | (simp only [h_szP, h_szS]; omega)) only [go_sem, Nat.reduceBEq, reduceCtorEq, Nat.reduceAdd, Int.reduceEq, Int.reduceLT, Int.reduceLE, Int.reduceMul, Int.reduceAdd, Int.reduceSub, reduceIte, Nat.reduceLeDiff, Nat.reduceLT, Nat.reduceMul, Nat.reduceSub, Int.reduceToNat, s12, zc34, zc38, Try.underlying31, fo88_0, sh4, sz34, sz38, fo88_2, sh23, Try.underlying23, sz23, fo88_1, sh86, Try.underlying86, Try.underlying26, ze90, zc90, sz90, fo90_0, fo34_6, sh3, fo90_1, sh26, fo90_2, sh34, sd38, fo38_0, Try.underlying3, sh38, sd90, pl90_0, pl90_1, pl90_2, b04, b14, InstR.v, StopR.v, sOk, ht4, hm4, lenE, dl]
    obtain ⟨H6, e6⟩ : ∃ H6, H6 = H5 := ⟨_, rfl⟩
    rw [← e5, ← e6]
    have o6 : ∀ b, b ≠ m → H6[b]? = H5[b]? := fun b _ => by rw [e6]
    have z6 : H6.size = H5.size := by rw [e6]
    obtain ⟨es4, C7, ok7, kn7, le7⟩ : ∃ es4, CR H6 c m n (ptr s 0) es4 ∧ (∀ e ∈ es4, e.ok M) ∧ (∀ x ∈ es4, (x.pc : Int) ≠ a) ∧ es4.length < 4096 := ⟨es2, by rw [e6]; exact C5, ok3, kn, by omega⟩
    rotate_left
  all_goals
    have ht6 := C7.top
    have hm6 := C7.map
    have b06 : H6[h.size]? = some (.cells #[.int .i64 R1.op, .int .i64 R1.rd, .int .i64 R1.rs1, .int .i64 R1.rs2, .int .i64 R1.imm, .int .i64 R1.order, .int .i64 R1.size] 34 (0, 0)) := by rw [o6 _ (by omega)]; exact b05
    have b16 : H6[h.size + 1]? = some (.cells #[.int .i64 0, .int .i64 0, .int .u64 0] 38 (0, 0)) := by rw [o6 _ (by omega)]; exact b15
    have r6 : MR H6 s M := r4.mono fun b f => by rw [o6 b (fun q => hm (q ▸ f)), o5 b (by have := r.lt f; omega)]
    try simp -implicitDefEqProofs (disch := first | omega | (simp only [h_szP, h_szS]; done) | (simp only [h_szP, h_szS]; omega)) only [go_sem, Nat.reduceBEq, reduceCtorEq, Nat.reduceAdd, Int.reduceEq, Int.reduceLT, Int.reduceLE, Int.reduceMul, Int.reduceAdd, Int.reduceSub, reduceIte, Nat.reduceLeDiff, Nat.reduceLT, Nat.reduceMul, Nat.reduceSub, Int.reduceToNat, s12, zc34, zc38, Try.underlying31, fo88_0, sh4, sz34, sz38, fo88_2, sh23, Try.underlying23, sz23, fo88_1, sh86, Try.underlying86, Try.underlying26, ze90, zc90, sz90, fo90_0, fo34_6, sh3, fo90_1, sh26, fo90_2, sh34, sd38, fo38_0, Try.underlying3, sh38, sd90, pl90_0, pl90_1, pl90_2, b06, b16, ht6]
    refine FnK.val (stamps_c a R1.size r6 aE p2') ?_
    simp -implicitDefEqProofs (disch := first | omega | (simp only [h_szP, h_szS]; done) | (simp only [h_szP, h_szS]; omega)) only [go_sem, Nat.reduceBEq, reduceCtorEq, Nat.reduceAdd, Int.reduceEq, Int.reduceLT, Int.reduceLE, Int.reduceMul, Int.reduceAdd, Int.reduceSub, reduceIte, Nat.reduceLeDiff, Nat.reduceLT, Nat.reduceMul, Nat.reduceSub, Int.reduceToNat, s12, zc34, zc38, Try.underlying31, fo88_0, sh4, sz34, sz38, fo88_2, sh23, Try.underlying23, sz23, fo88_1, sh86, Try.underlying86, Try.underlying26, ze90, zc90, sz90, fo90_0, fo34_6, sh3, fo90_1, sh26, fo90_2, sh34, sd38, fo38_0, Try.underlying3, sh38, sd90, pl90_0, pl90_1, pl90_2, b06, b16, ht6]
    refine mup_none Try.underlying86 Try.underlying26 hm6 kn7 ⟨a, R1, stampV M.D (a / 4096), stampV M.D (lastP a R1.size), n⟩ rfl ?_
    simp -implicitDefEqProofs (disch := first | omega | (simp only [h_szP, h_szS]; done) | (simp only [h_szP, h_szS]; omega)) only [go_sem, Nat.reduceBEq, reduceCtorEq, Nat.reduceAdd, Int.reduceEq, Int.reduceLT, Int.reduceLE, Int.reduceMul, Int.reduceAdd, Int.reduceSub, reduceIte, Nat.reduceLeDiff, Nat.reduceLT, Nat.reduceMul, Nat.reduceSub, Int.reduceToNat, s12, zc34, zc38, Try.underlying31, fo88_0, sh4, sz34, sz38, fo88_2, sh23, Try.underlying23, sz23, fo88_1, sh86, Try.underlying86, Try.underlying26, ze90, zc90, sz90, fo90_0, fo34_6, sh3, fo90_1, sh26, fo90_2, sh34, sd38, fo38_0, Try.underlying3, sh38, sd90, pl90_0, pl90_1, pl90_2, b06, b16, ht6]
    refine ⟨rfl, n + 1, es4 ++ [⟨a, R1, stampV M.D (a / 4096), stampV M.D (lastP a R1.size), n⟩], ⟨?_, ?_, hcm, by simp; omega, ?_⟩, ?_, by omega, ?_⟩
    · rw [h_setN _ _ _ _ (by omega), h_setN _ _ _ _ (by omega), h_setN _ _ _ _ hcm]; exact ht6
    · rw [h_setN _ _ _ _ (by omega), h_setN _ _ _ _ (by omega)]; exact h_setS _ _ _ (by omega)
    · exact List.pairwise_append.2 ⟨C7.keys, List.pairwise_singleton _ _, fun x hx y hy => by rw [List.mem_singleton.1 hy]; have := kn7 x hx; show x.pc ≠ a; omega⟩
    · intro e he
      rcases List.mem_append.1 he with z | z
      · exact ok7 e z
      · rw [List.mem_singleton.1 z]
        exact ⟨aE, p2', Nat.le_refl _, Nat.le_refl _, fun _ _ => hR⟩
    · intro b q1 q2 q3
      rw [h_setN _ _ _ _ (by omega), h_setN _ _ _ _ (by omega), h_setN _ _ _ _ q3, o6 b q3, o5 b q1, old4 b q1 q2 q3]
end Go.SX.G
