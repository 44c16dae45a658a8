/- The space: where, Map, Unmap, Protect, the heap's end. No condition but on sizes. -/
import Derived.Test.YtajfhnphhdoobaaMemC
set_option linter.unusedVariables false
set_option linter.unusedSimpArgs false
namespace Go.SX.G
open Go Go.SX Go.Proofs
set_option maxRecDepth 100000
set_option maxHeartbeats 2000000
theorem freeB_eq (rs : List Reg) (a e : Nat) : freeB rs a e = freeB' rs a e := rfl
theorem where_c {h : Heap} {s : Nat} {M : MemD} (a n : Nat) (r : MR h s M) (ha : a < 18446744073709551616) (hn : n ≤ 274877906944) :
    Fn Try.prog 25 [ptr s 0, .int .u64 a, .int .u64 n] h fun x h' => x = placeV (whereO M.rs a n) ∧ Keeps h.size h h' := by
  have ht := r.top
  have hlt := getElem?_lt ht
  have hlen := r.len
  have hroom : ∀ h1, Keeps h.size h h1 → Fn Try.prog 47 [ptr M.l 0, .int .u64 n, .int .u64 274877833216] h1 fun x h' => x = placeV (roomO M.rs n) ∧ h' = h1 := by
    intro h1 k
    exact room_c n 274877833216 (r.lr.ext k) (by omega) r.wf hn (by omega)
  cases hsp : spanO a n with
  | none =>
    have hw : whereO M.rs a n = roomO M.rs n := by unfold whereO; rw [hsp]
    refine Fn_c Try.func25 mixed c25 (by kernel_rfl) ?_; rw [r25]
    simp -implicitDefEqProofs (disch := first | omega | (simp only [h_szP, h_szS]; done) | (simp only [h_szP, h_szS]; omega)) only [go_sem, Nat.reduceBEq, reduceCtorEq, Nat.reduceAdd, Int.reduceEq, Int.reduceLT, Int.reduceLE, Int.reduceMul, Int.reduceAdd, Int.reduceSub, reduceIte, Nat.reduceLeDiff, Nat.reduceLT, Nat.reduceMul, Nat.reduceSub, Int.reduceToNat, s25, Try.underlying26, fo78_0, sh73]
    refine FnK.val (mspan_c h a n ha (by omega)) ?_
    rw [hsp, placeV_none]
    simp -implicitDefEqProofs (disch := first | omega | (simp only [h_szP, h_szS]; done) | (simp only [h_szP, h_szS]; omega)) only [go_sem, Nat.reduceBEq, reduceCtorEq, Nat.reduceAdd, Int.reduceEq, Int.reduceLT, Int.reduceLE, Int.reduceMul, Int.reduceAdd, Int.reduceSub, reduceIte, Nat.reduceLeDiff, Nat.reduceLT, Nat.reduceMul, Nat.reduceSub, Int.reduceToNat, s25, Try.underlying26, fo78_0, sh73, ht]
    refine FnK.val (hroom h Keeps.refl') ?_
    cases hr : roomO M.rs n with
    | none => rw [placeV_none]; simp -implicitDefEqProofs (disch := first | omega | (simp only [h_szP, h_szS]; done) | (simp only [h_szP, h_szS]; omega)) only [go_sem, Nat.reduceBEq, reduceCtorEq, Nat.reduceAdd, Int.reduceEq, Int.reduceLT, Int.reduceLE, Int.reduceMul, Int.reduceAdd, Int.reduceSub, reduceIte, Nat.reduceLeDiff, Nat.reduceLT, Nat.reduceMul, Nat.reduceSub, Int.reduceToNat, s25, Try.underlying26, fo78_0, sh73]; rw [hw, hr]; exact ⟨rfl, Keeps.refl'⟩
    | some b => rw [placeV_some]; simp -implicitDefEqProofs (disch := first | omega | (simp only [h_szP, h_szS]; done) | (simp only [h_szP, h_szS]; omega)) only [go_sem, Nat.reduceBEq, reduceCtorEq, Nat.reduceAdd, Int.reduceEq, Int.reduceLT, Int.reduceLE, Int.reduceMul, Int.reduceAdd, Int.reduceSub, reduceIte, Nat.reduceLeDiff, Nat.reduceLT, Nat.reduceMul, Nat.reduceSub, Int.reduceToNat, s25, Try.underlying26, fo78_0, sh73]; rw [hw, hr]; exact ⟨rfl, Keeps.refl'⟩
  | some e =>
    by_cases q0 : a = 0
    · have hw : whereO M.rs a n = roomO M.rs n := by unfold whereO; rw [hsp]; simp [q0]
      have hd : ((a : Int) = 0) = True := eq_true (by omega)
      refine Fn_c Try.func25 mixed c25 (by kernel_rfl) ?_; rw [r25]
      simp -implicitDefEqProofs (disch := first | omega | (simp only [h_szP, h_szS]; done) | (simp only [h_szP, h_szS]; omega)) only [go_sem, Nat.reduceBEq, reduceCtorEq, Nat.reduceAdd, Int.reduceEq, Int.reduceLT, Int.reduceLE, Int.reduceMul, Int.reduceAdd, Int.reduceSub, reduceIte, Nat.reduceLeDiff, Nat.reduceLT, Nat.reduceMul, Nat.reduceSub, Int.reduceToNat, s25, Try.underlying26, fo78_0, sh73]
      refine FnK.val (mspan_c h a n ha (by omega)) ?_
      rw [hsp, placeV_some]
      simp -implicitDefEqProofs (disch := first | omega | (simp only [h_szP, h_szS]; done) | (simp only [h_szP, h_szS]; omega)) only [go_sem, Nat.reduceBEq, reduceCtorEq, Nat.reduceAdd, Int.reduceEq, Int.reduceLT, Int.reduceLE, Int.reduceMul, Int.reduceAdd, Int.reduceSub, reduceIte, Nat.reduceLeDiff, Nat.reduceLT, Nat.reduceMul, Nat.reduceSub, Int.reduceToNat, s25, Try.underlying26, fo78_0, sh73, ht, hd]
      refine FnK.val (hroom h Keeps.refl') ?_
      cases hr : roomO M.rs n with
      | none => rw [placeV_none]; simp -implicitDefEqProofs (disch := first | omega | (simp only [h_szP, h_szS]; done) | (simp only [h_szP, h_szS]; omega)) only [go_sem, Nat.reduceBEq, reduceCtorEq, Nat.reduceAdd, Int.reduceEq, Int.reduceLT, Int.reduceLE, Int.reduceMul, Int.reduceAdd, Int.reduceSub, reduceIte, Nat.reduceLeDiff, Nat.reduceLT, Nat.reduceMul, Nat.reduceSub, Int.reduceToNat, s25, Try.underlying26, fo78_0, sh73]; rw [hw, hr]; exact ⟨rfl, Keeps.refl'⟩
      | some b => rw [placeV_some]; simp -implicitDefEqProofs (disch := first | omega | (simp only [h_szP, h_szS]; done) | (simp only [h_szP, h_szS]; omega)) only [go_sem, Nat.reduceBEq, reduceCtorEq, Nat.reduceAdd, Int.reduceEq, Int.reduceLT, Int.reduceLE, Int.reduceMul, Int.reduceAdd, Int.reduceSub, reduceIte, Nat.reduceLeDiff, Nat.reduceLT, Nat.reduceMul, Nat.reduceSub, Int.reduceToNat, s25, Try.underlying26, fo78_0, sh73]; rw [hw, hr]; exact ⟨rfl, Keeps.refl'⟩
    · have hd : ((a : Int) = 0) = False := eq_false (by omega)
      refine Fn_c Try.func25 mixed c25 (by kernel_rfl) ?_; rw [r25]
      simp -implicitDefEqProofs (disch := first | omega | (simp only [h_szP, h_szS]; done) | (simp only [h_szP, h_szS]; omega)) only [go_sem, Nat.reduceBEq, reduceCtorEq, Nat.reduceAdd, Int.reduceEq, Int.reduceLT, Int.reduceLE, Int.reduceMul, Int.reduceAdd, Int.reduceSub, reduceIte, Nat.reduceLeDiff, Nat.reduceLT, Nat.reduceMul, Nat.reduceSub, Int.reduceToNat, s25, Try.underlying26, fo78_0, sh73]
      refine FnK.val (mspan_c h a n ha (by omega)) ?_
      rw [hsp, placeV_some]
      simp -implicitDefEqProofs (disch := first | omega | (simp only [h_szP, h_szS]; done) | (simp only [h_szP, h_szS]; omega)) only [go_sem, Nat.reduceBEq, reduceCtorEq, Nat.reduceAdd, Int.reduceEq, Int.reduceLT, Int.reduceLE, Int.reduceMul, Int.reduceAdd, Int.reduceSub, reduceIte, Nat.reduceLeDiff, Nat.reduceLT, Nat.reduceMul, Nat.reduceSub, Int.reduceToNat, s25, Try.underlying26, fo78_0, sh73, ht, hd]
      refine FnK.use (free_c a e r.lr (by omega)) ?_
      intro x h1 hx
      obtain ⟨e1, K1⟩ := hx
      rw [e1, freeB_eq]
      have ht1 := K1.at ht hlt
      cases hf : freeB' M.rs a e with
      | true =>
        have hw : whereO M.rs a n = some a := by unfold whereO; rw [hsp]; simp [q0, hf]
        simp -implicitDefEqProofs (disch := first | omega | (simp only [h_szP, h_szS]; done) | (simp only [h_szP, h_szS]; omega)) only [go_sem, Nat.reduceBEq, reduceCtorEq, Nat.reduceAdd, Int.reduceEq, Int.reduceLT, Int.reduceLE, Int.reduceMul, Int.reduceAdd, Int.reduceSub, reduceIte, Nat.reduceLeDiff, Nat.reduceLT, Nat.reduceMul, Nat.reduceSub, Int.reduceToNat, s25, Try.underlying26, fo78_0, sh73, ht1]
        rw [hw]; exact ⟨rfl, K1⟩
      | false =>
        have hw : whereO M.rs a n = roomO M.rs n := by unfold whereO; rw [hsp]; simp [hf]
        simp -implicitDefEqProofs (disch := first | omega | (simp only [h_szP, h_szS]; done) | (simp only [h_szP, h_szS]; omega)) only [go_sem, Nat.reduceBEq, reduceCtorEq, Nat.reduceAdd, Int.reduceEq, Int.reduceLT, Int.reduceLE, Int.reduceMul, Int.reduceAdd, Int.reduceSub, reduceIte, Nat.reduceLeDiff, Nat.reduceLT, Nat.reduceMul, Nat.reduceSub, Int.reduceToNat, s25, Try.underlying26, fo78_0, sh73, ht1]
        refine FnK.val (hroom h1 K1) ?_
        cases hr : roomO M.rs n with
        | none => rw [placeV_none]; simp -implicitDefEqProofs (disch := first | omega | (simp only [h_szP, h_szS]; done) | (simp only [h_szP, h_szS]; omega)) only [go_sem, Nat.reduceBEq, reduceCtorEq, Nat.reduceAdd, Int.reduceEq, Int.reduceLT, Int.reduceLE, Int.reduceMul, Int.reduceAdd, Int.reduceSub, reduceIte, Nat.reduceLeDiff, Nat.reduceLT, Nat.reduceMul, Nat.reduceSub, Int.reduceToNat, s25, Try.underlying26, fo78_0, sh73]; rw [hw, hr]; exact ⟨rfl, K1⟩
        | some b => rw [placeV_some]; simp -implicitDefEqProofs (disch := first | omega | (simp only [h_szP, h_szS]; done) | (simp only [h_szP, h_szS]; omega)) only [go_sem, Nat.reduceBEq, reduceCtorEq, Nat.reduceAdd, Int.reduceEq, Int.reduceLT, Int.reduceLE, Int.reduceMul, Int.reduceAdd, Int.reduceSub, reduceIte, Nat.reduceLeDiff, Nat.reduceLT, Nat.reduceMul, Nat.reduceSub, Int.reduceToNat, s25, Try.underlying26, fo78_0, sh73]; rw [hw, hr]; exact ⟨rfl, K1⟩
def numE (a e : Nat) : Value := .tuple #[.int .u64 a, .int .i64 e]
/-- what Map comes to. -/
inductive Mapd (h h' : Heap) (s : Nat) (x : Value) (M : MemD) (a n : Nat) (p : Int) (fixed : Bool) : Prop
  | bad (c : ¬ (a % 4096 = 0 ∧ n ≠ 0 ∧ n ≤ 274877906944 ∧ 0 ≤ p ∧ p ≤ 7)) (ex : x = numE 0 22) (k : Keeps h.size h h')
  | noroom (c : a % 4096 = 0 ∧ n ≠ 0 ∧ n ≤ 274877906944 ∧ 0 ≤ p ∧ p ≤ 7) (f : fixed = false) (w : whereO M.rs a n = none) (ex : x = numE 0 12) (k : Keeps h.size h h')
  | nospan (c : a % 4096 = 0 ∧ n ≠ 0 ∧ n ≤ 274877906944 ∧ 0 ≤ p ∧ p ≤ 7) (b : Nat) (hb : if fixed then b = a else whereO M.rs a n = some b) (w : spanO b n = none) (ex : x = numE 0 22) (k : Keeps h.size h h')
  | lay (c : a % 4096 = 0 ∧ n ≠ 0 ∧ n ≤ 274877906944 ∧ 0 ≤ p ∧ p ≤ 7) (b : Nat) (hb : if fixed then b = a else whereO M.rs a n = some b) (w : spanO b n = some (b + upN n)) (y : Value) (t : Laid h h' s y M b (b + upN n) p.toNat) (ex : (y = .int .i64 12 ∧ x = numE 0 12) ∨ (y = .int .i64 0 ∧ x = numE b 0))
theorem Laid.widen {h0 h h' : Heap} {s : Nat} {x : Value} {M : MemD} {a e p : Nat} (k : Keeps h0.size h0 h) (t : Laid h h' s x M a e p) : Laid h0 h' s x M a e p := by
  cases t with
  | no c ex q => exact .no c ex (k.of_ext q (Nat.le_refl _))
  | yes c1 c2 ex M' r rs byte most base fin fx sr => exact .yes c1 c2 ex M' r rs byte most base fin ((Fx.of k).trans fx) sr
theorem mmap_c {h : Heap} {s : Nat} {M : MemD} (a n : Nat) (p : Int) (fixed : Bool) (r : MR h s M) (ha : a < 18446744073709551616) (hn : n < 18446744073709551616) :
    Fn Try.prog 9 [ptr s 0, .int .u64 a, .int .u64 n, .int .i64 p, .bool fixed] h fun x h' => Mapd h h' s x M a n p fixed := by
  by_cases hc : a % 4096 = 0 ∧ n ≠ 0 ∧ n ≤ 274877906944 ∧ 0 ≤ p ∧ p ≤ 7
  · obtain ⟨c1, c2, c3, c4, c5⟩ := id hc
    obtain ⟨pn, rfl⟩ := Int.eq_ofNat_of_zero_le c4
    have hd1 : ((a : Int) % 4096 = 0) = True := eq_true (by omega)
    have hd2 : ((n : Int) = 0) = False := eq_false (by omega)
    have hd3 : decide ((274877906944 : Int) < n) = false := decide_eq_false (by omega)
    have hd4 : decide ((pn : Int) < 0) = false := decide_eq_false (by omega)
    have hd5 : decide ((7 : Int) < pn) = false := decide_eq_false (by omega)
    cases fixed with
    | true =>
      refine Fn_c Try.func9 mixed c9 (by kernel_rfl) ?_; rw [r9]
      simp -implicitDefEqProofs (disch := first | omega | (simp only [h_szP, h_szS]; done) | (simp only [h_szP, h_szS]; omega)) only [go_sem, Nat.reduceBEq, reduceCtorEq, Nat.reduceAdd, Int.reduceEq, Int.reduceLT, Int.reduceLE, Int.reduceMul, Int.reduceAdd, Int.reduceSub, reduceIte, Nat.reduceLeDiff, Nat.reduceLT, Nat.reduceMul, Nat.reduceSub, Int.reduceToNat, s9, Try.underlying23, Try.underlying26, Try.underlying3, Try.underlying27, hd1, hd2, hd3, hd4, hd5]
      refine FnK.val (mspan_c h a n ha hn) ?_
      cases hsp : spanO a n with
      | none =>
        rw [placeV_none]
        simp -implicitDefEqProofs (disch := first | omega | (simp only [h_szP, h_szS]; done) | (simp only [h_szP, h_szS]; omega)) only [go_sem, Nat.reduceBEq, reduceCtorEq, Nat.reduceAdd, Int.reduceEq, Int.reduceLT, Int.reduceLE, Int.reduceMul, Int.reduceAdd, Int.reduceSub, reduceIte, Nat.reduceLeDiff, Nat.reduceLT, Nat.reduceMul, Nat.reduceSub, Int.reduceToNat, s9, Try.underlying23, Try.underlying26, Try.underlying3, Try.underlying27]
        exact .nospan hc a rfl hsp rfl Keeps.refl'
      | some e =>
        rw [placeV_some]
        obtain ⟨q1, q2, _⟩ := spanO_some hsp
        subst q2
        simp -implicitDefEqProofs (disch := first | omega | (simp only [h_szP, h_szS]; done) | (simp only [h_szP, h_szS]; omega)) only [go_sem, Nat.reduceBEq, reduceCtorEq, Nat.reduceAdd, Int.reduceEq, Int.reduceLT, Int.reduceLE, Int.reduceMul, Int.reduceAdd, Int.reduceSub, reduceIte, Nat.reduceLeDiff, Nat.reduceLT, Nat.reduceMul, Nat.reduceSub, Int.reduceToNat, s9, Try.underlying23, Try.underlying26, Try.underlying3, Try.underlying27]
        refine FnK.use (lay_c a _ pn r q1 (by omega)) ?_
        intro y h2 hy
        cases id hy with
        | no c ex k => rw [ex] at hy ⊢; simp -implicitDefEqProofs (disch := first | omega | (simp only [h_szP, h_szS]; done) | (simp only [h_szP, h_szS]; omega)) only [go_sem, Nat.reduceBEq, reduceCtorEq, Nat.reduceAdd, Int.reduceEq, Int.reduceLT, Int.reduceLE, Int.reduceMul, Int.reduceAdd, Int.reduceSub, reduceIte, Nat.reduceLeDiff, Nat.reduceLT, Nat.reduceMul, Nat.reduceSub, Int.reduceToNat, s9, Try.underlying23, Try.underlying26, Try.underlying3, Try.underlying27]; exact .lay hc a rfl hsp _ hy (.inl ⟨rfl, rfl⟩)
        | yes c1 c2 ex => rw [ex] at hy ⊢; simp -implicitDefEqProofs (disch := first | omega | (simp only [h_szP, h_szS]; done) | (simp only [h_szP, h_szS]; omega)) only [go_sem, Nat.reduceBEq, reduceCtorEq, Nat.reduceAdd, Int.reduceEq, Int.reduceLT, Int.reduceLE, Int.reduceMul, Int.reduceAdd, Int.reduceSub, reduceIte, Nat.reduceLeDiff, Nat.reduceLT, Nat.reduceMul, Nat.reduceSub, Int.reduceToNat, s9, Try.underlying23, Try.underlying26, Try.underlying3, Try.underlying27]; exact .lay hc a rfl hsp _ hy (.inr ⟨rfl, rfl⟩)
    | false =>
      refine Fn_c Try.func9 mixed c9 (by kernel_rfl) ?_; rw [r9]
      simp -implicitDefEqProofs (disch := first | omega | (simp only [h_szP, h_szS]; done) | (simp only [h_szP, h_szS]; omega)) only [go_sem, Nat.reduceBEq, reduceCtorEq, Nat.reduceAdd, Int.reduceEq, Int.reduceLT, Int.reduceLE, Int.reduceMul, Int.reduceAdd, Int.reduceSub, reduceIte, Nat.reduceLeDiff, Nat.reduceLT, Nat.reduceMul, Nat.reduceSub, Int.reduceToNat, s9, Try.underlying23, Try.underlying26, Try.underlying3, Try.underlying27, hd1, hd2, hd3, hd4, hd5]
      refine FnK.use (where_c a n r ha c3) ?_
      intro x h1 hx
      obtain ⟨e1, K1⟩ := hx
      rw [e1]
      cases hw : whereO M.rs a n with
      | none =>
        rw [placeV_none]
        simp -implicitDefEqProofs (disch := first | omega | (simp only [h_szP, h_szS]; done) | (simp only [h_szP, h_szS]; omega)) only [go_sem, Nat.reduceBEq, reduceCtorEq, Nat.reduceAdd, Int.reduceEq, Int.reduceLT, Int.reduceLE, Int.reduceMul, Int.reduceAdd, Int.reduceSub, reduceIte, Nat.reduceLeDiff, Nat.reduceLT, Nat.reduceMul, Nat.reduceSub, Int.reduceToNat, s9, Try.underlying23, Try.underlying26, Try.underlying3, Try.underlying27]
        exact .noroom hc rfl hw rfl K1
      | some b =>
        rw [placeV_some]
        simp -implicitDefEqProofs (disch := first | omega | (simp only [h_szP, h_szS]; done) | (simp only [h_szP, h_szS]; omega)) only [go_sem, Nat.reduceBEq, reduceCtorEq, Nat.reduceAdd, Int.reduceEq, Int.reduceLT, Int.reduceLE, Int.reduceMul, Int.reduceAdd, Int.reduceSub, reduceIte, Nat.reduceLeDiff, Nat.reduceLT, Nat.reduceMul, Nat.reduceSub, Int.reduceToNat, s9, Try.underlying23, Try.underlying26, Try.underlying3, Try.underlying27]
        have hb : b < 18446744073709551616 := by have := whereO_lt hw; omega
        refine FnK.val (mspan_c h1 b n hb hn) ?_
        cases hsp : spanO b n with
        | none =>
          rw [placeV_none]
          simp -implicitDefEqProofs (disch := first | omega | (simp only [h_szP, h_szS]; done) | (simp only [h_szP, h_szS]; omega)) only [go_sem, Nat.reduceBEq, reduceCtorEq, Nat.reduceAdd, Int.reduceEq, Int.reduceLT, Int.reduceLE, Int.reduceMul, Int.reduceAdd, Int.reduceSub, reduceIte, Nat.reduceLeDiff, Nat.reduceLT, Nat.reduceMul, Nat.reduceSub, Int.reduceToNat, s9, Try.underlying23, Try.underlying26, Try.underlying3, Try.underlying27]
          exact .nospan hc b hw hsp rfl K1
        | some e =>
          rw [placeV_some]
          obtain ⟨q1, q2, _⟩ := spanO_some hsp
          subst q2
          simp -implicitDefEqProofs (disch := first | omega | (simp only [h_szP, h_szS]; done) | (simp only [h_szP, h_szS]; omega)) only [go_sem, Nat.reduceBEq, reduceCtorEq, Nat.reduceAdd, Int.reduceEq, Int.reduceLT, Int.reduceLE, Int.reduceMul, Int.reduceAdd, Int.reduceSub, reduceIte, Nat.reduceLeDiff, Nat.reduceLT, Nat.reduceMul, Nat.reduceSub, Int.reduceToNat, s9, Try.underlying23, Try.underlying26, Try.underlying3, Try.underlying27]
          refine FnK.use (lay_c b _ pn (r.ext K1) q1 (by omega)) ?_
          intro y h2 hy
          have hy2 := hy.widen K1
          cases hy with
          | no c ex k => rw [ex] at hy2 ⊢; simp -implicitDefEqProofs (disch := first | omega | (simp only [h_szP, h_szS]; done) | (simp only [h_szP, h_szS]; omega)) only [go_sem, Nat.reduceBEq, reduceCtorEq, Nat.reduceAdd, Int.reduceEq, Int.reduceLT, Int.reduceLE, Int.reduceMul, Int.reduceAdd, Int.reduceSub, reduceIte, Nat.reduceLeDiff, Nat.reduceLT, Nat.reduceMul, Nat.reduceSub, Int.reduceToNat, s9, Try.underlying23, Try.underlying26, Try.underlying3, Try.underlying27]; exact .lay hc b hw hsp _ hy2 (.inl ⟨rfl, rfl⟩)
          | yes c1 c2 ex => rw [ex] at hy2 ⊢; simp -implicitDefEqProofs (disch := first | omega | (simp only [h_szP, h_szS]; done) | (simp only [h_szP, h_szS]; omega)) only [go_sem, Nat.reduceBEq, reduceCtorEq, Nat.reduceAdd, Int.reduceEq, Int.reduceLT, Int.reduceLE, Int.reduceMul, Int.reduceAdd, Int.reduceSub, reduceIte, Nat.reduceLeDiff, Nat.reduceLT, Nat.reduceMul, Nat.reduceSub, Int.reduceToNat, s9, Try.underlying23, Try.underlying26, Try.underlying3, Try.underlying27]; exact .lay hc b hw hsp _ hy2 (.inr ⟨rfl, rfl⟩)
  · have hbad : ∀ h', Keeps h.size h h' → Mapd h h' s (numE 0 22) M a n p fixed := fun h' k => .bad hc rfl k
    refine Fn_c Try.func9 mixed c9 (by kernel_rfl) ?_; rw [r9]
    simp -implicitDefEqProofs (disch := first | omega | (simp only [h_szP, h_szS]; done) | (simp only [h_szP, h_szS]; omega)) only [go_sem, Nat.reduceBEq, reduceCtorEq, Nat.reduceAdd, Int.reduceEq, Int.reduceLT, Int.reduceLE, Int.reduceMul, Int.reduceAdd, Int.reduceSub, reduceIte, Nat.reduceLeDiff, Nat.reduceLT, Nat.reduceMul, Nat.reduceSub, Int.reduceToNat, s9, Try.underlying23, Try.underlying26, Try.underlying3, Try.underlying27]
    repeat' first | intro _ | refine And.intro ?_ ?_
    all_goals first | exact hbad h Keeps.refl' | (exfalso; apply hc; omega)
end Go.SX.G
