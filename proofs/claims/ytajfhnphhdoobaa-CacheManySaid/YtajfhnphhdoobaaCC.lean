/- The laws of the cache: what is asked first; CacheSpaces. No condition. -/
import Derived.Test.YtajfhnphhdoobaaCB
set_option linter.unusedVariables false
set_option linter.unusedSimpArgs false
namespace Go.SX.G
open Go Go.SX Go.Proofs
set_option maxRecDepth 100000
set_option maxHeartbeats 2000000
theorem ne_inst0 : (fun (x y : Operand) (a b c d e f g : Int) => binV Try.prog .neq 34 x y (.agg #[.int .i64 a, .int .i64 b, .int .i64 c, .int .i64 d, .int .i64 e, .int .i64 f, .int .i64 g]) (.agg #[.int .i64 a, .int .i64 b, .int .i64 c, .int .i64 d, .int .i64 e, .int .i64 f, .int .i64 g])) = fun x y a b c d e f g => some (.bool (!(decide (a = a) && (decide (b = b) && (decide (c = c) && (decide (d = d) && (decide (e = e) && (decide (f = f) && (decide (g = g) && true))))))))) := by kernel_rfl
theorem ne_inst (x y : Operand) (i : InstR) : binV Try.prog .neq 34 x y i.v i.v = some (.bool false) := by
  have := congrFun (congrFun (congrFun (congrFun (congrFun (congrFun (congrFun (congrFun (congrFun ne_inst0 x) y) i.op) i.rd) i.rs1) i.rs2) i.imm) i.order) i.size
  simp only [decide_true, Bool.and_self, Bool.not_true] at this
  exact this
theorem ne_instU (x y : Operand) (a b c d e f g : Int) : binV Try.prog .neq 34 x y (.agg #[.int .i64 a, .int .i64 b, .int .i64 c, .int .i64 d, .int .i64 e, .int .i64 f, .int .i64 g]) (.agg #[.int .i64 a, .int .i64 b, .int .i64 c, .int .i64 d, .int .i64 e, .int .i64 f, .int .i64 g]) = some (.bool false) := ne_inst x y ⟨a, b, c, d, e, f, g⟩
theorem ne_stopS0 : (fun (x y : Operand) (a b c : Int) => binV Try.prog .neq 38 x y (.agg #[.int .i64 a, .int .i64 b, .int .u64 c]) (.agg #[.int .i64 a, .int .i64 b, .int .u64 c])) = fun x y a b c => some (.bool (!(decide (a = a) && ((decide (b = b) && (decide (c = c) && true)) && true)))) := by kernel_rfl
theorem ne_stopS (x y : Operand) (s : StopR) : binV Try.prog .neq 38 x y s.v s.v = some (.bool false) := by
  have := congrFun (congrFun (congrFun (congrFun (congrFun ne_stopS0 x) y) s.kind) s.fk) s.fa
  simp only [decide_true, Bool.and_self, Bool.not_true] at this
  exact this
theorem ne_stopU (x y : Operand) (a b : Int) (c : Nat) : binV Try.prog .neq 38 x y (.agg #[.int .i64 a, .int .i64 b, .int .u64 c]) (.agg #[.int .i64 a, .int .i64 b, .int .u64 c]) = some (.bool false) := ne_stopS x y ⟨a, b, c⟩
/-- a space after something. -/
theorem Mapd.on {h h' : Heap} {s : Nat} {x : Value} {M : MemD} {a n : Nat} {p : Int} {fixed : Bool} (r : MR h s M) (m : Mapd h h' s x M a n p fixed) : ∃ M', MR h' s M' ∧ Fx (mfoot s M) (mfoot s M') h h' := by
  cases m with
  | bad c ex k => exact ⟨M, r.ext k, Fx.of k⟩
  | noroom c f w ex k => exact ⟨M, r.ext k, Fx.of k⟩
  | nospan c b hb w ex k => exact ⟨M, r.ext k, Fx.of k⟩
  | lay c b hb w y t ex =>
    cases t with
    | no c ex k => exact ⟨M, r.ext k, Fx.of k⟩
    | yes c1 c2 ey M' r rs byte most base fin fx sr => exact ⟨M', r, fx⟩
theorem MR.apart {h h' : Heap} {t : Nat} {N : MemD} {F F' : Nat → Prop} (r : MR h t N) (fx : Fx F F' h h') (ap : ∀ b, F b → ¬ mfoot t N b) : MR h' t N ∧ ∀ b, F' b → ¬ mfoot t N b := by
  refine ⟨r.mono fun b f => fx.old b (r.lt f) fun g => ap b g f, fun b f' g => ?_⟩
  have := r.lt g
  rcases fx.ft b f' with q | q
  · exact ap b q g
  · omega
theorem dec17669 : decodeL 17669 = ⟨22, 10, 0, 0, 1, 0, 2⟩ := by kernel_rfl
/-- the first instruction that is asked for. -/
theorem read17669 {rs : List Reg} {B : Nat → Nat} {a : Nat} (ha : a % 2 = 0) (F : FirstN rs a 2 4 none) (h0 : B a = 5) (h1 : B (a + 1) = 69) : readF rs B a = (⟨22, 10, 0, 0, 1, 0, 2⟩, sOk) := by
  have hf : fetchF rs B a = (17669, none) := by
    unfold fetchF
    rw [if_neg (by omega), ← F.eqF, h0, h1]
    rfl
  unfold readF
  rw [hf]
  have e : ((17669 : Nat) : Int) = 17669 := rfl
  simp only [e, dec17669]
  rfl
theorem answers10_c (h : Heap) : Fn Try.prog 8 [] h fun x h' => x = .bool true ∧ Keeps h.size h h' := by
  refine Fn_c Try.func8 mixed c8 (by kernel_rfl) ?_; rw [r8]
  simp -implicitDefEqProofs (disch := first | omega | (simp only [h_szP, h_szS]; done) | (simp only [h_szP, h_szS]; omega)) only [go_sem, Nat.reduceBEq, reduceCtorEq, Nat.reduceAdd, Int.reduceEq, Int.reduceLT, Int.reduceLE, Int.reduceMul, Int.reduceAdd, Int.reduceSub, reduceIte, Nat.reduceLeDiff, Nat.reduceLT, Nat.reduceMul, Nat.reduceSub, Int.reduceToNat, s8, sl22, ze5, by5, sz5, zc34, zc38, sz34, sz38, fo38_0, sh3, Try.underlying3, fo34_0, fo34_1]
  refine FnK.use (mnew_c h 2 (by omega)) ?_
  intro x h1 ⟨s, M, e1, R, K1, hF, m1, m2, m3, m4, m5, m6⟩
  rw [e1]
  simp -implicitDefEqProofs (disch := first | omega | (simp only [h_szP, h_szS]; done) | (simp only [h_szP, h_szS]; omega)) only [go_sem, Nat.reduceBEq, reduceCtorEq, Nat.reduceAdd, Int.reduceEq, Int.reduceLT, Int.reduceLE, Int.reduceMul, Int.reduceAdd, Int.reduceSub, reduceIte, Nat.reduceLeDiff, Nat.reduceLT, Nat.reduceMul, Nat.reduceSub, Int.reduceToNat, s8, sl22, ze5, by5, sz5, zc34, zc38, sz34, sz38, fo38_0, sh3, Try.underlying3, fo34_0, fo34_1]
  refine FnK.use (mmap_c 4096 4096 7 true R (by omega) (by omega)) ?_
  intro x h2 hx
  have hj : joL (wiL M.rs ⟨4096, 4096 + upN 4096, (7 : Int).toNat⟩) = [⟨4096, 8192, 7⟩] := by rw [m1]; decide
  cases hx with
  | bad c => exact absurd (by omega) c
  | noroom c f => cases f
  | nospan c b hb w => simp only [if_true] at hb; subst hb; exact absurd w (by decide)
  | lay c b hb w y t ex =>
  simp only [if_true] at hb
  subst hb
  cases t with
  | no c =>
    rw [hj] at c
    rcases c with c | c
    · simp at c
    · rw [m3] at c; exact absurd c (by decide)
  | yes c1 c2 ey M1 r rs byte most base fin fx sr =>
  rw [hj] at rs
  obtain ⟨K2, hF2⟩ := fx.own hF K1
  clear ex
  simp -implicitDefEqProofs (disch := first | omega | (simp only [h_szP, h_szS]; done) | (simp only [h_szP, h_szS]; omega)) only [go_sem, Nat.reduceBEq, reduceCtorEq, Nat.reduceAdd, Int.reduceEq, Int.reduceLT, Int.reduceLE, Int.reduceMul, Int.reduceAdd, Int.reduceSub, reduceIte, Nat.reduceLeDiff, Nat.reduceLT, Nat.reduceMul, Nat.reduceSub, Int.reduceToNat, s8, sl22, ze5, by5, sz5, zc34, zc38, sz34, sz38, fo38_0, sh3, Try.underlying3, fo34_0, fo34_1]
  have hv : Vs (h2.push (.cells #[.int .u8 5, .int .u8 69] 5)) (.slice (some ⟨h2.size, 0, none⟩) 2 2) encB 1 [5, 69] :=
    ⟨rfl, .inr ⟨h2.size, 0, 2, #[.int .u8 5, .int .u8 69], 5, _, rfl, Nat.le_refl _, h_pushE _ _ _ rfl, by simp, rfl⟩⟩
  have K3 := Keeps.push h2 (.cells #[.int .u8 5, .int .u8 69] 5) (Nat.le_refl _)
  have r3 := r.ext K3
  refine FnK.use (mput_c 4096 r3 (by omega) (by decide) hv (fun b e f => by have := r.lt f; simp only [blk, Option.some.injEq] at e; omega) (by decide)) ?_
  intro x h4 ⟨M2, P⟩
  have F : FirstN M2.rs 4096 2 4 none := by
    rw [P.rs, rs]
    refine .none fun i hi => ?_
    rcases (show i = 0 ∨ i = 1 by omega) with rfl | rfl <;> exact ⟨⟨4096, 8192, 7⟩, by decide, by decide⟩
  have at0 : (atL M1.rs 4096).isSome = true := by rw [rs]; decide
  have at1 : (atL M1.rs 4097).isSome = true := by rw [rs]; decide
  have h0 : memAt M2 4096 = 5 := by rw [P.byte, if_pos ⟨by decide, by decide, by decide, at0⟩]; rfl
  have h1' : memAt M2 (4096 + 1) = 69 := by rw [P.byte, if_pos ⟨by decide, by decide, by decide, at1⟩]; rfl
  have RD := read17669 (by decide) F h0 h1'
  obtain ⟨K4, hF4⟩ := P.g.fx.own (h0 := h) hF2 (K2.of_ext K3 (Nat.le_refl _))
  simp -implicitDefEqProofs (disch := first | omega | (simp only [h_szP, h_szS]; done) | (simp only [h_szP, h_szS]; omega)) only [go_sem, Nat.reduceBEq, reduceCtorEq, Nat.reduceAdd, Int.reduceEq, Int.reduceLT, Int.reduceLE, Int.reduceMul, Int.reduceAdd, Int.reduceSub, reduceIte, Nat.reduceLeDiff, Nat.reduceLT, Nat.reduceMul, Nat.reduceSub, Int.reduceToNat, s8, sl22, ze5, by5, sz5, zc34, zc38, sz34, sz38, fo38_0, sh3, Try.underlying3, fo34_0, fo34_1]
  refine FnK.use (cnew_c h4) ?_
  intro x h5 ⟨c, m, e5, C5, l5, n5, K5⟩
  rw [e5]
  have r5 := P.g.r.ext K5
  have s4 := K4.size
  simp -implicitDefEqProofs (disch := first | omega | (simp only [h_szP, h_szS]; done) | (simp only [h_szP, h_szS]; omega)) only [go_sem, Nat.reduceBEq, reduceCtorEq, Nat.reduceAdd, Int.reduceEq, Int.reduceLT, Int.reduceLE, Int.reduceMul, Int.reduceAdd, Int.reduceSub, reduceIte, Nat.reduceLeDiff, Nat.reduceLT, Nat.reduceMul, Nat.reduceSub, Int.reduceToNat, s8, sl22, ze5, by5, sz5, zc34, zc38, sz34, sz38, fo38_0, sh3, Try.underlying3, fo34_0, fo34_1]
  refine FnK.use (cfetch_on 4096 r5 (by omega) C5 (.inl rfl) (fun e => by cases e) (fun f => by have := P.g.r.lt f; omega) (fun f => by have := P.g.r.lt f; omega)) ?_
  intro x h6 ⟨e6, n6, es6, C6, ok6, z6, o6⟩
  rw [e6, RD]
  have s5 := K5.size
  have K6 : Keeps h.size h h6 := ⟨by omega, fun b hb => by rw [o6 b (by omega) (by omega) (by omega), K5.old b (by omega), K4.old b hb]⟩
  simp -implicitDefEqProofs (disch := first | omega | (simp only [h_szP, h_szS]; done) | (simp only [h_szP, h_szS]; omega)) only [go_sem, Nat.reduceBEq, reduceCtorEq, Nat.reduceAdd, Int.reduceEq, Int.reduceLT, Int.reduceLE, Int.reduceMul, Int.reduceAdd, Int.reduceSub, reduceIte, Nat.reduceLeDiff, Nat.reduceLT, Nat.reduceMul, Nat.reduceSub, Int.reduceToNat, s8, sl22, ze5, by5, sz5, zc34, zc38, sz34, sz38, fo38_0, sh3, Try.underlying3, fo34_0, fo34_1, InstR.v, StopR.v, sOk]
  repeat (first | exact K6 | refine Keeps.push' ?_ (by first | exact Nat.le_refl _ | omega) | refine Keeps.set' ?_ (by omega))
end Go.SX.G
