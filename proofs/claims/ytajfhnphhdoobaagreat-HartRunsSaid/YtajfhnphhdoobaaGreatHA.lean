/- Walks of the simulated operators (Width, Do) and their contracts. No condition. An atomic instruction, by the program. No condition but on sizes. A machine's step as one function; what is reckoned with, loads and stores. No condition but on ranges. -/
import Derived.Test.YtajfhnphhdoobaaGreatSxP
import Derived.Test.YtajfhnphhdoobaaGreatGen
import Derived.Test.YtajfhnphhdoobaaGreatPlainB
import Derived.Test.YtajfhnphhdoobaaGreatMem
import Derived.Test.YtajfhnphhdoobaaGreatAL
import Derived.Test.YtajfhnphhdoobaaGreatC
set_option linter.unusedVariables false
set_option linter.unusedSimpArgs false
namespace Go.SX.G
open Go Go.SX Go.Proofs
set_option maxRecDepth 100000
set_option maxHeartbeats 8000000
def widthI (op : Int) : Int := if 63 ≤ op ∧ op ≤ 73 then 4 else if 74 ≤ op ∧ op ≤ 84 then 8 else 0
theorem width_c (op : Int) (h : Heap) : Fn Tryz.prog 169 [.int .i64 op] h fun v h' => v = .int .i64 (widthI op) ∧ h' = h := by
  refine Fn_c Tryz.func169 mixed c169 (by kernel_rfl) ?_; rw [r169]
  refine gs1 @Value.int.injEq ?_; (try with_reducible exact trivial)
  unfold widthI
  refine ⟨fun a => ⟨fun b => ?_, fun b => ⟨fun c => ⟨fun d => ?_, fun d => ?_⟩, fun c => ?_⟩⟩, fun a => ⟨fun c => ⟨fun d => ?_, fun d => ?_⟩, fun c => ?_⟩⟩ <;> (split <;> (try split) <;> omega)
theorem base_c (op : Int) (h : Heap) (h1 : op ≤ 84) : Fn Tryz.prog 170 [.int .i64 op] h fun v h' => v = .int .i64 (if 74 ≤ op then op - 11 else op) ∧ h' = h := by
  refine Fn_c Tryz.func170 mixed c170 (by kernel_rfl) ?_; rw [r170]
  refine gs1 @Value.int.injEq ?_; (try with_reducible exact trivial)
  refine ⟨fun a => ?_, fun a => ?_⟩
  · refine gs1 @Value.int.injEq ?_; (try with_reducible exact trivial); omega
  · refine gs0 ?_; (try with_reducible exact trivial)
theorem sext_c (x : BitVec 64) (n : Int) (h0 : 1 ≤ n) (h1 : n ≤ 64) (h : Heap) : Fn Tryz.prog 134 [U x, .int .i64 n] h fun v h' => v = U ((x <<< (64 - n).toNat).sshiftRight (64 - n).toNat) ∧ h' = h := by
  obtain ⟨m, hm⟩ : ∃ m : Nat, (64 : Int) - n = m := ⟨(64 - n).toNat, by omega⟩
  have hm' : m ≤ 64 := by omega
  refine Fn_c Tryz.func134 mixed c134 (by kernel_rfl) ?_; rw [r134]
  refine gs6 @Value.int.injEq @hm @bv_shl @bv_i64 @bv_sar @bv_u64 ?_; (try with_reducible exact trivial)
  exact ⟨fun a => absurd a (by omega), fun _ a => absurd a (by omega)⟩
theorem do_4 (op : Int) (h0 : 63 ≤ op) (h1 : op ≤ 73) (A X : BitVec 64) (h : Heap) : Fn Tryz.prog 173 [.int .i64 op, U A, U X] h fun v h' => v = told (amo M4 op (A &&& M4) (X &&& M4) (sx4 (A &&& M4)) (sx4 (X &&& M4))) ∧ h' = h := by
  have hw : widthI op = 4 := by unfold widthI; rw [if_pos ⟨h0, h1⟩]
  refine Fn_c Tryz.func173 mixed c173 (by kernel_rfl) ?_; rw [r173]
  refine gs0 ?_; (try with_reducible exact trivial)
  refine FnK.val (width_c op _) ?_
  rw [hw]
  simp -implicitDefEqProofs (disch := first | omega | (simp only [h_szP, h_szS]; done) | (simp only [h_szP, h_szS]; omega)) only [go_sem, Nat.reduceBEq, reduceCtorEq, Nat.reduceAdd, Int.reduceEq, Int.reduceLT, Int.reduceLE, Int.reduceMul, Int.reduceAdd, Int.reduceSub, reduceIte, Nat.reduceLeDiff, Nat.reduceLT, Nat.reduceMul, Nat.reduceSub, Int.reduceToNat, mask4, bv_and]
  refine FnK.val (sext_c _ 32 (by omega) (by omega) _) ?_
  simp -implicitDefEqProofs (disch := first | omega | (simp only [h_szP, h_szS]; done) | (simp only [h_szP, h_szS]; omega)) only [go_sem, Nat.reduceBEq, reduceCtorEq, Nat.reduceAdd, Int.reduceEq, Int.reduceLT, Int.reduceLE, Int.reduceMul, Int.reduceAdd, Int.reduceSub, reduceIte, Nat.reduceLeDiff, Nat.reduceLT, Nat.reduceMul, Nat.reduceSub, Int.reduceToNat, mask4, bv_and]
  refine FnK.val (sext_c _ 32 (by omega) (by omega) _) ?_
  simp -implicitDefEqProofs (disch := first | omega | (simp only [h_szP, h_szS]; done) | (simp only [h_szP, h_szS]; omega)) only [go_sem, Nat.reduceBEq, reduceCtorEq, Nat.reduceAdd, Int.reduceEq, Int.reduceLT, Int.reduceLE, Int.reduceMul, Int.reduceAdd, Int.reduceSub, reduceIte, Nat.reduceLeDiff, Nat.reduceLT, Nat.reduceMul, Nat.reduceSub, Int.reduceToNat, mask4, bv_and, bv_i64, bv_lti, bv_lei]
  refine ⟨fun a => ⟨fun b => ?_, fun b => ?_⟩, fun a => ⟨fun b => ?_, fun b => ?_⟩⟩ <;>
    (refine FnK.val (base_c op _ (by omega)) ?_
     simp -implicitDefEqProofs (disch := first | omega | (simp only [h_szP, h_szS]; done) | (simp only [h_szP, h_szS]; omega)) only [go_sem, Nat.reduceBEq, reduceCtorEq, Nat.reduceAdd, Int.reduceEq, Int.reduceLT, Int.reduceLE, Int.reduceMul, Int.reduceAdd, Int.reduceSub, reduceIte, Nat.reduceLeDiff, Nat.reduceLT, Nat.reduceMul, Nat.reduceSub, Int.reduceToNat, mask4, bv_and, bv_i64, bv_add, bv_xor, bv_or, tmin, tmax])
  all_goals
    repeat' first | (refine And.intro ?_ ?_) | (intro hh)
  all_goals simp only [amo, told, sx4, *, if_true, if_false, reduceIte, Int.reduceEq]
theorem do_8 (op : Int) (h0 : 74 ≤ op) (h1 : op ≤ 84) (A X : BitVec 64) (h : Heap) : Fn Tryz.prog 173 [.int .i64 op, U A, U X] h fun v h' => v = told (amo M8 (op - 11) (A &&& M8) (X &&& M8) (sx8 (A &&& M8)) (sx8 (X &&& M8))) ∧ h' = h := by
  have hw : widthI op = 8 := by unfold widthI; rw [if_neg (by omega), if_pos ⟨h0, h1⟩]
  refine Fn_c Tryz.func173 mixed c173 (by kernel_rfl) ?_; rw [r173]
  refine gs0 ?_; (try with_reducible exact trivial)
  refine FnK.val (width_c op _) ?_
  rw [hw]
  simp -implicitDefEqProofs (disch := first | omega | (simp only [h_szP, h_szS]; done) | (simp only [h_szP, h_szS]; omega)) only [go_sem, Nat.reduceBEq, reduceCtorEq, Nat.reduceAdd, Int.reduceEq, Int.reduceLT, Int.reduceLE, Int.reduceMul, Int.reduceAdd, Int.reduceSub, reduceIte, Nat.reduceLeDiff, Nat.reduceLT, Nat.reduceMul, Nat.reduceSub, Int.reduceToNat, mask8, bv_and]
  refine FnK.val (sext_c _ 64 (by omega) (by omega) _) ?_
  simp -implicitDefEqProofs (disch := first | omega | (simp only [h_szP, h_szS]; done) | (simp only [h_szP, h_szS]; omega)) only [go_sem, Nat.reduceBEq, reduceCtorEq, Nat.reduceAdd, Int.reduceEq, Int.reduceLT, Int.reduceLE, Int.reduceMul, Int.reduceAdd, Int.reduceSub, reduceIte, Nat.reduceLeDiff, Nat.reduceLT, Nat.reduceMul, Nat.reduceSub, Int.reduceToNat, mask8, bv_and]
  refine FnK.val (sext_c _ 64 (by omega) (by omega) _) ?_
  simp -implicitDefEqProofs (disch := first | omega | (simp only [h_szP, h_szS]; done) | (simp only [h_szP, h_szS]; omega)) only [go_sem, Nat.reduceBEq, reduceCtorEq, Nat.reduceAdd, Int.reduceEq, Int.reduceLT, Int.reduceLE, Int.reduceMul, Int.reduceAdd, Int.reduceSub, reduceIte, Nat.reduceLeDiff, Nat.reduceLT, Nat.reduceMul, Nat.reduceSub, Int.reduceToNat, mask8, bv_and, bv_i64, bv_lti, bv_lei]
  refine ⟨fun a => ⟨fun b => ?_, fun b => ?_⟩, fun a => ⟨fun b => ?_, fun b => ?_⟩⟩ <;>
    (refine FnK.val (base_c op _ (by omega)) ?_
     simp -implicitDefEqProofs (disch := first | omega | (simp only [h_szP, h_szS]; done) | (simp only [h_szP, h_szS]; omega)) only [go_sem, Nat.reduceBEq, reduceCtorEq, Nat.reduceAdd, Int.reduceEq, Int.reduceLT, Int.reduceLE, Int.reduceMul, Int.reduceAdd, Int.reduceSub, reduceIte, Nat.reduceLeDiff, Nat.reduceLT, Nat.reduceMul, Nat.reduceSub, Int.reduceToNat, mask8, bv_and, bv_i64, bv_add, bv_xor, bv_or, tmin, tmax])
  all_goals
    repeat' first | (refine And.intro ?_ ?_) | (intro hh)
  all_goals simp only [amo, told, sx8, *, if_true, if_false, reduceIte, Int.reduceEq]
theorem do_0 (op : Int) (h0 : ¬ (63 ≤ op ∧ op ≤ 84)) (x y : Int) (h : Heap) : Fn Tryz.prog 173 [.int .i64 op, .int .u64 x, .int .u64 y] h fun v h' => v = told none ∧ h' = h := by
  have hw : widthI op = 0 := by unfold widthI; rw [if_neg (by omega), if_neg (by omega)]
  refine Fn_c Tryz.func173 mixed c173 (by kernel_rfl) ?_; rw [r173]
  refine gs0 ?_; (try with_reducible exact trivial)
  refine FnK.val (width_c op _) ?_
  rw [hw]
  refine gs0 ?_; (try with_reducible exact trivial)
  rfl
end Go.SX.G
namespace Go.SX.G
open Go Go.SX Go.Proofs
set_option maxRecDepth 100000
set_option maxHeartbeats 8000000
theorem uN {x : Nat} (h : x < 18446744073709551616) : Value.int .u64 (x : Nat) = U (BitVec.ofNat 64 x) := by
  show Value.int .u64 (x : Nat) = Value.int .u64 ((BitVec.ofNat 64 x).toNat : Nat)
  rw [BitVec.toNat_ofNat, Nat.mod_eq_of_lt h]
/-- what an atomic instruction answers, holds and stores. -/
structure StO where
  res : Nat
  ha : Nat
  hn : Nat
  sk : Nat
  fk : Nat
  fa : Nat
  st : Option Nat
def scOp (op : Int) : Prop := op = 64 ∨ op = 75
def lrOp (op : Int) : Prop := op = 63 ∨ op = 74
instance (op : Int) : Decidable (scOp op) := by unfold scOp; exact inferInstance
instance (op : Int) : Decidable (lrOp op) := by unfold lrOp; exact inferInstance
def stepC (n : Nat) (o1 : Option Nat) (ha hn a x : Nat) : StO := match o1 with
    | some b => ⟨0, 0, 0, 4, 2, b, none⟩
    | none => if ha = a ∧ hn = n then ⟨0, 0, 0, 0, 0, 0, some x⟩ else ⟨1, 0, 0, 0, 0, 0, none⟩
def stepR (n : Nat) (op : Int) (o1 o2 : Option Nat) (ha hn a x sx nx : Nat) : StO :=
  if n = 0 then ⟨0, 0, 0, 3, 0, 0, none⟩
  else if a % n ≠ 0 then ⟨0, 0, 0, 5, 0, a, none⟩
  else if scOp op then stepC n o1 ha hn a x
  else match o2 with
    | some b => ⟨0, 0, 0, 4, 1, b, none⟩
    | none => if lrOp op then ⟨sx, a, n, 0, 0, 0, none⟩ else match o1 with
      | some b => ⟨0, 0, 0, 4, 2, b, none⟩
      | none => ⟨sx, ha, hn, 0, 0, 0, some nx⟩
def holdV (a n : Nat) : Value := .agg #[.int .u64 a, .int .i64 n]
def stopV (k fk fa : Nat) : Value := .agg #[.int .i64 k, .int .i64 fk, .int .u64 fa]
def stepT (o : StO) : Value := .tuple #[.int .u64 o.res, holdV o.ha o.hn, stopV o.sk o.fk o.fa]
def putB (st : Option Nat) (a n : Nat) (B : Nat → Nat) (y : Nat) : Nat := match st with
  | none => B y
  | some v => if a ≤ y ∧ y < a + n then v / 256 ^ (y - a) % 256 else B y
structure Stp (h h' : Heap) (s : Nat) (M : MemD) (a n : Nat) (st : Option Nat) : Prop where
  ex : ∃ M', Chg h h' s M M' 8 (fun m => st ≠ none ∧ touched a (a + n) m) ∧ M'.rs = M.rs ∧ ∀ y, memAt M' y = putB st a n (memAt M) y
theorem Stp.of {h h' : Heap} {s a n : Nat} {M : MemD} (r : MR h s M) (k : Keeps h.size h h') : Stp h h' s M a n none :=
  ⟨M, ⟨r.ext k, rfl, rfl, rfl, Fx.of k, (Sr.refl M.D).le (by omega) fun m q => absurd rfl q.1⟩, rfl, fun y => rfl⟩
def sxN (old n : Nat) : Nat := (((BitVec.ofNat 64 old) <<< (64 - 8 * n)).sshiftRight (64 - 8 * n)).toNat
def nxN (o : Option (BitVec 64)) : Nat := match o with | some y => y.toNat | none => 0
theorem told_nx (o : Option (BitVec 64)) : ∃ b, told o = .tuple #[.int .u64 (nxN o : Nat), .bool b] := by
  cases o with
  | none => exact ⟨false, rfl⟩
  | some y => exact ⟨true, rfl⟩
theorem width_nat (op : Int) : ∃ n : Nat, widthI op = n ∧ (n = 0 ∨ n = 4 ∨ n = 8) := by
  unfold widthI
  split
  · exact ⟨4, rfl, by omega⟩
  · split
    · exact ⟨8, rfl, by omega⟩
    · exact ⟨0, rfl, by omega⟩
theorem fault_c (k a : Nat) (h : Heap) : Fn Tryz.prog 172 [.agg #[.int .i64 k, .int .u64 a]] h fun v h' => v = stopV 4 k a ∧ Keeps h.size h h' := by
  refine Fn_c Tryz.func172 mixed c172 (by kernel_rfl) ?_; rw [r172]
  refine gs0 ?_; (try with_reducible exact trivial)
  exact ⟨rfl, (Keeps.push _ _ (Nat.le_refl _)).push' (Nat.le_refl _)⟩
theorem ne_hold0 : (fun (x y : Operand) (a b c d : Int) => binV Tryz.prog .neq 61 x y (.agg #[.int .u64 a, .int .i64 b]) (.agg #[.int .u64 c, .int .i64 d])) = fun x y a b c d => some (.bool (!(decide (a = c) && (decide (b = d) && true)))) := by kernel_rfl
theorem ne_hold (x y : Operand) (a b c d : Int) : binV Tryz.prog .neq 61 x y (.agg #[.int .u64 a, .int .i64 b]) (.agg #[.int .u64 c, .int .i64 d]) = some (.bool (!(decide (a = c) && decide (b = d)))) := by
  have := congrFun (congrFun (congrFun (congrFun (congrFun (congrFun ne_hold0 x) y) a) b) c) d
  rw [Bool.and_true] at this; exact this
theorem cond_c {h : Heap} {s : Nat} {M : MemD} (a x ha hn n : Nat) (o1 : Option Nat) (r : MR h s M) (ha1 : a < 18446744073709551616) (hx : x < 18446744073709551616) (hn2 : n = 4 ∨ n = 8) (F1 : FirstN M.rs a n 2 o1) :
    Fn Tryz.prog 171 [ptr s 0, .agg #[.int .u64 ha, .int .i64 hn], .int .u64 a, .int .i64 n, .int .u64 x] h fun y h' => y = .tuple #[.int .u64 (stepC n o1 ha hn a x).res, stopV (stepC n o1 ha hn a x).sk (stepC n o1 ha hn a x).fk (stepC n o1 ha hn a x).fa] ∧ Stp h h' s M a n (stepC n o1 ha hn a x).st := by
  have hg : goodN n = true := by simp [goodN]; omega
  refine Fn_c Tryz.func171 mixed c171 (by kernel_rfl) ?_; rw [r171]
  refine gs0 ?_; (try with_reducible exact trivial)
  obtain ⟨h0, e0⟩ : ∃ h0, h0 = (h.push (.cells #[.int .u64 ha, .int .i64 hn] 61)).push (.cells #[.int .i64 0, .int .i64 0, .int .u64 0] 49) := ⟨_, rfl⟩
  have K0 : Keeps h.size h h0 := by rw [e0]; exact (Keeps.push _ _ (Nat.le_refl _)).push' (Nat.le_refl _)
  have hH : h0[h.size]? = some (.cells #[.int .u64 ha, .int .i64 hn] 61 (0, 0)) := by rw [e0]; refine gs0 ?_; (try with_reducible exact trivial)
  have hS : h0[h.size + 1]? = some (.cells #[.int .i64 0, .int .i64 0, .int .u64 0] 49 (0, 0)) := by rw [e0]; refine gs0 ?_; (try with_reducible exact trivial)
  have sz0 : h0.size = h.size + 2 := by rw [e0]; simp
  rw [← e0]
  have R0 := r.ext K0
  refine FnK.use (mprobe_c a n R0 ha1) ?_
  intro y h1 ⟨P, K1⟩
  have hH1 := K1.at hH (getElem?_lt hH)
  have hS1 := K1.at hS (getElem?_lt hS)
  have lS1 := getElem?_lt hS1
  have K2 := K0.of_ext K1 (Nat.le_refl _)
  have R1 := R0.ext K1
  have cast : ((n : Int)).toNat = n := rfl
  cases P with
  | bad c => rw [hg] at c; cases c
  | flt c b f ex =>
    rw [cast] at f
    have eo := FirstN.same F1 f
    subst eo
    rw [ex]
    unfold fltA
    refine gs0 ?_; (try with_reducible exact trivial)
    have K3 : Keeps h.size h (h1.push (.cells #[.int .i64 2, .int .u64 b] 41)) := K2.push' (Nat.le_refl _)
    have hS2 : (h1.push (.cells #[.int .i64 2, .int .u64 b] 41))[h.size + 1]? = some (.cells #[.int .i64 0, .int .i64 0, .int .u64 0] 49 (0, 0)) := by rw [h_pushL _ _ _ lS1]; exact hS1
    refine FnK.use (fault_c 2 b _) ?_
    intro y h3 ⟨e3, K4⟩
    have hS3 := K4.at hS2 (getElem?_lt hS2)
    have lS3 := getElem?_lt hS3
    rw [e3]
    unfold stopV
    refine gs1 @hS3 ?_; (try with_reducible exact trivial)
    exact ⟨rfl, Stp.of r ((K3.of_ext K4 (Nat.le_refl _)).set' (by omega))⟩
  | ok c f ex =>
    rw [cast] at f
    have eo := FirstN.same F1 f
    subst eo
    rw [ex]
    unfold fltA
    by_cases hh : ha = a ∧ hn = n
    · have d1 : decide ((ha : Int) = a) = true := decide_eq_true (by omega)
      have d2 : decide ((hn : Int) = n) = true := decide_eq_true (by omega)
      refine gs5 @hH1 @hS1 @ne_hold @d1 @d2 ?_; (try with_reducible exact trivial)
      have KF := Keeps.push h1 (.cells #[.int .i64 0, .int .u64 0] 41) (Nat.le_refl _)
      have okw : ∀ i, i < n → okAt M.rs 2 (adr a i) := by cases f with | none h => exact h
      refine FnK.use (mstore_ok a n x (R1.ext KF) ha1 hx hg okw) ?_
      intro y h3 ⟨e3, M', g, rs, byte⟩
      have nfS : ¬ mfoot s M (h.size + 1) := fun q => by have := r.lt q; omega
      have hS3 : h3[h.size + 1]? = some (.cells #[.int .i64 0, .int .i64 0, .int .u64 0] 49 (0, 0)) := by
        rw [g.fx.old _ (by simp; omega) nfS, h_pushL _ _ _ lS1]; exact hS1
      have lS3 := getElem?_lt hS3
      have nfS' : ¬ mfoot s M' (h.size + 1) := fun q => by
        rcases g.fx.ft _ q with z | z
        · exact nfS z
        · simp at z; omega
      rw [e3]
      refine gs1 @hS3 ?_; (try with_reducible exact trivial)
      have est : stepC n none ha hn a x = ⟨0, 0, 0, 0, 0, 0, some x⟩ := by unfold stepC; simp only; rw [if_pos hh]
      rw [est]
      refine ⟨rfl, ⟨M', ((((g.widen (h0 := _) KF).widen K2).poke (by omega) nfS' _).le (by omega) (fun m q => q.2)), rs, fun y => ?_⟩⟩
      rw [byte]; rfl
    · have d1 : (decide ((ha : Int) = a) && decide ((hn : Int) = n)) = false := by rw [← Bool.decide_and]; exact decide_eq_false (by omega)
      refine gs4 @hH1 @hS1 @ne_hold @d1 ?_; (try with_reducible exact trivial)
      have est : stepC n none ha hn a x = ⟨1, 0, 0, 0, 0, 0, none⟩ := by unfold stepC; simp only; rw [if_neg hh]
      rw [est]
      exact ⟨rfl, Stp.of r ((K2.set' (by omega)).push' (Nat.le_refl _))⟩
theorem sextN_c (old n : Nat) (hn : n = 4 ∨ n = 8) (ho : old < 18446744073709551616) (h : Heap) : Fn Tryz.prog 134 [.int .u64 old, .int .i64 (8 * n : Nat)] h fun v h' => v = .int .u64 (sxN old n) ∧ h' = h := by
  rw [uN ho]
  have e : ((64 : Int) - ((8 * n : Nat) : Int)).toNat = 64 - 8 * n := by omega
  have := sext_c (BitVec.ofNat 64 old) ((8 * n : Nat) : Int) (by omega) (by omega) h
  rw [e] at this
  exact this
theorem step_c {h : Heap} {s : Nat} {M : MemD} (op : Int) (a x ha hn n : Nat) (o1 o2 : Option Nat) (o : Option (BitVec 64)) (r : MR h s M) (ha1 : a < 18446744073709551616) (hx : x < 18446744073709551616) (hw : widthI op = n) (F1 : FirstN M.rs a n 2 o1) (F2 : FirstN M.rs a n 1 o2)
    (hdo : ∀ h : Heap, Fn Tryz.prog 173 [.int .i64 op, .int .u64 (le (peekL M a n) : Nat), .int .u64 x] h fun v h' => v = told o ∧ h' = h) :
    Fn Tryz.prog 137 [ptr s 0, .agg #[.int .u64 ha, .int .i64 hn], .int .i64 op, .int .u64 a, .int .u64 x] h fun y h' => y = stepT (stepR n op o1 o2 ha hn a x (sxN (le (peekL M a n)) n) (nxN o)) ∧ Stp h h' s M a n (stepR n op o1 o2 ha hn a x (sxN (le (peekL M a n)) n) (nxN o)).st := by
  refine Fn_c Tryz.func137 mixed c137 (by kernel_rfl) ?_; rw [r137]
  refine gs0 ?_; (try with_reducible exact trivial)
  refine FnK.val (width_c op _) ?_
  rw [hw]
  obtain ⟨h0, e0⟩ : ∃ h0, h0 = ((h.push (.cells #[.int .u64 ha, .int .i64 hn] 61)).push (.cells #[.int .u64 0, .int .i64 0] 61)).push (.cells #[.int .i64 0, .int .i64 0, .int .u64 0] 49) := ⟨_, rfl⟩
  have K0 : Keeps h.size h h0 := by rw [e0]; exact ((Keeps.push _ _ (Nat.le_refl _)).push' (Nat.le_refl _)).push' (Nat.le_refl _)
  have hH : h0[h.size]? = some (.cells #[.int .u64 ha, .int .i64 hn] 61 (0, 0)) := by rw [e0]; refine gs0 ?_; (try with_reducible exact trivial)
  have hT : h0[h.size + 1]? = some (.cells #[.int .u64 0, .int .i64 0] 61 (0, 0)) := by rw [e0]; refine gs0 ?_; (try with_reducible exact trivial)
  have hS : h0[h.size + 2]? = some (.cells #[.int .i64 0, .int .i64 0, .int .u64 0] 49 (0, 0)) := by rw [e0]; refine gs0 ?_; (try with_reducible exact trivial)
  have sz0 : h0.size = h.size + 3 := by rw [e0]; simp
  rw [← e0]
  have nf : ∀ j, ¬ mfoot s M (h.size + j) := fun j q => by have := r.lt q; omega
  have R0 := r.ext K0
  have l1 := getElem?_lt hH
  have l2 := getElem?_lt hT
  have l3 := getElem?_lt hS
  obtain ⟨n', hn', hnn⟩ := width_nat op
  have en : n' = n := by omega
  subst en
  by_cases hz : n' = 0
  · have z1 : (((n' : Nat) : Int) = 0) = True := eq_true (by omega)
    refine gs4 @hH @hT @hS @z1 ?_; (try with_reducible exact trivial)
    have est : stepR n' op o1 o2 ha hn a x (sxN (le (peekL M a n')) n') (nxN o) = ⟨0, 0, 0, 3, 0, 0, none⟩ := by unfold stepR; rw [if_pos hz]
    rw [est]
    exact ⟨rfl, Stp.of r ((K0.set' (by omega)).set' (by omega))⟩
  have z1 : (((n' : Nat) : Int) = 0) = False := eq_false (by omega)
  have z2 : IntKind.u64.wrap (n' : Int) = n' := by rw [wrap_u64]; omega
  have z3 : ((a : Int) % n') = ((a % n' : Nat) : Int) := by omega
  by_cases hal : a % n' = 0
  case neg =>
    have z4 : (((a % n' : Nat) : Int) = 0) = False := eq_false (by omega)
    refine gs7 @hH @hT @hS @z1 @z2 @z3 @z4 ?_; (try with_reducible exact trivial)
    have est : stepR n' op o1 o2 ha hn a x (sxN (le (peekL M a n')) n') (nxN o) = ⟨0, 0, 0, 5, 0, a, none⟩ := by unfold stepR; rw [if_neg hz, if_pos hal]
    rw [est]
    exact ⟨rfl, Stp.of r ((K0.set' (by omega)).set' (by omega))⟩
  have z4 : (((a % n' : Nat) : Int) = 0) = True := eq_true (by omega)
  have hop : op ≤ 84 := by unfold widthI at hw; split at hw <;> (try split at hw) <;> omega
  have hop2 : 63 ≤ op := by unfold widthI at hw; split at hw <;> (try split at hw) <;> omega
  refine gs7 @hH @hT @hS @z1 @z2 @z3 @z4 ?_; (try with_reducible exact trivial)
  obtain ⟨bo, hbo⟩ : ∃ bo : Int, bo = if 74 ≤ op then op - 11 else op := ⟨_, rfl⟩
  have hbase : ∀ h : Heap, Fn Tryz.prog 170 [.int .i64 op] h fun v h' => v = .int .i64 bo ∧ h' = h := by rw [hbo]; exact fun h => base_c op h hop
  refine FnK.val (hbase h0) ?_
  have hg : goodN n' = true := by simp [goodN]; omega
  have cast : ((n' : Int)).toNat = n' := rfl
  by_cases hsc : scOp op
  · have z5 : (bo = 64) = True := eq_true (by rw [hbo]; rcases hsc with e | e <;> rw [e] <;> rfl)
    refine gs4 @hH @hT @hS @z5 ?_; (try with_reducible exact trivial)
    refine FnK.use (cond_c a x ha hn n' o1 R0 ha1 hx (by omega) F1) ?_
    intro y h1 ⟨e1, M', g, rs, byte⟩
    have hT1 : h1[h.size + 1]? = some (.cells #[.int .u64 0, .int .i64 0] 61 (0, 0)) := by rw [g.fx.old _ l2 (nf 1)]; exact hT
    have hS1 : h1[h.size + 2]? = some (.cells #[.int .i64 0, .int .i64 0, .int .u64 0] 49 (0, 0)) := by rw [g.fx.old _ l3 (nf 2)]; exact hS
    have m1 := getElem?_lt hT1
    have m2 := getElem?_lt hS1
    rw [e1]
    unfold stopV
    have est : stepR n' op o1 o2 ha hn a x (sxN (le (peekL M a n')) n') (nxN o) = stepC n' o1 ha hn a x := by unfold stepR; rw [if_neg hz, if_neg (by omega), if_pos hsc]
    rw [est]
    have hz0 : (stepC n' o1 ha hn a x).ha = 0 ∧ (stepC n' o1 ha hn a x).hn = 0 := by
      unfold stepC
      cases o1 with
      | some b => exact ⟨rfl, rfl⟩
      | none => simp only; split <;> exact ⟨rfl, rfl⟩
    unfold stepT holdV stopV
    rw [hz0.1, hz0.2]
    refine gs2 @hT1 @hS1 ?_; (try with_reducible exact trivial)
    have nf' : ∀ j, j < 3 → ¬ mfoot s M' (h.size + j) := fun j hj q => by
      rcases g.fx.ft _ q with z | z
      · exact nf j z
      · omega
    have fin : ∀ p1 p2 p3, Stp h (((h1.setIfInBounds (h.size + 1 + 1) p1).setIfInBounds (h.size + 1) p2).setIfInBounds (h.size + 1 + 1) p3) s M a n' (stepC n' o1 ha hn a x).st := fun p1 p2 p3 =>
      ⟨M', (((g.widen (h0 := h) K0).poke (by omega) (nf' 2 (by omega)) _).poke (by omega) (nf' 1 (by omega)) _).poke (by omega) (nf' 2 (by omega)) _, rs, byte⟩
    exact ⟨fin _ _ _, fin _ _ _⟩
  have z5 : (bo = 64) = False := eq_false (fun e => hsc (by unfold scOp; split at hbo <;> omega))
  refine gs4 @hH @hT @hS @z5 ?_; (try with_reducible exact trivial)
  refine FnK.use (mload_c a n' R0 ha1) ?_
  intro y h1 ⟨L, K1⟩
  have hH1 := K1.at hH l1
  have hT1 := K1.at hT l2
  have hS1 := K1.at hS l3
  have m1 := getElem?_lt hT1
  have m2 := getElem?_lt hS1
  have m0 := getElem?_lt hH1
  have K2 := K0.of_ext K1 (Nat.le_refl _)
  have R1 := R0.ext K1
  cases L with
  | bad c => rw [hg] at c; cases c
  | flt c b f ex =>
    rw [cast] at f
    have eo := FirstN.same F2 f
    subst eo
    have est : stepR n' op o1 (some b) ha hn a x (sxN (le (peekL M a n')) n') (nxN o) = ⟨0, 0, 0, 4, 1, b, none⟩ := by unfold stepR; rw [if_neg hz, if_neg (by omega), if_neg hsc]
    rw [ex, est]
    unfold fltA
    refine gs3 @hH1 @hT1 @hS1 ?_; (try with_reducible exact trivial)
    refine FnK.use (fault_c 1 b _) ?_
    intro y h3 ⟨e3, K4⟩
    have KF := Keeps.push h1 (.cells #[.int .i64 1, .int .u64 b] 41) (Nat.le_refl _)
    have hT3 := K4.at (by rw [h_pushL _ _ _ m1]; exact hT1) (by simp; omega)
    have hS3 := K4.at (by rw [h_pushL _ _ _ m2]; exact hS1) (by simp; omega)
    have m3 := getElem?_lt hT3
    have m4 := getElem?_lt hS3
    rw [e3]
    unfold stopV
    refine gs2 @hT3 @hS3 ?_; (try with_reducible exact trivial)
    exact ⟨rfl, Stp.of r (((K2.of_ext (KF.of_ext K4 (Nat.le_refl _)) (Nat.le_refl _)).set' (by omega)).set' (by omega))⟩
  | ok c f ex =>
  rw [cast] at f ex
  have eo := FirstN.same F2 f
  subst eo
  obtain ⟨old, hold⟩ : ∃ old, old = le (peekL M a n') := ⟨_, rfl⟩
  rw [← hold] at ex hdo ⊢
  have hol : old < 18446744073709551616 := by
    have := le_lt (peekL M a n') (fun b hb => by
      simp only [peekL, List.mem_map] at hb
      obtain ⟨i, _, rfl⟩ := hb
      exact byteAt_lt r.sr _)
    rw [peekL_len, ← hold] at this
    rcases hnn with e | e | e
    · exact absurd e hz
    · rw [e] at this; have : 256 ^ 4 ≤ 18446744073709551616 := by decide
      omega
    · rw [e] at this; have : 256 ^ 8 = 18446744073709551616 := by decide
      omega
  rw [ex]
  unfold fltA
  have z6 : (8 : Int) * n' = ((8 * n' : Nat) : Int) := by omega
  refine gs4 @hH1 @hT1 @hS1 @z6 ?_; (try with_reducible exact trivial)
  obtain ⟨sv, hsv⟩ : ∃ sv, sv = sxN old n' := ⟨_, rfl⟩
  have hsx : ∀ h : Heap, Fn Tryz.prog 134 [.int .u64 old, .int .i64 (8 * n' : Nat)] h fun v h' => v = .int .u64 sv ∧ h' = h := by rw [hsv]; exact sextN_c old n' (by omega) hol
  rw [← hsv]
  refine FnK.val (hsx _) ?_
  have KF := Keeps.push h1 (.cells #[.int .i64 0, .int .u64 0] 41) (Nat.le_refl _)
  obtain ⟨h2, e2⟩ : ∃ h2, h2 = h1.push (.cells #[.int .i64 0, .int .u64 0] 41) := ⟨_, rfl⟩
  rw [← e2] at KF ⊢
  have hH2 := KF.at hH1 m0
  have hT2 := KF.at hT1 m1
  have hS2 := KF.at hS1 m2
  have m5 := getElem?_lt hT2
  have m6 := getElem?_lt hS2
  have K3 := K2.of_ext KF (Nat.le_refl _)
  have R2 := R1.ext KF
  refine gs0 ?_; (try with_reducible exact trivial)
  by_cases hlr : lrOp op
  · refine FnK.val (hbase h2) ?_
    have z7 : (bo = 63) = True := eq_true (by rw [hbo]; rcases hlr with e | e <;> rw [e] <;> rfl)
    have est : stepR n' op o1 none ha hn a x sv (nxN o) = ⟨sv, a, n', 0, 0, 0, none⟩ := by unfold stepR; rw [if_neg hz, if_neg (by omega), if_neg hsc]; simp only; rw [if_pos hlr]
    rw [est]
    refine gs3 @z7 @hT2 @hS2 ?_; (try with_reducible exact trivial)
    exact ⟨rfl, Stp.of r ((K3.set' (by omega)).set' (by omega))⟩
  obtain ⟨db, hdb⟩ := told_nx o
  obtain ⟨nx, hnx⟩ : ∃ nx, nx = nxN o := ⟨_, rfl⟩
  have hnl : nx < 18446744073709551616 := by
    rw [hnx]; unfold nxN
    cases o with
    | none => simp
    | some y => exact y.isLt
  rw [← hnx] at hdb ⊢
  have hdo2 : ∀ h : Heap, Fn Tryz.prog 173 [.int .i64 op, .int .u64 old, .int .u64 x] h fun v h' => v = .tuple #[.int .u64 nx, .bool db] ∧ h' = h := fun h => by rw [← hdb]; exact hdo h
  have z7 : (bo = 63) = False := eq_false (fun e => hlr (by unfold lrOp; split at hbo <;> omega))
  have est : ∀ o1, stepR n' op o1 none ha hn a x sv nx = match o1 with | some b => ⟨0, 0, 0, 4, 2, b, none⟩ | none => ⟨sv, ha, hn, 0, 0, 0, some nx⟩ := fun o1 => by unfold stepR; rw [if_neg hz, if_neg (by omega), if_neg hsc]; simp only; rw [if_neg hlr]
  rw [est]
  refine FnK.val (hbase h2) ?_
  refine gs1 @z7 ?_; (try with_reducible exact trivial)
  refine FnK.val (hdo2 h2) ?_
  refine gs0 ?_; (try with_reducible exact trivial)
  have KG := Keeps.push h2 (.cells #[.int .i64 0, .int .u64 0] 41) (Nat.le_refl _)
  refine FnK.use (mstore_c a n' nx R2 ha1 hnl) ?_
  intro y h3 hx3
  cases hx3 with
  | no p k ne =>
    obtain ⟨b, eb⟩ := ne
    have eo : o1 = some b := by
      cases p with
      | bad c => rw [hg] at c; cases c
      | flt c b' f ex =>
        rw [cast] at f
        have e9 := FirstN.same F1 f
        rw [ex] at eb
        unfold fltA at eb
        simp only [Value.agg.injEq] at eb
        have : (b' : Int) = b := by simpa using eb
        rw [e9]; congr 1; omega
      | ok c f ex => rw [ex] at eb; simp [fltA] at eb
    have hT3 := k.at hT2 m5
    have hS3 := k.at hS2 m6
    have m7 := getElem?_lt hT3
    have m8 := getElem?_lt hS3
    rw [eb, eo]
    unfold fltA
    refine gs0 ?_; (try with_reducible exact trivial)
    have KH := Keeps.push h3 (.cells #[.int .i64 2, .int .u64 b] 41) (Nat.le_refl _)
    refine FnK.use (fault_c 2 b _) ?_
    intro y h4 ⟨e4, K4⟩
    have hT4 := K4.at (by rw [h_pushL _ _ _ m7]; exact hT3) (by simp; omega)
    have hS4 := K4.at (by rw [h_pushL _ _ _ m8]; exact hS3) (by simp; omega)
    have m3 := getElem?_lt hT4
    have m4 := getElem?_lt hS4
    rw [e4]
    unfold stopV
    refine gs2 @hT4 @hS4 ?_; (try with_reducible exact trivial)
    exact ⟨rfl, Stp.of r (((K3.of_ext (k.of_ext (KH.of_ext K4 (Nat.le_refl _)) (Nat.le_refl _)) (Nat.le_refl _)).set' (by omega)).set' (by omega))⟩
  | ok c f2 ex M' g rs byte =>
    rw [cast] at f2 g byte
    have eo := FirstN.same F1 f2
    have hH3 : h3[h.size]? = some (.cells #[.int .u64 ha, .int .i64 hn] 61 (0, 0)) := by rw [g.fx.old _ (by omega) (by have := nf 0; simpa using this)]; exact hH2
    have hT3 : h3[h.size + 1]? = some (.cells #[.int .u64 0, .int .i64 0] 61 (0, 0)) := by rw [g.fx.old _ (by omega) (nf 1)]; exact hT2
    have hS3 : h3[h.size + 2]? = some (.cells #[.int .i64 0, .int .i64 0, .int .u64 0] 49 (0, 0)) := by rw [g.fx.old _ (by omega) (nf 2)]; exact hS2
    have m7 := getElem?_lt hT3
    have m8 := getElem?_lt hS3
    have m9 := getElem?_lt hH3
    rw [ex, eo]
    unfold fltA
    refine gs3 @hH3 @hT3 @hS3 ?_; (try with_reducible exact trivial)
    have nf' : ∀ j, j < 3 → ¬ mfoot s M' (h.size + j) := fun j hj q => by
      rcases g.fx.ft _ q with z | z
      · exact nf j z
      · omega
    refine ⟨rfl, M', ((((g.widen (h0 := h) K3).poke (by omega) (nf' 1 (by omega)) _).poke (by omega) (nf' 2 (by omega)) _).ext (Keeps.push _ _ (Nat.le_refl _))).le (by omega) (fun m q => q.2), rs, fun y => ?_⟩
    rw [byte]; rfl
/-- what an atomic operator reckons. -/
def amoF (op : Int) (A X : Nat) : Option (BitVec 64) :=
  if 63 ≤ op ∧ op ≤ 73 then amo M4 op (BitVec.ofNat 64 A &&& M4) (BitVec.ofNat 64 X &&& M4) (sx4 (BitVec.ofNat 64 A &&& M4)) (sx4 (BitVec.ofNat 64 X &&& M4))
  else if 74 ≤ op ∧ op ≤ 84 then amo M8 (op - 11) (BitVec.ofNat 64 A &&& M8) (BitVec.ofNat 64 X &&& M8) (sx8 (BitVec.ofNat 64 A &&& M8)) (sx8 (BitVec.ofNat 64 X &&& M8)) else none
theorem do_f (op : Int) (A X : Nat) (hA : A < 18446744073709551616) (hX : X < 18446744073709551616) (h : Heap) : Fn Tryz.prog 173 [.int .i64 op, .int .u64 A, .int .u64 X] h fun v h' => v = told (amoF op A X) ∧ h' = h := by
  unfold amoF
  by_cases h4 : 63 ≤ op ∧ op ≤ 73
  · rw [if_pos h4, uN hA, uN hX]; exact do_4 op h4.1 h4.2 _ _ h
  · by_cases h8 : 74 ≤ op ∧ op ≤ 84
    · rw [if_neg h4, if_pos h8, uN hA, uN hX]; exact do_8 op h8.1 h8.2 _ _ h
    · rw [if_neg h4, if_neg h8]; exact do_0 op (by omega) _ _ h
end Go.SX.G
namespace Go.SX.G
open Go Go.SX Go.Proofs
set_option maxRecDepth 100000
set_option maxHeartbeats 8000000
/-- what an instruction comes to: a stop, a state, bytes. -/
structure Out where
  st : StopR
  t : HS
  B : Nat → Nat
def secondF (t : HS) (i : InstR) : Int := if i.op = 1 then w64 i.imm else if 22 ≤ i.op ∧ i.op ≤ 30 then w64 i.imm else if 41 ≤ i.op ∧ i.op ≤ 44 then w64 i.imm else t.get i.rs2
noncomputable def moveF (rs : List Reg) (B : Nat → Nat) (t : HS) (i : InstR) (n : Nat) (sg : Bool) : Out :=
  let a := (w64 (t.get i.rs1 + w64 i.imm)).toNat
  if 18 ≤ i.op ∧ i.op ≤ 21 then
    match firstF rs a n 2 with
    | some b => ⟨⟨4, 2, b⟩, t, B⟩
    | none => ⟨sOk, t, fun y => if a ≤ y ∧ y < a + n then (t.get i.rs2).toNat / 256 ^ (y - a) % 256 else B y⟩
  else
    match firstF rs a n 1 with
    | some b => ⟨⟨4, 1, b⟩, t, B⟩
    | none => ⟨sOk, t.set i.rd (if sg = true then sextE (le ((List.range n).map fun k => B (a + k)) : Nat) (8 * n) else (le ((List.range n).map fun k => B (a + k)) : Nat)), B⟩
noncomputable def atomF (rs : List Reg) (B : Nat → Nat) (t : HS) (i : InstR) : StO :=
  let a := (t.get i.rs1).toNat
  let n := (widthI i.op).toNat
  let old := le ((List.range n).map fun k => B (a + k))
  stepR n i.op (firstF rs a n 2) (firstF rs a n 1) t.ha.toNat t.hn.toNat a (t.get i.rs2).toNat (sxN old n) (nxN (amoF i.op old (t.get i.rs2).toNat))
noncomputable def otherF (rs : List Reg) (B : Nat → Nat) (t : HS) (i : InstR) : Out :=
  if i.op = 87 then ⟨⟨1, 0, 0⟩, t, B⟩
  else if i.op = 88 then ⟨⟨2, 0, 0⟩, t, B⟩
  else if i.op = 85 then ⟨sOk, t, B⟩
  else if i.op = 86 then ⟨sOk, t, B⟩
  else if i.op = 2 then ⟨sOk, t.set i.rd (w64 (t.pc + w64 i.imm)), B⟩
  else match aluE i.op (t.get i.rs1) (secondF t i) with
    | some x => ⟨sOk, t.set i.rd x, B⟩
    | none => ⟨⟨(atomF rs B t i).sk, (atomF rs B t i).fk, (atomF rs B t i).fa⟩, { t.set i.rd (atomF rs B t i).res with ha := (atomF rs B t i).ha, hn := (atomF rs B t i).hn }, putB (atomF rs B t i).st (t.get i.rs1).toNat (widthI i.op).toNat B⟩
noncomputable def doF (rs : List Reg) (B : Nat → Nat) (t : HS) (i : InstR) : Out :=
  let j := jumpF t i
  if j.ok = true then ⟨sOk, { j.t with pc := j.to }.set 0 0, B⟩
  else
    let o := if 0 < (accE i.op).1 then moveF rs B j.t i (accE i.op).1.toNat (accE i.op).2 else otherF rs B j.t i
    if o.st.kind = 0 then ⟨sOk, { o.t with pc := w64 (o.t.pc + w64 i.size) }.set 0 0, o.B⟩ else o
/-- one step; the state after a stop is the one before it, with nothing held. -/
noncomputable def stepF (rs : List Reg) (B : Nat → Nat) (t : HS) : Out :=
  let f := readF rs B t.pc.toNat
  if f.2.kind = 0 then
    let o := doF rs B t f.1
    if o.st.kind = 0 then ⟨sOk, o.t, o.B⟩ else ⟨o.st, { t with ha := 0, hn := 0 }, B⟩
  else ⟨f.2, { t with ha := 0, hn := 0 }, B⟩
theorem holdCell {h : Heap} {tb : Nat} {t : HS} (H : h[tb]? = some (sO t.cell)) : cellsO 33 2 h[tb]? = some [.int .u64 t.ha, .int .i64 t.hn] := by
  rw [H, fnL_cells (by omega)]
  rfl
theorem holdSet {h : Heap} {tb : Nat} {t : HS} (H : h[tb]? = some (sO t.cell)) (a n : Int) : ∃ h', wrO h tb 33 [.int .u64 a, .int .i64 n] h[tb]? = some h' ∧ h'[tb]? = some (sO ({ t with ha := a, hn := n } : HS).cell) ∧ h'.size = h.size ∧ ∀ c, c ≠ tb → h'[c]? = h[c]? := by
  obtain ⟨h', w, c, z, o⟩ := fnL_wr (o := 33) (k := 2) (g := fun i => if i = 0 then .int .u64 a else .int .i64 n) H (by omega) rfl
  refine ⟨h', w, ?_, z, o⟩
  rw [c]
  refine congrArg (fun l => some (Obj.cells (List.toArray l) 63 (0, 0))) (fnL_congr fun i hi => ?_)
  unfold HS.cell
  by_cases q : 33 ≤ i
  · rw [if_pos (by omega), if_neg (show ¬ i = 0 by omega), if_neg (show ¬ i < 33 by omega)]
    by_cases q1 : i = 33
    · rw [if_pos (by omega), if_pos q1]
    · rw [if_neg (by omega), if_neg q1]
  · rw [if_neg (by omega)]
    by_cases q0 : i = 0
    · rw [if_pos q0, if_pos q0]
    · rw [if_neg q0, if_neg q0, if_pos (by omega), if_pos (by omega)]
theorem secondF_R {t : HS} (k : t.ok) (i : InstR) : u64R (secondF t i) := by
  unfold secondF
  split
  · exact w64_R _
  · split
    · exact w64_R _
    · split
      · exact w64_R _
      · exact k.x _
theorem second_g {h : Heap} {tb : Nat} (t : HS) (i : InstR) (H : h[tb]? = some (sO t.cell)) (ok : i.ok) :
    Fn Tryz.prog 136 [ptr tb 0, i.v] h fun x h' => x = .int .u64 (secondF t i) ∧ Keeps h.size h h' := by
  have lt := getElem?_lt H
  obtain ⟨r2, hr2, lr2⟩ := toN32 ok.rs2
  have c2 := xCell H r2 lr2
  have d5 : decide ((r2 : Int) < 32) = true := decide_eq_true (by omega)
  have d6 : decide ((r2 : Int) < 0) = false := decide_eq_false (by omega)
  unfold secondF
  rw [hr2]
  by_cases a1 : i.op = 1
  · rw [if_pos a1]
    refine Fn_c Tryz.func136 mixed c136 (by kernel_rfl) ?_; rw [r136]
    refine gs7 InstR.v.eq_1 @hr2 @c2 @d5 @d6 @a1 @Nat.mul_one ?_; (try with_reducible exact trivial)
    first | done | exact ⟨rfl, Keeps.push _ _ (Nat.le_refl _)⟩ | exact Keeps.push _ _ (Nat.le_refl _)
  · rw [if_neg a1]
    by_cases a2 : 22 ≤ i.op
    · by_cases a3 : i.op ≤ 30
      · rw [if_pos ⟨a2, a3⟩]
        refine Fn_c Tryz.func136 mixed c136 (by kernel_rfl) ?_; rw [r136]
        refine gs9 InstR.v.eq_1 @hr2 @c2 @d5 @d6 @a1 @a2 @a3 @Nat.mul_one ?_; (try with_reducible exact trivial)
        first | done | exact ⟨rfl, Keeps.push _ _ (Nat.le_refl _)⟩ | exact Keeps.push _ _ (Nat.le_refl _)
      · rw [if_neg (by omega)]
        by_cases a4 : 41 ≤ i.op
        · by_cases a5 : i.op ≤ 44
          · rw [if_pos ⟨a4, a5⟩]
            refine Fn_c Tryz.func136 mixed c136 (by kernel_rfl) ?_; rw [r136]
            refine gs11 InstR.v.eq_1 @hr2 @c2 @d5 @d6 @a1 @a2 @a3 @a4 @a5 @Nat.mul_one ?_; (try with_reducible exact trivial)
            first | done | exact ⟨rfl, Keeps.push _ _ (Nat.le_refl _)⟩ | exact Keeps.push _ _ (Nat.le_refl _)
          · rw [if_neg (by omega)]
            refine Fn_c Tryz.func136 mixed c136 (by kernel_rfl) ?_; rw [r136]
            refine gs11 InstR.v.eq_1 @hr2 @c2 @d5 @d6 @a1 @a2 @a3 @a4 @a5 @Nat.mul_one ?_; (try with_reducible exact trivial)
            first | done | exact ⟨rfl, Keeps.push _ _ (Nat.le_refl _)⟩ | exact Keeps.push _ _ (Nat.le_refl _)
        · rw [if_neg (by omega)]
          refine Fn_c Tryz.func136 mixed c136 (by kernel_rfl) ?_; rw [r136]
          refine gs10 InstR.v.eq_1 @hr2 @c2 @d5 @d6 @a1 @a2 @a3 @a4 @Nat.mul_one ?_; (try with_reducible exact trivial)
          first | done | exact ⟨rfl, Keeps.push _ _ (Nat.le_refl _)⟩ | exact Keeps.push _ _ (Nat.le_refl _)
    · have a4 : ¬ 41 ≤ i.op := by omega
      rw [if_neg (by omega), if_neg (by omega)]
      refine Fn_c Tryz.func136 mixed c136 (by kernel_rfl) ?_; rw [r136]
      refine gs9 InstR.v.eq_1 @hr2 @c2 @d5 @d6 @a1 @a2 @a4 @Nat.mul_one ?_; (try with_reducible exact trivial)
      first | done | exact ⟨rfl, Keeps.push _ _ (Nat.le_refl _)⟩ | exact Keeps.push _ _ (Nat.le_refl _)
theorem hfault_c (k : Int) (a : Nat) (h : Heap) : Fn Tryz.prog 132 [.agg #[.int .i64 k, .int .u64 a]] h fun x h' => x = (if k = 0 then sOk else ⟨4, k, a⟩ : StopR).v ∧ Keeps h.size h h' := by
  by_cases q : k = 0
  · rw [if_pos q]
    refine Fn_c Tryz.func132 mixed c132 (by kernel_rfl) ?_; rw [r132]
    refine gs1 @q ?_; (try with_reducible exact trivial)
    first | exact ⟨rfl, (Keeps.push _ _ (Nat.le_refl _)).push' (Nat.le_refl _)⟩ | exact ⟨rfl, Keeps.push _ _ (Nat.le_refl _)⟩
  · rw [if_neg q]
    refine Fn_c Tryz.func132 mixed c132 (by kernel_rfl) ?_; rw [r132]
    refine gs1 @q ?_; (try with_reducible exact trivial)
    first | exact ⟨rfl, (Keeps.push _ _ (Nat.le_refl _)).push' (Nat.le_refl _)⟩ | exact ⟨rfl, Keeps.push _ _ (Nat.le_refl _)⟩
end Go.SX.G
