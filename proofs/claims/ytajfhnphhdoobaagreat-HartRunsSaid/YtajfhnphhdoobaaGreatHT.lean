/- Loads and stores of a machine. No condition but on ranges. -/
import Derived.Test.YtajfhnphhdoobaaGreatHA
set_option linter.unusedVariables false
set_option linter.unusedSimpArgs false
namespace Go.SX.G
open Go Go.SX Go.Proofs
set_option maxRecDepth 100000
set_option maxHeartbeats 4000000
/-- a space, after at most one store. -/
structure Gone (h h' : Heap) (s : Nat) (M M' : MemD) (B' : Nat → Nat) : Prop where
  r : MR h' s M'
  rs : M'.rs = M.rs
  byte : ∀ y, memAt M' y = B' y
  ft : ∀ b, mfoot s M' b → mfoot s M b ∨ h.size ≤ b
  sr : ∃ T : Nat → Prop, Sr M.D M'.D 8 T ∧ ∀ y, memAt M' y ≠ memAt M y → T (y / 4096)
theorem Gone.refl {h h' : Heap} {s : Nat} {M : MemD} (r : MR h' s M) : Gone h h' s M M (memAt M) :=
  ⟨r, rfl, fun _ => rfl, fun _ f => .inl f, fun _ => False, (Sr.refl M.D).le (by omega) fun m q => q, fun y q => absurd rfl q⟩
/-- a change in place. -/
theorem Gone.mono {h0 h h' h2 : Heap} {s : Nat} {M M' : MemD} {B' : Nat → Nat} (g : Gone h h' s M M' B') (hs : h0.size ≤ h.size) (k : ∀ b, mfoot s M' b → h2[b]? = h'[b]?) : Gone h0 h2 s M M' B' :=
  ⟨g.r.mono k, g.rs, g.byte, fun b f => by rcases g.ft b f with q | q; exact .inl q; exact .inr (by omega), g.sr⟩
def storeB (o : Option Nat) (a n v : Nat) (B : Nat → Nat) (y : Nat) : Nat := match o with | some _ => B y | none => if a ≤ y ∧ y < a + n then v / 256 ^ (y - a) % 256 else B y
def fltO (k : Nat) : Option Nat → Value
  | some b => fltA k b
  | none => fltA 0 0
theorem mstore_f {h : Heap} {s : Nat} {M : MemD} (a n v : Nat) (r : MR h s M) (ha : a < 18446744073709551616) (hv : v < 18446744073709551616) (hn : goodN n = true) :
    Fn Tryz.prog 17 [ptr s 0, .int .u64 a, .int .i64 n, .int .u64 v] h fun x h' => x = fltO 2 (firstF M.rs a n 2) ∧ (∃ M', Gone h h' s M M' (storeB (firstF M.rs a n 2) a n v (memAt M))) ∧ h.size ≤ h'.size ∧ ∀ b, b < h.size → ¬ mfoot s M b → h'[b]? = h[b]? := by
  refine (mstore_c a n v r ha hv).mono ?_
  intro x h' hx
  cases hx with
  | no p k ne =>
    cases p with
    | bad c => rw [hn] at c; cases c
    | flt c b f ex =>
      have f' : FirstN M.rs a n 2 (some b) := f
      rw [← f'.eqF]
      exact ⟨ex, ⟨M, Gone.refl (r.ext k)⟩, k.size, fun b hb _ => k.old b hb⟩
    | ok c f ex => obtain ⟨b, ne⟩ := ne; rw [ex] at ne; simp [fltA] at ne
  | ok c f ex M' g rs byte =>
    have f' : FirstN M.rs a n 2 none := f
    have far := FirstN.far r.wf (by cases f' with | none h => exact h) (by obtain ⟨k, e, h1, h2⟩ := goodN_le hn; omega) ha (by obtain ⟨k, e, h1, h2⟩ := goodN_le hn; omega)
    rw [← f'.eqF]
    refine ⟨ex, ⟨M', g.r, rs, byte, g.fx.ft, touched a (a + n), g.sr.le (by obtain ⟨k, e, h1, h2⟩ := goodN_le hn; show ((n : Int)).toNat ≤ 8; omega) (fun m q => q), fun y q => ?_⟩, g.fx.size, g.fx.old⟩
    rw [byte y] at q
    by_cases z : a ≤ y ∧ y < a + n
    · exact ⟨y, z.1, z.2, by omega, rfl⟩
    · exact absurd (if_neg z) q
theorem mload_f {h : Heap} {s : Nat} {M : MemD} (a n : Nat) (r : MR h s M) (ha : a < 18446744073709551616) (hn : goodN n = true) :
    Fn Tryz.prog 133 [ptr s 0, .int .u64 a, .int .i64 n] h fun x h' => x = (match firstF M.rs a n 1 with | some b => .tuple #[.int .u64 0, fltA 1 b] | none => .tuple #[.int .u64 (le ((List.range n).map fun k => memAt M (a + k)) : Nat), fltA 0 0] : Value) ∧ Keeps h.size h h' := by
  refine (mload_c a n r ha).mono ?_
  intro x h' ⟨hx, k⟩
  refine ⟨?_, k⟩
  cases hx with
  | bad c => rw [hn] at c; cases c
  | flt c b f ex => have f' : FirstN M.rs a n 1 (some b) := f; rw [← f'.eqF]; exact ex
  | ok c f ex => have f' : FirstN M.rs a n 1 none := f; rw [← f'.eqF]; exact ex
theorem move_g {h : Heap} {hb tb s : Nat} {M : MemD} {g : Nat → Value} (t : HS) (i : InstR) (n : Nat) (sg : Bool) (H : h[hb]? = some (.cells (fnL 37 g).toArray 120 (0, 0))) (g35 : g 35 = ptr s 0) (HT : h[tb]? = some (sO t.cell)) (tok : t.ok) (ok : i.ok) (hn : goodN n = true)
    (r : MR h s M) (nt : ¬ mfoot s M tb) :
    Fn Tryz.prog 109 [ptr hb 0, ptr tb 0, i.v, .int .i64 n, .bool sg] h fun x h' => x = (moveF M.rs (memAt M) t i n sg).st.v ∧ h'[tb]? = some (sO (moveF M.rs (memAt M) t i n sg).t.cell) ∧ h.size ≤ h'.size ∧ (∃ M', Gone h h' s M M' (moveF M.rs (memAt M) t i n sg).B) ∧ ∀ b, b < h.size → b ≠ tb → ¬ mfoot s M b → h'[b]? = h[b]? := by
  have lh := getElem?_lt H
  have lt := getElem?_lt HT
  obtain ⟨rd, hrd, lrd⟩ := toN32 ok.rd
  obtain ⟨r1, hr1, lr1⟩ := toN32 ok.rs1
  obtain ⟨r2, hr2, lr2⟩ := toN32 ok.rs2
  have c1 := xCell HT r1 lr1
  have c2 := xCell HT r2 lr2
  have c35 : cellO 35 h[hb]? = some (ptr s 0) := by rw [H, fnL_cell (by omega), g35]
  have d1 : decide ((rd : Int) < 32) = true := decide_eq_true (by omega)
  have d2 : decide ((rd : Int) < 0) = false := decide_eq_false (by omega)
  have d3 : decide ((r1 : Int) < 32) = true := decide_eq_true (by omega)
  have d4 : decide ((r1 : Int) < 0) = false := decide_eq_false (by omega)
  have d5 : decide ((r2 : Int) < 32) = true := decide_eq_true (by omega)
  have d6 : decide ((r2 : Int) < 0) = false := decide_eq_false (by omega)
  obtain ⟨a, ha, la⟩ : ∃ a : Nat, IntKind.u64.wrap (t.get r1 + IntKind.u64.wrap i.imm) = (a : Int) ∧ a < 18446744073709551616 := ⟨(w64 (t.get r1 + w64 i.imm)).toNat, by have := w64_R (t.get r1 + w64 i.imm); unfold u64R at this; unfold w64 at *; omega, by have := w64_R (t.get r1 + w64 i.imm); unfold u64R at this; omega⟩
  obtain ⟨v, hv, lv⟩ : ∃ v : Nat, t.get r2 = (v : Int) ∧ v < 18446744073709551616 := ⟨(t.get r2).toNat, by have := tok.x ((r2 : Int).toNat); unfold u64R at this; unfold HS.get; omega, by have := tok.x ((r2 : Int).toNat); unfold u64R at this; unfold HS.get; omega⟩
  have ea : (w64 (t.get i.rs1 + w64 i.imm)).toNat = a := by rw [hr1]; unfold w64; rw [ha]; rfl
  obtain ⟨X, eX⟩ : ∃ X, X = (h.push (.cells #[.int .i64 i.op, .int .i64 rd, .int .i64 r1, .int .i64 r2, .int .i64 i.imm, .int .i64 i.order, .int .i64 i.size] 47)).push (.cells #[.int .i64 0, .int .i64 0, .int .u64 0] 49) := ⟨_, rfl⟩
  have KX : Keeps h.size h X := by rw [eX]; exact (Keeps.push _ _ (Nat.le_refl _)).push' (Nat.le_refl _)
  have zX : X.size = h.size + 2 := by rw [eX]; simp
  have p0 : X[h.size]? = some (.cells #[.int .i64 i.op, .int .i64 rd, .int .i64 r1, .int .i64 r2, .int .i64 i.imm, .int .i64 i.order, .int .i64 i.size] 47 (0, 0)) := by rw [eX]; refine gs0 ?_; (try with_reducible exact trivial)
  have p1 : X[h.size + 1]? = some (.cells #[.int .i64 0, .int .i64 0, .int .u64 0] 49 (0, 0)) := by rw [eX]; refine gs0 ?_; (try with_reducible exact trivial)
  have rX := r.ext KX
  have TX := KX.at HT lt
  have nf : ∀ j, ¬ mfoot s M (h.size + j) := fun j q => by have := r.lt q; omega
  have ntb : ∀ j, h.size + j ≠ tb := fun j => by omega
  obtain ⟨kk, ek, k1, k8⟩ := goodN_le hn
  have n1 : 1 ≤ n := by omega
  have n8 : n ≤ 8 := by omega
  clear ek k1 k8
  by_cases q1 : 18 ≤ i.op ∧ i.op ≤ 21
  · have t1 : decide ((18 : Int) ≤ i.op) = true := decide_eq_true q1.1
    have t2 : decide (i.op ≤ (21 : Int)) = true := decide_eq_true q1.2
    have eF : moveF M.rs (memAt M) t i n sg = ⟨(match firstF M.rs a n 2 with | some b => ⟨4, 2, b⟩ | none => sOk), t, storeB (firstF M.rs a n 2) a n v (memAt M)⟩ := by
      unfold moveF
      simp only [ea, if_pos q1, hr2]
      rw [hv]
      cases firstF M.rs a n 2 with
      | some b => rfl
      | none => rfl
    rw [eF]
    refine Fn_c Tryz.func109 mixed c109 (by kernel_rfl) ?_; rw [r109]
    simp -implicitDefEqProofs (disch := first | omega | (simp only [h_szP, h_szS]; done) | (simp only [h_szP, h_szS]; omega)) only [go_sem, Nat.reduceBEq, reduceCtorEq, Nat.reduceAdd, Int.reduceEq, Int.reduceLT, Int.reduceLE, Int.reduceMul, Int.reduceAdd, Int.reduceSub, reduceIte, Nat.reduceLeDiff, Nat.reduceLT, Nat.reduceMul, Nat.reduceSub, Int.reduceToNat, InstR.v, hrd, hr1, hr2, c1, c2, c35, d1, d2, d3, d4, d5, d6, Nat.mul_one, ha, hv, t1, t2]
    rw [← eX]
    refine FnK.use (mstore_f a n v rX la lv hn) ?_
    intro x h1 ⟨e1, ⟨M', G⟩, s1, o1⟩
    rw [e1]
    have T1 : h1[tb]? = some (sO t.cell) := by rw [o1 tb (by omega) nt]; exact TX
    have p11 : h1[h.size + 1]? = some (.cells #[.int .i64 0, .int .i64 0, .int .u64 0] 49 (0, 0)) := by rw [o1 _ (by omega) (nf 1)]; exact p1
    have l11 := getElem?_lt p11
    cases F : firstF M.rs a n 2 with
    | some b =>
      rw [F] at G
      unfold fltO fltA
      refine gs0 ?_; (try with_reducible exact trivial)
      refine FnK.use (hfault_c _ _ _) ?_
      intro x h2 ⟨e2, K2⟩
      rw [e2]
      have p12 := K2.at p11 l11
      have l12 := getElem?_lt p12
      refine gs2 @p12 StopR.v.eq_1 ?_; (try with_reducible exact trivial)
      have s2 := K2.size
      have nfM' : ∀ b, mfoot s M' b → b ≠ h.size + 1 := fun b f e => by
        rcases G.ft b f with z | z
        · exact nf 1 (e ▸ z)
        · omega
      exact ⟨(K2.old tb (by omega)).trans T1, by omega, ⟨M', G.mono (by omega) fun b f => by rw [h_setN _ _ _ _ (nfM' b f), K2.old b (G.r.lt f)]⟩, fun b hb n1 n2 => by rw [h_setN _ _ _ _ (by omega), K2.old b (by omega), o1 b (by omega) n2, KX.old b hb]⟩
    | none =>
      rw [F] at G
      unfold fltO fltA
      refine gs0 ?_; (try with_reducible exact trivial)
      refine FnK.use (hfault_c _ _ _) ?_
      intro x h2 ⟨e2, K2⟩
      rw [e2]
      have p12 := K2.at p11 l11
      have l12 := getElem?_lt p12
      refine gs2 @p12 StopR.v.eq_1 ?_; (try with_reducible exact trivial)
      have s2 := K2.size
      have nfM' : ∀ b, mfoot s M' b → b ≠ h.size + 1 := fun b f e => by
        rcases G.ft b f with z | z
        · exact nf 1 (e ▸ z)
        · omega
      exact ⟨(K2.old tb (by omega)).trans T1, by omega, ⟨M', G.mono (by omega) fun b f => by rw [h_setN _ _ _ _ (nfM' b f), K2.old b (G.r.lt f)]⟩, fun b hb n1 n2 => by rw [h_setN _ _ _ _ (by omega), K2.old b (by omega), o1 b (by omega) n2, KX.old b hb]⟩
  · have eF : moveF M.rs (memAt M) t i n sg = match firstF M.rs a n 1 with
      | some b => ⟨⟨4, 1, b⟩, t, memAt M⟩
      | none => ⟨sOk, t.set i.rd (if sg = true then sextE (le ((List.range n).map fun k => memAt M (a + k)) : Nat) (8 * n) else (le ((List.range n).map fun k => memAt M (a + k)) : Nat)), memAt M⟩ := by
      unfold moveF
      simp only [ea, if_neg q1]
      cases firstF M.rs a n 1 <;> rfl
    rw [eF]
    obtain ⟨L, hL⟩ : ∃ L, L = le ((List.range n).map fun k => memAt M (a + k)) := ⟨_, rfl⟩
    rw [← hL]
    have q2 : (decide ((18 : Int) ≤ i.op) = true ∧ decide (i.op ≤ (21 : Int)) = false) ∨ decide ((18 : Int) ≤ i.op) = false := by
      by_cases z : (18 : Int) ≤ i.op
      · exact .inl ⟨decide_eq_true z, decide_eq_false (by omega)⟩
      · exact .inr (decide_eq_false z)
    rcases q2 with ⟨t1, t2⟩ | t1
    refine Fn_c Tryz.func109 mixed c109 (by kernel_rfl) ?_; rw [r109]
    simp -implicitDefEqProofs (disch := first | omega | (simp only [h_szP, h_szS]; done) | (simp only [h_szP, h_szS]; omega)) only [go_sem, Nat.reduceBEq, reduceCtorEq, Nat.reduceAdd, Int.reduceEq, Int.reduceLT, Int.reduceLE, Int.reduceMul, Int.reduceAdd, Int.reduceSub, reduceIte, Nat.reduceLeDiff, Nat.reduceLT, Nat.reduceMul, Nat.reduceSub, Int.reduceToNat, InstR.v, hrd, hr1, hr2, c1, c2, c35, d1, d2, d3, d4, d5, d6, Nat.mul_one, ha, hv, t1, t2]
    rotate_left
    refine Fn_c Tryz.func109 mixed c109 (by kernel_rfl) ?_; rw [r109]
    simp -implicitDefEqProofs (disch := first | omega | (simp only [h_szP, h_szS]; done) | (simp only [h_szP, h_szS]; omega)) only [go_sem, Nat.reduceBEq, reduceCtorEq, Nat.reduceAdd, Int.reduceEq, Int.reduceLT, Int.reduceLE, Int.reduceMul, Int.reduceAdd, Int.reduceSub, reduceIte, Nat.reduceLeDiff, Nat.reduceLT, Nat.reduceMul, Nat.reduceSub, Int.reduceToNat, InstR.v, hrd, hr1, hr2, c1, c2, c35, d1, d2, d3, d4, d5, d6, Nat.mul_one, ha, hv, t1]
    rotate_left
    all_goals
      rw [← eX]
      refine FnK.use (mload_f a n rX la hn) ?_
      intro x h1 ⟨e1, K1⟩
      have s1 := K1.size
      have T1 := K1.at TX (by omega)
      have lt1 := getElem?_lt T1
      have p01 := K1.at p0 (by omega)
      have p11 := K1.at p1 (by omega)
      have l01 := getElem?_lt p01
      have l11 := getElem?_lt p11
      have r1' := rX.ext K1
      cases F : firstF M.rs a n 1 with
      | some b =>
        simp only [F] at e1
        rw [e1]
        unfold fltA
        refine gs1 @p11 ?_; (try with_reducible exact trivial)
        refine FnK.use (hfault_c _ _ _) ?_
        intro x h2 ⟨e2, K2⟩
        rw [e2]
        have s2 := K2.size
        have p12 : h2[h.size + 1]? = some (.cells #[.int .i64 0, .int .i64 0, .int .u64 0] 49 (0, 0)) := by rw [K2.old _ (by simp; omega), h_pushL _ _ _ l11]; exact p11
        have l12 := getElem?_lt p12
        refine gs2 @p12 StopR.v.eq_1 ?_; (try with_reducible exact trivial)
        exact ⟨by rw [K2.old tb (by simp; omega), h_pushL _ _ _ lt1]; exact T1, by simp at s2; omega, ⟨M, Gone.refl (r1'.mono fun b f => by rw [h_setN _ _ _ _ (fun e => by have := r.lt f; omega), K2.old b (by have := r.lt f; simp; omega), h_pushL _ _ _ (by have := r.lt f; omega)])⟩, fun b hb n1 n2 => by rw [h_setN _ _ _ _ (by omega), K2.old b (by simp; omega), h_pushL _ _ _ (by omega), K1.old b (by omega), KX.old b hb]⟩
      | none =>
        simp only [F, ← hL] at e1
        rw [e1]
        unfold fltA
        obtain ⟨Y, eY⟩ : ∃ Y, Y = h1.push (.cells #[.int .i64 0, .int .u64 0] 41) := ⟨_, rfl⟩
        have TY : Y[tb]? = some (sO t.cell) := by rw [eY, h_pushL _ _ _ lt1]; exact T1
        have zY : Y.size = h1.size + 1 := by rw [eY]; simp
        cases sg with
        | true =>
          obtain ⟨h2, w2, H2, z2, o2⟩ := xSet TY rd (sextE (L : Int) (8 * (n : Int))) lrd
          rw [eY, h_pushL _ _ _ lt1] at w2
          have p12 : h2[h.size + 1]? = some (.cells #[.int .i64 0, .int .i64 0, .int .u64 0] 49 (0, 0)) := by rw [o2 _ (ntb 1), eY, h_pushL _ _ _ l11]; exact p11
          have l12 := getElem?_lt p12
          refine gs2 @p01 @p11 ?_; (try with_reducible exact trivial)
          refine FnK.val (wdsext_c L (8 * n) (by omega) (by omega) _) ?_
          refine gs7 @p01 @p11 @d1 @d2 @Nat.mul_one @w2 @p12 ?_; (try with_reducible exact trivial)
          exact ⟨rfl, H2, by omega, ⟨M, Gone.refl (r1'.mono fun b f => by rw [h_setN _ _ _ _ (fun e => by have := r.lt f; omega), o2 b (fun e => nt (e ▸ f)), eY, h_pushL _ _ _ (by have := r.lt f; omega)])⟩, fun b hb n1 n2 => by rw [h_setN _ _ _ _ (by omega), o2 b n1, eY, h_pushL _ _ _ (by omega), K1.old b (by omega), KX.old b hb]⟩
        | false =>
          obtain ⟨h2, w2, H2, z2, o2⟩ := xSet TY rd ((L : Int)) lrd
          rw [eY, h_pushL _ _ _ lt1] at w2
          have p12 : h2[h.size + 1]? = some (.cells #[.int .i64 0, .int .i64 0, .int .u64 0] 49 (0, 0)) := by rw [o2 _ (ntb 1), eY, h_pushL _ _ _ l11]; exact p11
          have l12 := getElem?_lt p12
          refine gs7 @p01 @p11 @d1 @d2 @Nat.mul_one @w2 @p12 ?_; (try with_reducible exact trivial)
          exact ⟨rfl, H2, by omega, ⟨M, Gone.refl (r1'.mono fun b f => by rw [h_setN _ _ _ _ (fun e => by have := r.lt f; omega), o2 b (fun e => nt (e ▸ f)), eY, h_pushL _ _ _ (by have := r.lt f; omega)])⟩, fun b hb n1 n2 => by rw [h_setN _ _ _ _ (by omega), o2 b n1, eY, h_pushL _ _ _ (by omega), K1.old b (by omega), KX.old b hb]⟩
end Go.SX.G
