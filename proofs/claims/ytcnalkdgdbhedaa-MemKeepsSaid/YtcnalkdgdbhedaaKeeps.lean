/- MemKeeps, the walk. No condition. -/
import Derived.Test.YtcnalkdgdbhedaaMemH
import Derived.Test.YtcnalkdgdbhedaaBytes
import Derived.Test.YtcnalkdgdbhedaaKeepPlain
set_option linter.unusedVariables false
set_option linter.unusedSimpArgs false
namespace Go.SX.G
open Go Go.SX Go.Proofs
set_option maxRecDepth 100000
set_option maxHeartbeats 4000000
/-- bytes as a number, of the first 'n' of a slice. -/
theorem rget_c {h : Heap} {v : Value} {bs : List Nat} (n : Nat) (h0 : 1 ≤ n) (h8 : n ≤ 8) (hv : Vs h v encB 1 bs) (hn : n ≤ bs.length) (hb : ∀ b ∈ bs, b < 256) :
    Fn Try.prog 29 [v, .int .i64 n] h fun x h' => x = .int .u64 (le (bs.take n) : Nat) ∧ h' = h := by
  obtain ⟨vb, vo, cap, e1, hcap, hvb⟩ := hv.open (i := 0) (by omega)
  subst e1
  have hd1 : decide ((n : Int) < 1) = false := decide_eq_false (by omega)
  have hd2 : decide ((8 : Int) < n) = false := decide_eq_false (by omega)
  refine Fn_c Try.func29 mixed c29 (by kernel_rfl) ?_; rw [r29]
  simp -implicitDefEqProofs (disch := first | omega | (simp only [h_szP, h_szS]; done) | (simp only [h_szP, h_szS]; omega)) only [go_sem, Nat.reduceBEq, reduceCtorEq, Nat.reduceAdd, Int.reduceEq, Int.reduceLT, Int.reduceLE, Int.reduceMul, Int.reduceAdd, Int.reduceSub, reduceIte, Nat.reduceLeDiff, Nat.reduceLT, Nat.reduceMul, Nat.reduceSub, Int.reduceToNat, s29, Try.underlying3, Try.underlying50, sl50, ze5, by5, sz5, sh5, Try.underlying5, Try.underlying22, Try.underlying45, hd1, hd2]
  obtain ⟨I, hI⟩ : ∃ I : Nat → Fr → Heap → Prop, I = fun k fr hh => hh = h ∧ ∃ (i : Nat), i + k = n ∧
      fr = ((((fr0.up 6 (.int .i64 i)).up 5 (.int .u64 (le (bs.take i) : Nat))).up 1 (.int .i64 n)).up 0 (.slice (some ⟨vb, vo, none⟩) bs.length cap)) := ⟨_, rfl⟩
  refine LoopK.use I n (by rw [hI]; exact ⟨rfl, 0, by omega, by simp [le]⟩) ?_
  intro k fr hh hK
  rw [hI] at hK
  obtain ⟨e0, i, hk, hf⟩ := hK
  have e0 := e0.symm
  subst e0
  subst hf
  by_cases hi : i < n
  · have hdi : decide ((i : Int) < n) = true := decide_eq_true (by omega)
    have hdj : decide ((i : Int) < bs.length) = true := decide_eq_true (by omega)
    have hib : i < bs.length := by omega
    have hE : cellO (vo + i) h[vb]? = some (.int .u8 (bs[i] : Nat)) := by
      have := hv.field encB_len hib (j := 0) (by omega)
      simpa [encB] using this
    have hb1 := hb bs[i] (List.getElem_mem hib)
    have hsh := shl_byte bs[i] i hb1 (by omega)
    have htk := le_lt (bs.take i) fun b q => hb b (List.mem_of_mem_take q)
    have htk1 := le_lt (bs.take (i + 1)) fun b q => hb b (List.mem_of_mem_take q)
    rw [List.length_take, Nat.min_eq_left (by omega)] at htk1
    have hle : le (bs.take (i + 1)) = le (bs.take i) + bs[i] * 256 ^ i := by
      rw [take_snoc _ _ hib, le_app, List.length_take, Nat.min_eq_left (by omega)]
    have h64 : 256 ^ (i + 1) ≤ 256 ^ 8 := Nat.pow_le_pow_right (by decide) (by omega)
    have hwr : IntKind.u64.wrap (((le (bs.take i) : Nat) : Int) + ((bs[i] * 256 ^ i : Nat) : Int)) = ((le (bs.take (i + 1)) : Nat) : Int) := by
      rw [hle, wrap_u64]
      have : 256 ^ 8 = 18446744073709551616 := by decide
      omega
    simp -implicitDefEqProofs (disch := first | omega | (simp only [h_szP, h_szS]; done) | (simp only [h_szP, h_szS]; omega)) only [go_sem, Nat.reduceBEq, reduceCtorEq, Nat.reduceAdd, Int.reduceEq, Int.reduceLT, Int.reduceLE, Int.reduceMul, Int.reduceAdd, Int.reduceSub, reduceIte, Nat.reduceLeDiff, Nat.reduceLT, Nat.reduceMul, Nat.reduceSub, Int.reduceToNat, s29, Try.underlying3, Try.underlying50, sl50, ze5, by5, sz5, sh5, Try.underlying5, Try.underlying22, Try.underlying45, hdi, hdj, hE, hsh, hwr, Nat.mul_one]
    refine ⟨k - 1, by omega, ?_⟩
    rw [hI]
    exact ⟨rfl, i + 1, by omega, rfl⟩
  · have e1 : i = n := by omega
    subst e1
    simp -implicitDefEqProofs (disch := first | omega | (simp only [h_szP, h_szS]; done) | (simp only [h_szP, h_szS]; omega)) only [go_sem, Nat.reduceBEq, reduceCtorEq, Nat.reduceAdd, Int.reduceEq, Int.reduceLT, Int.reduceLE, Int.reduceMul, Int.reduceAdd, Int.reduceSub, reduceIte, Nat.reduceLeDiff, Nat.reduceLT, Nat.reduceMul, Nat.reduceSub, Int.reduceToNat, s29, Try.underlying3, Try.underlying50, sl50, ze5, by5, sz5, sh5, Try.underlying5, Try.underlying22, Try.underlying45]
/-- what is loaded: all of it, or the first place that may not be read. -/
theorem load_sum {y : Value} {M : MemD} {a n : Nat} (q : Loadd y M a n) :
    ∃ val gk ga : Nat, y = .tuple #[.int .u64 val, fltA gk ga] ∧ (goodN n = true → (gk = 0 ∧ val = le (peekL M a n) ∧ ∀ i, i < n → okAt M.rs 1 (adr a i)) ∨ (∃ i, i < n ∧ gk = 1 ∧ val = 0 ∧ ga = adr a i ∧ ¬ okAt M.rs 1 (adr a i) ∧ ∀ j, j < i → okAt M.rs 1 (adr a j))) := by
  have e : ((n : Int)).toNat = n := rfl
  cases q with
  | bad c ex => exact ⟨0, 1, a, ex, fun g => by rw [g] at c; cases c⟩
  | flt c b f ex =>
    refine ⟨0, 1, b, ex, fun _ => .inr ?_⟩
    cases f with
    | some i hi h1 h2 => exact ⟨i, by rw [e] at hi; exact hi, rfl, rfl, rfl, h1, h2⟩
  | ok c f ex =>
    refine ⟨_, 0, 0, ex, fun _ => .inl ⟨rfl, by rw [e], ?_⟩⟩
    cases f with
    | none h => exact h
theorem eq_flt0 : (fun (x y : Operand) (a b c d : Int) => binV Try.prog .eql 41 x y (.agg #[.int .i64 a, .int .u64 b]) (.agg #[.int .i64 c, .int .u64 d])) = fun x y a b c d => some (.bool (decide (a = c) && (decide (b = d) && true))) := by kernel_rfl
theorem eq_flt (x y : Operand) (a b c d : Int) : binV Try.prog .eql 41 x y (.agg #[.int .i64 a, .int .u64 b]) (.agg #[.int .i64 c, .int .u64 d]) = some (.bool (decide (a = c) && decide (b = d))) := by
  have := congrFun (congrFun (congrFun (congrFun (congrFun (congrFun eq_flt0 x) y) a) b) c) d
  rw [Bool.and_true] at this; exact this
theorem wr_add2 {A j s : Nat} (h1 : A < 30000) (h2 : j < s) (h3 : s ≤ 8) : IntKind.u64.wrap ((A : Int) + j) = ((A + j : Nat) : Int) := by rw [wrap_u64]; omega
theorem peekL_sub (M : MemD) (n i j k : Nat) (h : i + k ≤ n) (hj : k ≤ j) : (((peekL M 0 n).drop i).take j).take k = peekL M i k := by
  rw [List.take_take, Nat.min_eq_left hj]
  apply List.ext_getElem
  · simp [peekL]; omega
  · intro z h1 h2; simp [peekL]
structure Hold (X : Prop) : Prop where
  x : X
theorem merge {X G : Prop} (f : Hold X → G) (t : X) : G := f ⟨t⟩
/-- a space of pages from 4096 on, each with its own rights. -/
structure KeepI (h : Heap) (s : Nat) (M : MemD) (ps : List Nat) (m : Nat) : Prop where
  r : MR h s M
  most : M.most = 20
  k : KeepR M.rs ps m
/-- a store, done or not. -/
theorem store_sum {h h' : Heap} {s : Nat} {y : Value} {M : MemD} {a n v : Nat} (q : Stord h h' s y M a n v) (r : MR h s M) :
    ∃ (M' : MemD) (f fa : Nat), y = fltA f fa ∧ Chg h h' s M M' n (fun _ => False) ∧ M'.rs = M.rs ∧ ∀ z, memAt M z ≠ memAt M' z → f = 0 ∧ a ≤ z ∧ z < a + n ∧ okAt M.rs 2 (adr a (z - a)) := by
  cases q with
  | no p k ne =>
    obtain ⟨b, e⟩ := ne
    exact ⟨M, 2, b, e, ⟨r.ext k, rfl, rfl, rfl, Fx.of k, (Sr.refl M.D).le (by omega) fun m q => q⟩, rfl, fun z q => absurd rfl q⟩
  | ok c f ex M' g rs byte =>
    have e : ((n : Int)).toNat = n := rfl
    rw [e] at byte f g
    refine ⟨M', 0, 0, ex, g.le (Nat.le_refl _) (fun m q => q.elim), rs, fun z q => ?_⟩
    rw [byte] at q
    by_cases w : a ≤ z ∧ z < a + n
    · refine ⟨rfl, w.1, w.2, ?_⟩
      cases f with
      | none hok => exact hok (z - a) (by omega)
    · rw [if_neg w] at q; exact absurd rfl q
/-- what is handed out, done or not. -/
theorem out_sum {h h' : Heap} {s : Nat} {y : Value} {M : MemD} {a : Nat} {bs : List Nat} (q : Outd h h' s y M a bs) (r : MR h s M) :
    ∃ (M' : MemD) (f : Nat), y = .int .i64 f ∧ Chg h h' s M M' bs.length (fun _ => False) ∧ M'.rs = M.rs ∧ ∀ z, memAt M z ≠ memAt M' z → f = 0 ∧ a ≤ z ∧ z < a + bs.length ∧ okAt M.rs 2 z := by
  cases q with
  | no p k ne =>
    have : ∃ f : Nat, y = .int .i64 f := by
      cases p with
      | inval c ex => exact ⟨22, ex⟩
      | empty c ex => exact ⟨0, ex⟩
      | far c c2 ex => exact ⟨14, ex⟩
      | no c c2 y f ex => exact ⟨14, ex⟩
      | ok c c2 f ex => exact ⟨0, ex⟩
    obtain ⟨f, e⟩ := this
    exact ⟨M, f, e, ⟨r.ext k, rfl, rfl, rfl, Fx.of k, (Sr.refl M.D).le (by omega) fun m q => q⟩, rfl, fun z q => absurd rfl q⟩
  | ok p ex M' g rs byte =>
    refine ⟨M', 0, ex, g.le (Nat.le_refl _) (fun m q => q.elim), rs, fun z q => ?_⟩
    rw [byte] at q
    by_cases w : a ≤ z ∧ z < a + bs.length ∧ z < 274877906944
    · refine ⟨rfl, w.1, w.2.1, ?_⟩
      have e : ((bs.length : Int)).toNat = bs.length := rfl
      cases p with
      | inval c ex2 => rw [ex] at ex2; cases ex2
      | empty c ex2 => omega
      | far c c2 ex2 => rw [ex] at ex2; cases ex2
      | no c c2 y f ex2 => rw [ex] at ex2; cases ex2
      | ok c c2 f ex2 => exact f z w.1 (by rw [e]; exact w.2.1)
    · rw [if_neg w] at q; exact absurd rfl q
theorem memkeeps_c {h : Heap} {v w : Value} {ps bs : List Nat} (hv : Vs h v encB 1 ps) (hps : ∀ x ∈ ps, x < 256) (addr : Nat) (haddr : addr < 4294967296) (n : Nat) (hn : n < 256) (x : Nat) (hx : x < 18446744073709551616) (hw : Vs h w encB 1 bs) (hbs : ∀ x ∈ bs, x < 256) :
    Fn Try.prog 8 [v, .int .u32 addr, .int .u8 n, .int .u64 x, w] h fun r h' => r = .bool true ∧ ∀ b, b < h.size → h'[b]? = h[b]? := by
  obtain ⟨a0, cap0, e1, hcap⟩ := hv.shape
  subst e1
  obtain ⟨a1, cap1, e2, hcap1⟩ := hw.shape
  subst e2
  refine Fn_c Try.func8 mixed c8 (by kernel_rfl) ?_; rw [r8]
  simp -implicitDefEqProofs (disch := first | omega | (simp only [h_szP, h_szS]; done) | (simp only [h_szP, h_szS]; omega)) only [go_sem, Nat.reduceBEq, reduceCtorEq, Nat.reduceAdd, Int.reduceEq, Int.reduceLT, Int.reduceLE, Int.reduceMul, Int.reduceAdd, Int.reduceSub, reduceIte, Nat.reduceLeDiff, Nat.reduceLT, Nat.reduceMul, Nat.reduceSub, Int.reduceToNat, s8, Try.underlying31, Try.underlying50, sl50, ze5, by5, sz5, Try.underlying3, Try.underlying22, Try.underlying5, sh5, Try.underlying49, sl28, ze3, by3, sz3, sh3, zc41, sz41, fo41_0, Try.underlying34, sh41, sd41, pl41_0, pl41_1, Try.underlying41]
  refine FnK.use (mnew_c h 20 (by omega)) ?_
  intro y h1 hx1
  obtain ⟨s, M, e1, R, K1, hF, m1, m2, m3, m4, m5, m6⟩ := hx1
  rw [e1]
  simp -implicitDefEqProofs (disch := first | omega | (simp only [h_szP, h_szS]; done) | (simp only [h_szP, h_szS]; omega)) only [go_sem, Nat.reduceBEq, reduceCtorEq, Nat.reduceAdd, Int.reduceEq, Int.reduceLT, Int.reduceLE, Int.reduceMul, Int.reduceAdd, Int.reduceSub, reduceIte, Nat.reduceLeDiff, Nat.reduceLT, Nat.reduceMul, Nat.reduceSub, Int.reduceToNat, s8, Try.underlying31, Try.underlying50, sl50, ze5, by5, sz5, Try.underlying3, Try.underlying22, Try.underlying5, sh5, Try.underlying49, sl28, ze3, by3, sz3, sh3, zc41, sz41, fo41_0, Try.underlying34, sh41, sd41, pl41_0, pl41_1, Try.underlying41]
  refine FnK.use (answers8_c h1) ?_
  intro y h2 ⟨e2, K2⟩
  rw [e2]
  have R2 := R.ext K2
  have K3 := K1.of_ext K2 (Nat.le_refl _)
  by_cases hbig : 9000 < bs.length
  · have hd : decide ((9000 : Int) < bs.length) = true := decide_eq_true (by omega)
    simp -implicitDefEqProofs (disch := first | omega | (simp only [h_szP, h_szS]; done) | (simp only [h_szP, h_szS]; omega)) only [go_sem, Nat.reduceBEq, reduceCtorEq, Nat.reduceAdd, Int.reduceEq, Int.reduceLT, Int.reduceLE, Int.reduceMul, Int.reduceAdd, Int.reduceSub, reduceIte, Nat.reduceLeDiff, Nat.reduceLT, Nat.reduceMul, Nat.reduceSub, Int.reduceToNat, s8, Try.underlying31, Try.underlying50, sl50, ze5, by5, sz5, Try.underlying3, Try.underlying22, Try.underlying5, sh5, Try.underlying49, sl28, ze3, by3, sz3, sh3, zc41, sz41, fo41_0, Try.underlying34, sh41, sd41, pl41_0, pl41_1, Try.underlying41, hd]
    refine FnK.use (answers8_c h2) ?_
    intro y h3 ⟨e3, K4⟩
    rw [e3]
    simp -implicitDefEqProofs (disch := first | omega | (simp only [h_szP, h_szS]; done) | (simp only [h_szP, h_szS]; omega)) only [go_sem, Nat.reduceBEq, reduceCtorEq, Nat.reduceAdd, Int.reduceEq, Int.reduceLT, Int.reduceLE, Int.reduceMul, Int.reduceAdd, Int.reduceSub, reduceIte, Nat.reduceLeDiff, Nat.reduceLT, Nat.reduceMul, Nat.reduceSub, Int.reduceToNat, s8, Try.underlying31, Try.underlying50, sl50, ze5, by5, sz5, Try.underlying3, Try.underlying22, Try.underlying5, sh5, Try.underlying49, sl28, ze3, by3, sz3, sh3, zc41, sz41, fo41_0, Try.underlying34, sh41, sd41, pl41_0, pl41_1, Try.underlying41]
    exact fun b hb => (K3.of_ext K4 (Nat.le_refl _)).old b hb
  have hd : decide ((9000 : Int) < bs.length) = false := decide_eq_false (by omega)
  simp -implicitDefEqProofs (disch := first | omega | (simp only [h_szP, h_szS]; done) | (simp only [h_szP, h_szS]; omega)) only [go_sem, Nat.reduceBEq, reduceCtorEq, Nat.reduceAdd, Int.reduceEq, Int.reduceLT, Int.reduceLE, Int.reduceMul, Int.reduceAdd, Int.reduceSub, reduceIte, Nat.reduceLeDiff, Nat.reduceLT, Nat.reduceMul, Nat.reduceSub, Int.reduceToNat, s8, Try.underlying31, Try.underlying50, sl50, ze5, by5, sz5, Try.underlying3, Try.underlying22, Try.underlying5, sh5, Try.underlying49, sl28, ze3, by3, sz3, sh3, zc41, sz41, fo41_0, Try.underlying34, sh41, sd41, pl41_0, pl41_1, Try.underlying41, hd]
  obtain ⟨I, hI⟩ : ∃ I : Nat → Fr → Heap → Prop, I = fun k fr hh => ∃ (i : Nat) (M : MemD), i + k = ps.length ∧ i ≤ 6 ∧ KeepI hh s M ps i ∧ Keeps h.size h hh ∧ (∀ b, mfoot s M b → h.size ≤ b) ∧
      fr = (((((((fr0.up 12 (.int .i64 i)).up 11 (ptr s 0)).up 4 (.slice a1 bs.length cap1)).up 3 (.int .u64 x)).up 2 (.int .u8 n)).up 1 (.int .u32 addr)).up 0 (.slice a0 ps.length cap0)) := ⟨_, rfl⟩
  have kr0 : KeepR M.rs ps 0 := by
    rw [m1]
    refine ⟨wfR.nil, by show (4096 : Nat) = (0 + 1) * 4096; rfl, fun y => ?_⟩
    unfold keepP
    rw [if_neg (by omega)]; rfl
  refine LoopK.use I ps.length (by rw [hI]; exact ⟨0, M, by omega, by omega, ⟨R2, m3, kr0⟩, K3, hF, rfl⟩) ?_
  clear R R2 K1 K2 K3 kr0 e1 e2
  intro k fr hh hK
  rw [hI] at hK
  obtain ⟨i, M1, hk, hi6, Q, K3, hF3, hf⟩ := hK
  subst hf
  by_cases hi : i < ps.length ∧ i < 6
  · obtain ⟨hi, hi2⟩ := hi
    have hd1 : decide ((i : Int) < ps.length) = true := decide_eq_true (by omega)
    have hd2 : decide ((i : Int) < 6) = true := decide_eq_true (by omega)
    obtain ⟨N, hN⟩ : ∃ N : Nat, N = (i + 1) * 4096 := ⟨_, rfl⟩
    obtain ⟨N2, hN2⟩ : ∃ N : Nat, N = (i + 2) * 4096 := ⟨_, rfl⟩
    have hA : ((i : Int) + 1) * 4096 = N := by omega
    simp -implicitDefEqProofs (disch := first | omega | (simp only [h_szP, h_szS]; done) | (simp only [h_szP, h_szS]; omega)) only [go_sem, Nat.reduceBEq, reduceCtorEq, Nat.reduceAdd, Int.reduceEq, Int.reduceLT, Int.reduceLE, Int.reduceMul, Int.reduceAdd, Int.reduceSub, reduceIte, Nat.reduceLeDiff, Nat.reduceLT, Nat.reduceMul, Nat.reduceSub, Int.reduceToNat, s8, Try.underlying31, Try.underlying50, sl50, ze5, by5, sz5, Try.underlying3, Try.underlying22, Try.underlying5, sh5, Try.underlying49, sl28, ze3, by3, sz3, sh3, zc41, sz41, fo41_0, Try.underlying34, sh41, sd41, pl41_0, pl41_1, Try.underlying41, hd1, hd2, hA]
    refine FnK.use (mmap_c N 4096 7 true Q.r (by omega) (by omega)) ?_
    intro y h5 hx5
    obtain ⟨rs1, hrs1, w1, w2, w3⟩ := keep_map Q.k (by omega)
    rw [← hN, ← hN2] at hrs1
    rw [← hN2] at w2
    have w3' : ∀ y, protAt rs1 y = if N ≤ y ∧ y < N2 then some 7 else keepP ps i y := fun y => by rw [hN, hN2]; exact w3 y
    have u4 : upN 4096 = 4096 := by decide
    have hNN : N + upN 4096 = N2 := by omega
    have n0 : spanO N 4096 = some N2 := by unfold spanO; rw [u4, if_pos (by omega)]; congr 1
    have sm1 := chain_small (m := i + 1) w1 (by rw [show (i + 1 + 1) * 4096 = N2 by omega]; exact w2) (by omega)
    cases hx5 with
    | bad c => exact absurd (by omega) c
    | noroom c f => cases f
    | nospan c b hb wh => simp only [if_true] at hb; subst hb; rw [n0] at wh; cases wh
    | lay c b hb wh y t ex =>
    simp only [if_true] at hb
    subst hb
    rw [hNN] at t
    have ht : ((7 : Int)).toNat = 7 := rfl
    rw [ht] at t
    cases t with
    | no c =>
      exfalso
      rw [← hrs1, Q.most] at c
      omega
    | yes c1 c2 ey M2 r rs byte most base fin fx sr =>
    rw [← hrs1] at rs
    rcases ex with ⟨e2, _⟩ | ⟨_, e2⟩
    · rw [ey] at e2; cases e2
    rw [e2]
    unfold numE
    obtain ⟨K5, hF5⟩ := fx.own hF3 K3
    simp -implicitDefEqProofs (disch := first | omega | (simp only [h_szP, h_szS]; done) | (simp only [h_szP, h_szS]; omega)) only [go_sem, Nat.reduceBEq, reduceCtorEq, Nat.reduceAdd, Int.reduceEq, Int.reduceLT, Int.reduceLE, Int.reduceMul, Int.reduceAdd, Int.reduceSub, reduceIte, Nat.reduceLeDiff, Nat.reduceLT, Nat.reduceMul, Nat.reduceSub, Int.reduceToNat, s8, Try.underlying31, Try.underlying50, sl50, ze5, by5, sz5, Try.underlying3, Try.underlying22, Try.underlying5, sh5, Try.underlying49, sl28, ze3, by3, sz3, sh3, zc41, sz41, fo41_0, Try.underlying34, sh41, sd41, pl41_0, pl41_1, Try.underlying41]
    have mk1 : ∀ (hh : Heap) (x : Nat), Vs (hh.push (.cells #[.int .u8 x] 5)) (.slice (some ⟨hh.size, 0, none⟩) 1 1) encB 1 [x] := fun hh x =>
      (Ss.mk (lo := 0) encB_len (xs := [x]) [] (h_pushE _ _ _ rfl) rfl rfl (Nat.le_refl _) (Nat.le_refl _) (Nat.zero_le _)).vs
    obtain ⟨J, hJ⟩ : ∃ J : Nat → Fr → Heap → Prop, J = fun k fr hh => ∃ (j : Nat) (M : MemD), j + k = 5000 ∧ j ≤ 4200 ∧ MR hh s M ∧ M.most = 20 ∧ M.rs = rs1 ∧ Keeps h.size h hh ∧ (∀ b, mfoot s M b → h.size ≤ b) ∧
        fr = (((((((((fr0.up 14 (.int .i64 j)).up 13 (.int .u64 b)).up 12 (.int .i64 i)).up 11 (ptr s 0)).up 4 (.slice a1 bs.length cap1)).up 3 (.int .u64 x)).up 2 (.int .u8 n)).up 1 (.int .u32 addr)).up 0 (.slice a0 ps.length cap0)) := ⟨_, rfl⟩
    refine LoopK.use J 5000 (by rw [hJ]; exact ⟨0, M2, rfl, by omega, r, most.trans Q.most, rs, K5, hF5, rfl⟩) ?_
    intro k2 fr hh2 hK2
    rw [hJ] at hK2
    obtain ⟨j, M3, hk2, hj42, R3, most3, rs3, K6, hF6, hf⟩ := hK2
    subst hf
    by_cases hj : j < 4096
    · have hd3 : decide ((j : Int) < 4096) = true := decide_eq_true (by omega)
      have hw1 : IntKind.u64.wrap ((b : Int) + j) = ((b + j : Nat) : Int) := by rw [wrap_u64]; omega
      have hw2 : IntKind.u8.wrap ((i : Int) + j) = (((i + j) % 256 : Nat) : Int) := by rw [wrap_u8]; omega
      simp -implicitDefEqProofs (disch := first | omega | (simp only [h_szP, h_szS]; done) | (simp only [h_szP, h_szS]; omega)) only [go_sem, Nat.reduceBEq, reduceCtorEq, Nat.reduceAdd, Int.reduceEq, Int.reduceLT, Int.reduceLE, Int.reduceMul, Int.reduceAdd, Int.reduceSub, reduceIte, Nat.reduceLeDiff, Nat.reduceLT, Nat.reduceMul, Nat.reduceSub, Int.reduceToNat, s8, Try.underlying31, Try.underlying50, sl50, ze5, by5, sz5, Try.underlying3, Try.underlying22, Try.underlying5, sh5, Try.underlying49, sl28, ze3, by3, sz3, sh3, zc41, sz41, fo41_0, Try.underlying34, sh41, sd41, pl41_0, pl41_1, Try.underlying41, hd3, hw1, hw2]
      refine FnK.use (mput_c (b + j) (R3.ext (Keeps.push _ _ (Nat.le_refl _))) (by omega) (by simp) (mk1 _ ((i + j) % 256)) (fun z q f => ?_) (by simp; omega)) ?_
      · have := R3.lt f
        simp only [blk, Option.some.injEq] at q; omega
      intro y h6 ⟨M4, P4⟩
      have A4 := (P4.g.widen (h0 := _) (Keeps.push _ _ (Nat.le_refl _))).fx.own (h0 := h) hF6 K6
      simp -implicitDefEqProofs (disch := first | omega | (simp only [h_szP, h_szS]; done) | (simp only [h_szP, h_szS]; omega)) only [go_sem, Nat.reduceBEq, reduceCtorEq, Nat.reduceAdd, Int.reduceEq, Int.reduceLT, Int.reduceLE, Int.reduceMul, Int.reduceAdd, Int.reduceSub, reduceIte, Nat.reduceLeDiff, Nat.reduceLT, Nat.reduceMul, Nat.reduceSub, Int.reduceToNat, s8, Try.underlying31, Try.underlying50, sl50, ze5, by5, sz5, Try.underlying3, Try.underlying22, Try.underlying5, sh5, Try.underlying49, sl28, ze3, by3, sz3, sh3, zc41, sz41, fo41_0, Try.underlying34, sh41, sd41, pl41_0, pl41_1, Try.underlying41]
      refine ⟨k2 - 7, by omega, ?_⟩
      rw [hJ]
      exact ⟨j + 7, M4, by omega, by omega, P4.g.r, P4.g.most.trans most3, P4.rs.trans rs3, A4.1, A4.2, rfl⟩
    · have hd3 : decide ((j : Int) < 4096) = false := decide_eq_false (by omega)
      obtain ⟨vb, vo, cap', e1, hcap', hvb⟩ := hv.open hi
      cases e1
      have hE : cellO (vo + i) h[vb]? = some (.int .u8 (ps[i] : Nat)) := by have := hv.field encB_len hi (j := 0) (by omega); simpa [encB] using this
      have hE' := K6.old vb hvb
      have hp8 : ((ps[i] : Nat) : Int) % 8 = ((ps[i] % 8 : Nat) : Int) := by omega
      simp -implicitDefEqProofs (disch := first | omega | (simp only [h_szP, h_szS]; done) | (simp only [h_szP, h_szS]; omega)) only [go_sem, Nat.reduceBEq, reduceCtorEq, Nat.reduceAdd, Int.reduceEq, Int.reduceLT, Int.reduceLE, Int.reduceMul, Int.reduceAdd, Int.reduceSub, reduceIte, Nat.reduceLeDiff, Nat.reduceLT, Nat.reduceMul, Nat.reduceSub, Int.reduceToNat, s8, Try.underlying31, Try.underlying50, sl50, ze5, by5, sz5, Try.underlying3, Try.underlying22, Try.underlying5, sh5, Try.underlying49, sl28, ze3, by3, sz3, sh3, zc41, sz41, fo41_0, Try.underlying34, sh41, sd41, pl41_0, pl41_1, Try.underlying41, hd3, hE', hE, Nat.mul_one, hp8]
      refine FnK.use (mprotect_c b 4096 ((ps[i] % 8 : Nat) : Int) R3 (by omega) (by omega)) ?_
      intro y h6 hx6
      have kp := keep_prot hN hN2 (by omega) hi w1 w2 w3'
      have sm2 := chain_small kp.wf kp.ch (by omega)
      have hall : ∀ y, b ≤ y → y < N2 → (atL M3.rs y).isSome = true := by
        intro y h1 h2
        have := w3' y
        rw [if_pos ⟨h1, h2⟩] at this
        rw [rs3]
        unfold protAt at this
        cases hq : atL rs1 y with
        | none => rw [hq] at this; cases this
        | some r => rfl
      have hpn : (((ps[i] % 8 : Nat) : Int)).toNat = ps[i] % 8 := rfl
      cases hx6 with
      | bad c => rw [n0] at c; rcases c with c | c
                 · cases c
                 · exact absurd (by omega) c
      | hole e c c2 =>
        rw [n0] at c; cases c
        obtain ⟨y, h1, h2, h3⟩ := c2
        have := hall y h1 h2
        rw [h3] at this; cases this
      | no e c c2 =>
        rw [n0] at c; cases c
        rw [hpn, rs3] at c2; omega
      | yes e c hp c1 c2 ex M4 G rs4 byte =>
      rw [n0] at c; cases c
      have A4 := G.fx.own (h0 := h) hF6 K6
      simp -implicitDefEqProofs (disch := first | omega | (simp only [h_szP, h_szS]; done) | (simp only [h_szP, h_szS]; omega)) only [go_sem, Nat.reduceBEq, reduceCtorEq, Nat.reduceAdd, Int.reduceEq, Int.reduceLT, Int.reduceLE, Int.reduceMul, Int.reduceAdd, Int.reduceSub, reduceIte, Nat.reduceLeDiff, Nat.reduceLT, Nat.reduceMul, Nat.reduceSub, Int.reduceToNat, s8, Try.underlying31, Try.underlying50, sl50, ze5, by5, sz5, Try.underlying3, Try.underlying22, Try.underlying5, sh5, Try.underlying49, sl28, ze3, by3, sz3, sh3, zc41, sz41, fo41_0, Try.underlying34, sh41, sd41, pl41_0, pl41_1, Try.underlying41]
      refine ⟨k - 1, by omega, ?_⟩
      rw [hI]
      refine ⟨i + 1, M4, by omega, by omega, ⟨G.r, G.most.trans most3, ?_⟩, A4.1, A4.2, rfl⟩
      rw [rs4, hpn, rs3]
      exact kp
  have him : i ≤ ps.length ∧ (i = ps.length ∨ i = 6) := by omega
  obtain ⟨A, hA⟩ : ∃ A : Nat, A = addr % 30000 := ⟨_, rfl⟩
  have hA2 : (addr : Int) % 30000 = A := by omega
  obtain ⟨sz, hE, hsz⟩ : ∃ sz : Nat, [Value.int .i64 1, Value.int .i64 2, Value.int .i64 4, Value.int .i64 8][((n : Int) % 4).toNat * 1]? = some (.int .i64 sz) ∧ (sz = 1 ∨ sz = 2 ∨ sz = 4 ∨ sz = 8) := by
    have : n % 4 = 0 ∨ n % 4 = 1 ∨ n % 4 = 2 ∨ n % 4 = 3 := by omega
    rcases this with q | q | q | q
    · exact ⟨1, by have : ((n : Int) % 4).toNat * 1 = 0 := by omega
                   rw [this]; rfl, by omega⟩
    · exact ⟨2, by have : ((n : Int) % 4).toNat * 1 = 1 := by omega
                   rw [this]; rfl, by omega⟩
    · exact ⟨4, by have : ((n : Int) % 4).toNat * 1 = 2 := by omega
                   rw [this]; rfl, by omega⟩
    · exact ⟨8, by have : ((n : Int) % 4).toNat * 1 = 3 := by omega
                   rw [this]; rfl, by omega⟩
  have hg : goodN sz = true := by simp [goodN]; omega
  have hA3 : A < 30000 := by omega
  have hs8 : sz ≤ 8 := by omega
  apply merge
  · intro hX
    by_cases hi2 : i < ps.length
    · have hd1 : decide ((i : Int) < ps.length) = true := decide_eq_true (by omega)
      have hd2 : decide ((i : Int) < 6) = false := decide_eq_false (by omega)
      simp -implicitDefEqProofs (disch := first | omega | (simp only [h_szP, h_szS]; done) | (simp only [h_szP, h_szS]; omega)) only [go_sem, Nat.reduceBEq, reduceCtorEq, Nat.reduceAdd, Int.reduceEq, Int.reduceLT, Int.reduceLE, Int.reduceMul, Int.reduceAdd, Int.reduceSub, reduceIte, Nat.reduceLeDiff, Nat.reduceLT, Nat.reduceMul, Nat.reduceSub, Int.reduceToNat, s8, Try.underlying31, Try.underlying50, sl50, ze5, by5, sz5, Try.underlying3, Try.underlying22, Try.underlying5, sh5, Try.underlying49, sl28, ze3, by3, sz3, sh3, zc41, sz41, fo41_0, Try.underlying34, sh41, sd41, pl41_0, pl41_1, Try.underlying41, hd1, hd2]
      exact hX.x
    · have hd1 : decide ((i : Int) < ps.length) = false := decide_eq_false (by omega)
      simp -implicitDefEqProofs (disch := first | omega | (simp only [h_szP, h_szS]; done) | (simp only [h_szP, h_szS]; omega)) only [go_sem, Nat.reduceBEq, reduceCtorEq, Nat.reduceAdd, Int.reduceEq, Int.reduceLT, Int.reduceLE, Int.reduceMul, Int.reduceAdd, Int.reduceSub, reduceIte, Nat.reduceLeDiff, Nat.reduceLT, Nat.reduceMul, Nat.reduceSub, Int.reduceToNat, s8, Try.underlying31, Try.underlying50, sl50, ze5, by5, sz5, Try.underlying3, Try.underlying22, Try.underlying5, sh5, Try.underlying49, sl28, ze3, by3, sz3, sh3, zc41, sz41, fo41_0, Try.underlying34, sh41, sd41, pl41_0, pl41_1, Try.underlying41, hd1]
      exact hX.x
  · clear hi
    refine FnK.use (mpeek_c 0 40000 Q.r (by omega) (by omega) (by omega)) ?_
    intro y h4 ⟨S4, K4⟩
    have K5 := K3.of_ext K4 (Nat.le_refl _)
    have R4 := Q.r.ext K4
    obtain ⟨pb, pc, e4, hpc, hpb, _⟩ := S4.open (i := 0) (by rw [peekL_len]; omega)
    rw [peekL_len] at e4 hpc
    subst e4
    simp -implicitDefEqProofs (disch := first | omega | (simp only [h_szP, h_szS]; done) | (simp only [h_szP, h_szS]; omega)) only [go_sem, Nat.reduceBEq, reduceCtorEq, Nat.reduceAdd, Int.reduceEq, Int.reduceLT, Int.reduceLE, Int.reduceMul, Int.reduceAdd, Int.reduceSub, reduceIte, Nat.reduceLeDiff, Nat.reduceLT, Nat.reduceMul, Nat.reduceSub, Int.reduceToNat, s8, Try.underlying31, Try.underlying50, sl50, ze5, by5, sz5, Try.underlying3, Try.underlying22, Try.underlying5, sh5, Try.underlying49, sl28, ze3, by3, sz3, sh3, zc41, sz41, fo41_0, Try.underlying34, sh41, sd41, pl41_0, pl41_1, Try.underlying41, hA2, hE]
    refine FnK.use (mstore_c A sz x (R4.ext (Keeps.push _ _ (Nat.le_refl _))) (by omega) hx) ?_
    intro y h5 hx5
    have K5' : Keeps h.size h (h4.push (.cells #[.int .i64 1, .int .i64 2, .int .i64 4, .int .i64 8] 3)) := K5.push' (Nat.le_refl _)
    obtain ⟨M2, f, fa, ey, G2, rs2, st⟩ := store_sum hx5 (R4.ext (Keeps.push _ _ (Nat.le_refl _)))
    subst ey
    have A2 := G2.fx.own (h0 := h) hF3 K5'
    unfold fltA
    simp -implicitDefEqProofs (disch := first | omega | (simp only [h_szP, h_szS]; done) | (simp only [h_szP, h_szS]; omega)) only [go_sem, Nat.reduceBEq, reduceCtorEq, Nat.reduceAdd, Int.reduceEq, Int.reduceLT, Int.reduceLE, Int.reduceMul, Int.reduceAdd, Int.reduceSub, reduceIte, Nat.reduceLeDiff, Nat.reduceLT, Nat.reduceMul, Nat.reduceSub, Int.reduceToNat, s8, Try.underlying31, Try.underlying50, sl50, ze5, by5, sz5, Try.underlying3, Try.underlying22, Try.underlying5, sh5, Try.underlying49, sl28, ze3, by3, sz3, sh3, zc41, sz41, fo41_0, Try.underlying34, sh41, sd41, pl41_0, pl41_1, Try.underlying41]
    have hfb : (h5.push (.cells #[.int .i64 f, .int .u64 fa] 41))[h5.size]? = some (.cells #[.int .i64 f, .int .u64 fa] 41 (0, 0)) := h_pushE _ _ _ rfl
    have R5 := G2.r.ext (Keeps.push h5 (.cells #[.int .i64 f, .int .u64 fa] 41) (Nat.le_refl _))
    have K6 : Keeps h.size h (h5.push (.cells #[.int .i64 f, .int .u64 fa] 41)) := A2.1.push' (Nat.le_refl _)
    refine FnK.use (mout_c A R5 (by omega) (by omega) (hw.keeps K6 fun b q => hw.blk_lt q) (fun b q z => by have := A2.2 b z; have := hw.blk_lt q; omega) hbs) ?_
    intro y h6 hx6
    obtain ⟨M3, f2, ey, G3, rs3, st3⟩ := out_sum hx6 R5
    subst ey
    have A3 := G3.fx.own (h0 := h) A2.2 K6
    simp -implicitDefEqProofs (disch := first | omega | (simp only [h_szP, h_szS]; done) | (simp only [h_szP, h_szS]; omega)) only [go_sem, Nat.reduceBEq, reduceCtorEq, Nat.reduceAdd, Int.reduceEq, Int.reduceLT, Int.reduceLE, Int.reduceMul, Int.reduceAdd, Int.reduceSub, reduceIte, Nat.reduceLeDiff, Nat.reduceLT, Nat.reduceMul, Nat.reduceSub, Int.reduceToNat, s8, Try.underlying31, Try.underlying50, sl50, ze5, by5, sz5, Try.underlying3, Try.underlying22, Try.underlying5, sh5, Try.underlying49, sl28, ze3, by3, sz3, sh3, zc41, sz41, fo41_0, Try.underlying34, sh41, sd41, pl41_0, pl41_1, Try.underlying41]
    refine FnK.use (mpeek_c 0 40000 G3.r (by omega) (by omega) (by omega)) ?_
    intro y h7 ⟨S7, K7⟩
    obtain ⟨pb2, pc2, e7, hpc2, hpb2, _⟩ := S7.open (i := 0) (by rw [peekL_len]; omega)
    rw [peekL_len] at e7 hpc2
    subst e7
    have K8 := A3.1.of_ext K7 (Nat.le_refl _)
    have R7 := G3.r.ext K7
    have sz4 := K4.size
    have sz5 := G2.fx.size
    have sz6 := G3.fx.size
    have sz7 := K7.size
    simp only [Array.size_push] at sz5 sz6
    have hpb' := S4.blk (b := pb) rfl
    have cB : h7[pb]? = h4[pb]? := by
      rw [K7.old pb (by omega), G3.fx.old pb (by simp; omega) (fun z => ?_), h_pushL _ _ _ (by omega), G2.fx.old pb (by simp; omega) (fun z => ?_), h_pushL _ _ _ (by omega)]
      · have := Q.r.lt z; omega
      · rcases G2.fx.ft pb z with z | z
        · have := Q.r.lt z; omega
        · simp at z; omega
    have cF : h7[h5.size]? = some (.cells #[.int .i64 f, .int .u64 fa] 41 (0, 0)) := by
      rw [K7.old _ (by omega), G3.fx.old _ (by simp) (fun z => ?_), hfb]
      have := G2.r.lt z; omega
    have hB : ∀ j, j < 40000 → cellO (0 + j * 1) h7[pb]? = some (.int .u8 (memAt M1 j : Nat)) := by
      intro j hj
      rw [cB]
      have := S4.vs.field encB_len (i := j) (j := 0) (by rw [peekL_len]; exact hj) (by omega)
      simpa [encB, peekL] using this
    have hB2 : ∀ j, j < 40000 → cellO (0 + j * 1) h7[pb2]? = some (.int .u8 (memAt M3 j : Nat)) := by
      intro j hj
      have := S7.vs.field encB_len (i := j) (j := 0) (by rw [peekL_len]; exact hj) (by omega)
      simpa [encB, peekL] using this
    simp only [Nat.zero_add, Nat.mul_one] at hB hB2
    have cP : ∀ b, b < h.size → h7[b]? = h[b]? := fun b hb => K8.old b hb
    have changed : ∀ j, j < 40000 → memAt M1 j ≠ memAt M3 j → (4096 ≤ j ∧ j / 4096 - 1 < i ∧ ps.getD (j / 4096 - 1) 0 % 8 &&& 2 = 2) ∧ ((f = 0 ∧ A ≤ j ∧ j < A + sz) ∨ (f2 = 0 ∧ A ≤ j ∧ j < A + bs.length)) := by
      intro j hj ne
      have key : okAt M1.rs 2 j → 4096 ≤ j ∧ j / 4096 - 1 < i ∧ ps.getD (j / 4096 - 1) 0 % 8 &&& 2 = 2 := by
        intro hok
        obtain ⟨q, e1, e2⟩ := okAt_iff.1 hok
        rw [Q.k.pr] at e1
        unfold keepP at e1
        split at e1
        · rename_i hc
          cases e1
          exact ⟨hc.1, by omega, e2⟩
        · cases e1
      by_cases e1 : memAt M1 j = memAt M2 j
      · have := st3 j (by rw [← e1]; exact ne)
        exact ⟨key (by rw [← rs2]; exact this.2.2.2), .inr ⟨this.1, this.2.1, this.2.2.1⟩⟩
      · have := st j e1
        have e2 : adr A (j - A) = j := by unfold adr; omega
        exact ⟨key (by rw [e2] at this; exact this.2.2.2), .inl ⟨this.1, this.2.1, this.2.2.1⟩⟩
    simp -implicitDefEqProofs (disch := first | omega | (simp only [h_szP, h_szS]; done) | (simp only [h_szP, h_szS]; omega)) only [go_sem, Nat.reduceBEq, reduceCtorEq, Nat.reduceAdd, Int.reduceEq, Int.reduceLT, Int.reduceLE, Int.reduceMul, Int.reduceAdd, Int.reduceSub, reduceIte, Nat.reduceLeDiff, Nat.reduceLT, Nat.reduceMul, Nat.reduceSub, Int.reduceToNat, s8, Try.underlying31, Try.underlying50, sl50, ze5, by5, sz5, Try.underlying3, Try.underlying22, Try.underlying5, sh5, Try.underlying49, sl28, ze3, by3, sz3, sh3, zc41, sz41, fo41_0, Try.underlying34, sh41, sd41, pl41_0, pl41_1, Try.underlying41]
    obtain ⟨J, hJ⟩ : ∃ J : Nat → Fr → Heap → Prop, J = fun k fr hh => hh = h7 ∧ ∃ (j : Nat), j + k = 40000 ∧
        fr = ((((((((((fr0.up 21 (.int .i64 j)).up 20 (.slice (some ⟨pb2, 0, none⟩) 40000 pc2)).up 19 (.int .i64 f2)).up 18 (ptr h5.size 0)).up 17 (.int .i64 sz)).up 16 (.int .u64 A)).up 15 (.slice (some ⟨pb, 0, none⟩) 40000 pc)).up 11 (ptr s 0)).up 4 (.slice a1 bs.length cap1)).up 0 (.slice a0 ps.length cap0)) := ⟨_, rfl⟩
    refine LoopK.use J 40000 (by rw [hJ]; exact ⟨rfl, 0, rfl, rfl⟩) ?_
    intro k2 fr hh2 hK2
    rw [hJ] at hK2
    obtain ⟨eh, j, hk2, hf⟩ := hK2
    have eh := eh.symm
    subst eh
    subst hf
    by_cases hj : j < 40000
    · have hd3 : decide ((j : Int) < 40000) = true := decide_eq_true (by omega)
      have hBj := hB j hj
      have hB2j := hB2 j hj
      have chj := changed j hj
      have next : ∃ k', k' < k2 ∧ J k' ((((((((((fr0.up 21 (.int .i64 ((j : Int) + 1))).up 20 (.slice (some ⟨pb2, 0, none⟩) 40000 pc2)).up 19 (.int .i64 f2)).up 18 (ptr h5.size 0)).up 17 (.int .i64 sz)).up 16 (.int .u64 A)).up 15 (.slice (some ⟨pb, 0, none⟩) 40000 pc)).up 11 (ptr s 0)).up 4 (.slice a1 bs.length cap1)).up 0 (.slice a0 ps.length cap0)) h7 := by
        refine ⟨k2 - 1, by omega, ?_⟩
        rw [hJ]
        exact ⟨rfl, j + 1, by omega, rfl⟩
      by_cases ne : memAt M1 j = memAt M3 j
      · have same : (((memAt M1 j : Nat) : Int) = (memAt M3 j : Nat)) = True := eq_true (by rw [ne])
        have four : (j < 4096) ∨ (4096 ≤ j ∧ ¬ j / 4096 - 1 < ps.length) ∨ (4096 ≤ j ∧ j / 4096 - 1 < ps.length ∧ ¬ j / 4096 - 1 < 6) ∨ (4096 ≤ j ∧ j / 4096 - 1 < ps.length ∧ j / 4096 - 1 < 6) := by omega
        obtain ⟨p, hp⟩ : ∃ p, p = j / 4096 - 1 := ⟨_, rfl⟩
        rw [← hp] at four
        rcases four with q | q | q | q
        · have hq : (j : Int) / 4096 - 1 = -1 := by omega
          simp -implicitDefEqProofs (maxSteps := 4000000) (disch := first | omega | (simp only [h_szP, h_szS]; done) | (simp only [h_szP, h_szS]; omega)) only [go_sem, Nat.reduceBEq, reduceCtorEq, Nat.reduceAdd, Int.reduceEq, Int.reduceLT, Int.reduceLE, Int.reduceMul, Int.reduceAdd, Int.reduceSub, reduceIte, Nat.reduceLeDiff, Nat.reduceLT, Nat.reduceMul, Nat.reduceSub, Int.reduceToNat, s8, Try.underlying31, Try.underlying50, sl50, ze5, by5, sz5, Try.underlying3, Try.underlying22, Try.underlying5, sh5, Try.underlying49, sl28, ze3, by3, sz3, sh3, zc41, sz41, fo41_0, Try.underlying34, sh41, sd41, pl41_0, pl41_1, Try.underlying41, hd3, hq, cF, hBj, hB2j, same, Nat.mul_one, next, implies_true, and_true]
        · have hq : (j : Int) / 4096 - 1 = p := by omega
          have hm0 : decide ((0 : Int) ≤ p) = true := decide_eq_true (by omega)
          have hm1 : decide ((p : Int) < ps.length) = false := decide_eq_false (by omega)
          simp -implicitDefEqProofs (maxSteps := 4000000) (disch := first | omega | (simp only [h_szP, h_szS]; done) | (simp only [h_szP, h_szS]; omega)) only [go_sem, Nat.reduceBEq, reduceCtorEq, Nat.reduceAdd, Int.reduceEq, Int.reduceLT, Int.reduceLE, Int.reduceMul, Int.reduceAdd, Int.reduceSub, reduceIte, Nat.reduceLeDiff, Nat.reduceLT, Nat.reduceMul, Nat.reduceSub, Int.reduceToNat, s8, Try.underlying31, Try.underlying50, sl50, ze5, by5, sz5, Try.underlying3, Try.underlying22, Try.underlying5, sh5, Try.underlying49, sl28, ze3, by3, sz3, sh3, zc41, sz41, fo41_0, Try.underlying34, sh41, sd41, pl41_0, pl41_1, Try.underlying41, hd3, hq, hm0, hm1, cF, hBj, hB2j, same, Nat.mul_one, next, implies_true, and_true]
        · have hq : (j : Int) / 4096 - 1 = p := by omega
          have hm0 : decide ((0 : Int) ≤ p) = true := decide_eq_true (by omega)
          have hm1 : decide ((p : Int) < ps.length) = true := decide_eq_true (by omega)
          have hm2 : decide ((p : Int) < 6) = false := decide_eq_false (by omega)
          simp -implicitDefEqProofs (maxSteps := 4000000) (disch := first | omega | (simp only [h_szP, h_szS]; done) | (simp only [h_szP, h_szS]; omega)) only [go_sem, Nat.reduceBEq, reduceCtorEq, Nat.reduceAdd, Int.reduceEq, Int.reduceLT, Int.reduceLE, Int.reduceMul, Int.reduceAdd, Int.reduceSub, reduceIte, Nat.reduceLeDiff, Nat.reduceLT, Nat.reduceMul, Nat.reduceSub, Int.reduceToNat, s8, Try.underlying31, Try.underlying50, sl50, ze5, by5, sz5, Try.underlying3, Try.underlying22, Try.underlying5, sh5, Try.underlying49, sl28, ze3, by3, sz3, sh3, zc41, sz41, fo41_0, Try.underlying34, sh41, sd41, pl41_0, pl41_1, Try.underlying41, hd3, hq, hm0, hm1, hm2, cF, hBj, hB2j, same, Nat.mul_one, next, implies_true, and_true]
        · have hq : (j : Int) / 4096 - 1 = p := by omega
          have hm0 : decide ((0 : Int) ≤ p) = true := decide_eq_true (by omega)
          have hpl : p < ps.length := q.2.1
          have hm1 : decide ((p : Int) < ps.length) = true := decide_eq_true (by omega)
          have hm2 : decide ((p : Int) < 6) = true := decide_eq_true (by omega)
          obtain ⟨vb, vo, cap', e1, hcap', hvb⟩ := hv.open hpl
          cases e1
          have hE2 : cellO (vo + p) h7[vb]? = some (.int .u8 (ps[p] : Nat)) := by rw [cP vb hvb]; have := hv.field encB_len hpl (j := 0) (by omega); simpa [encB] using this
          simp -implicitDefEqProofs (maxSteps := 4000000) (disch := first | omega | (simp only [h_szP, h_szS]; done) | (simp only [h_szP, h_szS]; omega)) only [go_sem, Nat.reduceBEq, reduceCtorEq, Nat.reduceAdd, Int.reduceEq, Int.reduceLT, Int.reduceLE, Int.reduceMul, Int.reduceAdd, Int.reduceSub, reduceIte, Nat.reduceLeDiff, Nat.reduceLT, Nat.reduceMul, Nat.reduceSub, Int.reduceToNat, s8, Try.underlying31, Try.underlying50, sl50, ze5, by5, sz5, Try.underlying3, Try.underlying22, Try.underlying5, sh5, Try.underlying49, sl28, ze3, by3, sz3, sh3, zc41, sz41, fo41_0, Try.underlying34, sh41, sd41, pl41_0, pl41_1, Try.underlying41, hd3, hq, hm0, hm1, hm2, hE2, cF, hBj, hB2j, same, Nat.mul_one, next, implies_true, and_true]
      · have same : (((memAt M1 j : Nat) : Int) = (memAt M3 j : Nat)) = False := eq_false (by omega)
        obtain ⟨⟨c1, c2, c3⟩, c4⟩ := chj ne
        obtain ⟨p, hp⟩ : ∃ p, p = j / 4096 - 1 := ⟨_, rfl⟩
        have hq : (j : Int) / 4096 - 1 = p := by omega
        have hm0 : decide ((0 : Int) ≤ p) = true := decide_eq_true (by omega)
        have hpl : p < ps.length := by omega
        have hm1 : decide ((p : Int) < ps.length) = true := decide_eq_true (by omega)
        have hm2 : decide ((p : Int) < 6) = true := decide_eq_true (by omega)
        obtain ⟨vb, vo, cap', e1, hcap', hvb⟩ := hv.open hpl
        cases e1
        have hE2 : cellO (vo + p) h7[vb]? = some (.int .u8 (ps[p] : Nat)) := by rw [cP vb hvb]; have := hv.field encB_len hpl (j := 0) (by omega); simpa [encB] using this
        have bits := bit_of_u8 ⟨ps[p], hps ps[p] (List.getElem_mem hpl)⟩
        simp only at bits
        have hand := bits.2.1
        rw [← hp, List.getD_eq_getElem?_getD, List.getElem?_eq_getElem hpl] at c3
        have hnz := bits.2.2.2.1 c3
        have hb0 : (((ps[p] &&& 2 : Nat) : Int) = 0) = False := eq_false (by omega)
        have ins3 : (decide ((A : Int) ≤ j) = true ∧ ((f : Int) = 0) = True ∧ decide ((j : Int) < A + sz) = true) ∨ (decide ((A : Int) ≤ j) = true ∧ ((f : Int) = 0) = False ∧ ((f2 : Int) = 0) = True ∧ decide ((j : Int) < A + bs.length) = true) ∨ (decide ((A : Int) ≤ j) = true ∧ ((f : Int) = 0) = True ∧ decide ((j : Int) < A + sz) = false ∧ ((f2 : Int) = 0) = True ∧ decide ((j : Int) < A + bs.length) = true) := by
          rcases c4 with ⟨u1, u2, u3⟩ | ⟨u1, u2, u3⟩
          · exact .inl ⟨decide_eq_true (by omega), eq_true (by omega), decide_eq_true (by omega)⟩
          · by_cases q2 : f = 0
            · by_cases q3 : j < A + sz
              · exact .inl ⟨decide_eq_true (by omega), eq_true (by omega), decide_eq_true (by omega)⟩
              · exact .inr (.inr ⟨decide_eq_true (by omega), eq_true (by omega), decide_eq_false (by omega), eq_true (by omega), decide_eq_true (by omega)⟩)
            · exact .inr (.inl ⟨decide_eq_true (by omega), eq_false (by omega), eq_true (by omega), decide_eq_true (by omega)⟩)
        rcases ins3 with hin | hin | hin <;> (simp -implicitDefEqProofs (maxSteps := 4000000) (disch := first | omega | (simp only [h_szP, h_szS]; done) | (simp only [h_szP, h_szS]; omega)) only [go_sem, Nat.reduceBEq, reduceCtorEq, Nat.reduceAdd, Int.reduceEq, Int.reduceLT, Int.reduceLE, Int.reduceMul, Int.reduceAdd, Int.reduceSub, reduceIte, Nat.reduceLeDiff, Nat.reduceLT, Nat.reduceMul, Nat.reduceSub, Int.reduceToNat, s8, Try.underlying31, Try.underlying50, sl50, ze5, by5, sz5, Try.underlying3, Try.underlying22, Try.underlying5, sh5, Try.underlying49, sl28, ze3, by3, sz3, sh3, zc41, sz41, fo41_0, Try.underlying34, sh41, sd41, pl41_0, pl41_1, Try.underlying41, hd3, hq, hm0, hm1, hm2, hE2, hand, hb0, cF, hin, hBj, hB2j, same, Nat.mul_one]; exact next)
    · have hd3 : decide ((j : Int) < 40000) = false := decide_eq_false (by omega)
      simp -implicitDefEqProofs (disch := first | omega | (simp only [h_szP, h_szS]; done) | (simp only [h_szP, h_szS]; omega)) only [go_sem, Nat.reduceBEq, reduceCtorEq, Nat.reduceAdd, Int.reduceEq, Int.reduceLT, Int.reduceLE, Int.reduceMul, Int.reduceAdd, Int.reduceSub, reduceIte, Nat.reduceLeDiff, Nat.reduceLT, Nat.reduceMul, Nat.reduceSub, Int.reduceToNat, s8, Try.underlying31, Try.underlying50, sl50, ze5, by5, sz5, Try.underlying3, Try.underlying22, Try.underlying5, sh5, Try.underlying49, sl28, ze3, by3, sz3, sh3, zc41, sz41, fo41_0, Try.underlying34, sh41, sd41, pl41_0, pl41_1, Try.underlying41, hd3]
      refine FnK.use (mload_c A sz R7 (by omega)) ?_
      intro y h8 ⟨L8, K8'⟩
      obtain ⟨val, gk, ga, ey, ls⟩ := load_sum L8
      subst ey
      unfold fltA
      simp -implicitDefEqProofs (disch := first | omega | (simp only [h_szP, h_szS]; done) | (simp only [h_szP, h_szS]; omega)) only [go_sem, Nat.reduceBEq, reduceCtorEq, Nat.reduceAdd, Int.reduceEq, Int.reduceLT, Int.reduceLE, Int.reduceMul, Int.reduceAdd, Int.reduceSub, reduceIte, Nat.reduceLeDiff, Nat.reduceLT, Nat.reduceMul, Nat.reduceSub, Int.reduceToNat, s8, Try.underlying31, Try.underlying50, sl50, ze5, by5, sz5, Try.underlying3, Try.underlying22, Try.underlying5, sh5, Try.underlying49, sl28, ze3, by3, sz3, sh3, zc41, sz41, fo41_0, Try.underlying34, sh41, sd41, pl41_0, pl41_1, Try.underlying41]
      have hgb : (h8.push (.cells #[.int .i64 gk, .int .u64 ga] 41))[h8.size]? = some (.cells #[.int .i64 gk, .int .u64 ga] 41 (0, 0)) := h_pushE _ _ _ rfl
      have K9 : Keeps h7.size h7 (h8.push (.cells #[.int .i64 gk, .int .u64 ga] 41)) := K8'.push' (Nat.le_refl _)
      have s8 := K8'.size
      obtain ⟨H, hH⟩ : ∃ H : Heap, H = h8.push (.cells #[.int .i64 gk, .int .u64 ga] 41) := ⟨_, rfl⟩
      rw [← hH] at hgb K9 ⊢
      have cP9 : ∀ b, b < h.size → H[b]? = h[b]? := fun b hb => by rw [K9.old b (by have := K8.size; omega), cP b hb]
      have okI : ∀ j, j < sz → (okAt M3.rs 1 (adr A j) ↔ 4096 ≤ A + j ∧ (A + j) / 4096 - 1 < i ∧ ps.getD ((A + j) / 4096 - 1) 0 % 8 &&& 1 = 1) := by
        intro j hj
        have e2 : adr A j = A + j := by unfold adr; omega
        rw [rs3, rs2, okAt_iff, e2, Q.k.pr]
        unfold keepP
        by_cases c : 4096 ≤ A + j ∧ A + j < (i + 1) * 4096
        · rw [if_pos c]
          refine ⟨fun ⟨q, e, z⟩ => ?_, fun ⟨_, _, z⟩ => ⟨_, rfl, z⟩⟩
          cases e
          exact ⟨c.1, by omega, z⟩
        · rw [if_neg c]
          refine ⟨fun ⟨q, e, z⟩ => ?_, fun ⟨z1, z2, z⟩ => absurd ⟨z1, by omega⟩ c⟩
          cases e
      have ls := ls hg
      obtain ⟨J2, hJ2⟩ : ∃ J : Nat → Fr → Heap → Prop, J = fun k fr hh => hh = H ∧ ∃ (j : Nat), j + k = sz ∧ (∀ z, z < j → okAt M3.rs 1 (adr A z)) ∧
          fr = (((((((fr0.up 27 (.int .i64 j)).up 26 (ptr h8.size 0)).up 25 (.int .u64 val)).up 20 (.slice (some ⟨pb2, 0, none⟩) 40000 pc2)).up 17 (.int .i64 sz)).up 16 (.int .u64 A)).up 0 (.slice a0 ps.length cap0)) := ⟨_, rfl⟩
      refine LoopK.use J2 sz (by rw [hJ2]; exact ⟨rfl, 0, by omega, fun z hz => absurd hz (by omega), rfl⟩) ?_
      intro k3 fr hh3 hK3
      rw [hJ2] at hK3
      obtain ⟨eh, j2, hk3, hoks, hf⟩ := hK3
      have eh := eh.symm
      subst eh
      subst hf
      by_cases hj2 : j2 < sz
      · have hd5 : decide ((j2 : Int) < sz) = true := decide_eq_true (by omega)
        have okj := okI j2 hj2
        have next : ∃ k', k' < k3 ∧ (okAt M3.rs 1 (adr A j2) → J2 k' (((((((fr0.up 27 (.int .i64 ((j2 : Int) + 1))).up 26 (ptr h8.size 0)).up 25 (.int .u64 val)).up 20 (.slice (some ⟨pb2, 0, none⟩) 40000 pc2)).up 17 (.int .i64 sz)).up 16 (.int .u64 A)).up 0 (.slice a0 ps.length cap0)) H) := by
          refine ⟨k3 - 1, by omega, fun hok => ?_⟩
          rw [hJ2]
          exact ⟨rfl, j2 + 1, by omega, fun z hz => by
            by_cases e : z = j2
            · rw [e]; exact hok
            · exact hoks z (by omega), rfl⟩
        have hfault : ¬ okAt M3.rs 1 (adr A j2) → ((gk : Nat) : Int) = 1 ∧ ((val : Nat) : Int) = 0 ∧ ((ga : Nat) : Int) = ((A + j2 : Nat) : Int) := by
          intro hno
          rcases ls with ⟨e1, e2, e3⟩ | ⟨i0, e0, e1, e2, e3, e4, e5⟩
          · exact absurd (e3 j2 hj2) hno
          · have : i0 = j2 := by
              rcases Nat.lt_trichotomy i0 j2 with q | q | q
              · exact absurd (hoks i0 q) e4
              · exact q
              · exact absurd (e5 j2 q) hno
            have e6 : adr A i0 = A + i0 := by unfold adr; omega
            rw [e6] at e3
            omega
        have hw7 : IntKind.u64.wrap ((A : Int) + j2) = ((A + j2 : Nat) : Int) := wr_add2 hA3 hj2 hs8
        obtain ⟨p, hp⟩ : ∃ p, p = (A + j2) / 4096 - 1 := ⟨_, rfl⟩
        have four : (A + j2 < 4096) ∨ (4096 ≤ A + j2 ∧ ¬ p < ps.length) ∨ (4096 ≤ A + j2 ∧ p < ps.length ∧ ¬ p < 6) ∨ (4096 ≤ A + j2 ∧ p < ps.length ∧ p < 6) := by omega
        rw [← hp] at okj
        rcases four with q | q | q | q
        · have hno : ¬ okAt M3.rs 1 (adr A j2) := fun z => by have := okj.1 z; omega
          have hq : ((A : Int) + j2) / 4096 - 1 = -1 := by omega
          obtain ⟨f1, f2, f3⟩ := hfault hno
          simp -implicitDefEqProofs (disch := first | omega | (simp only [h_szP, h_szS]; done) | (simp only [h_szP, h_szS]; omega)) only [go_sem, Nat.reduceBEq, reduceCtorEq, Nat.reduceAdd, Int.reduceEq, Int.reduceLT, Int.reduceLE, Int.reduceMul, Int.reduceAdd, Int.reduceSub, reduceIte, Nat.reduceLeDiff, Nat.reduceLT, Nat.reduceMul, Nat.reduceSub, Int.reduceToNat, s8, Try.underlying31, Try.underlying50, sl50, ze5, by5, sz5, Try.underlying3, Try.underlying22, Try.underlying5, sh5, Try.underlying49, sl28, ze3, by3, sz3, sh3, zc41, sz41, fo41_0, Try.underlying34, sh41, sd41, pl41_0, pl41_1, Try.underlying41, hd5, hq, hgb, hw7, f1, f2, f3, eq_flt, decide_true, Bool.and_true]
          exact cP9
        · have hno : ¬ okAt M3.rs 1 (adr A j2) := fun z => by have := okj.1 z; omega
          have hq : ((A : Int) + j2) / 4096 - 1 = p := by omega
          have hm0 : decide ((0 : Int) ≤ p) = true := decide_eq_true (by omega)
          have hm1 : decide ((p : Int) < ps.length) = false := decide_eq_false (by omega)
          obtain ⟨f1, f2, f3⟩ := hfault hno
          simp -implicitDefEqProofs (disch := first | omega | (simp only [h_szP, h_szS]; done) | (simp only [h_szP, h_szS]; omega)) only [go_sem, Nat.reduceBEq, reduceCtorEq, Nat.reduceAdd, Int.reduceEq, Int.reduceLT, Int.reduceLE, Int.reduceMul, Int.reduceAdd, Int.reduceSub, reduceIte, Nat.reduceLeDiff, Nat.reduceLT, Nat.reduceMul, Nat.reduceSub, Int.reduceToNat, s8, Try.underlying31, Try.underlying50, sl50, ze5, by5, sz5, Try.underlying3, Try.underlying22, Try.underlying5, sh5, Try.underlying49, sl28, ze3, by3, sz3, sh3, zc41, sz41, fo41_0, Try.underlying34, sh41, sd41, pl41_0, pl41_1, Try.underlying41, hd5, hq, hm0, hm1, hgb, hw7, f1, f2, f3, eq_flt, decide_true, Bool.and_true]
          exact cP9
        · have hno : ¬ okAt M3.rs 1 (adr A j2) := fun z => by have := okj.1 z; omega
          have hq : ((A : Int) + j2) / 4096 - 1 = p := by omega
          have hm0 : decide ((0 : Int) ≤ p) = true := decide_eq_true (by omega)
          have hm1 : decide ((p : Int) < ps.length) = true := decide_eq_true (by omega)
          have hm2 : decide ((p : Int) < 6) = false := decide_eq_false (by omega)
          obtain ⟨f1, f2, f3⟩ := hfault hno
          simp -implicitDefEqProofs (disch := first | omega | (simp only [h_szP, h_szS]; done) | (simp only [h_szP, h_szS]; omega)) only [go_sem, Nat.reduceBEq, reduceCtorEq, Nat.reduceAdd, Int.reduceEq, Int.reduceLT, Int.reduceLE, Int.reduceMul, Int.reduceAdd, Int.reduceSub, reduceIte, Nat.reduceLeDiff, Nat.reduceLT, Nat.reduceMul, Nat.reduceSub, Int.reduceToNat, s8, Try.underlying31, Try.underlying50, sl50, ze5, by5, sz5, Try.underlying3, Try.underlying22, Try.underlying5, sh5, Try.underlying49, sl28, ze3, by3, sz3, sh3, zc41, sz41, fo41_0, Try.underlying34, sh41, sd41, pl41_0, pl41_1, Try.underlying41, hd5, hq, hm0, hm1, hm2, hgb, hw7, f1, f2, f3, eq_flt, decide_true, Bool.and_true]
          exact cP9
        · have hq : ((A : Int) + j2) / 4096 - 1 = p := by omega
          have hm0 : decide ((0 : Int) ≤ p) = true := decide_eq_true (by omega)
          have hpl : p < ps.length := q.2.1
          have hm1 : decide ((p : Int) < ps.length) = true := decide_eq_true (by omega)
          have hm2 : decide ((p : Int) < 6) = true := decide_eq_true (by omega)
          have hpi : p < i := him.2.elim (fun e => by rw [e]; exact hpl) (fun e => by rw [e]; exact q.2.2)
          obtain ⟨vb, vo, cap', e1, hcap', hvb⟩ := hv.open hpl
          cases e1
          have hE2 : cellO (vo + p) H[vb]? = some (.int .u8 (ps[p] : Nat)) := by rw [cP9 vb hvb]; have := hv.field encB_len hpl (j := 0) (by omega); simpa [encB] using this
          have bits := bit_of_u8 ⟨ps[p], hps ps[p] (List.getElem_mem hpl)⟩
          simp only at bits
          have hand := bits.1
          have hd0 : ps.getD p 0 = ps[p] := by rw [List.getD_eq_getElem?_getD, List.getElem?_eq_getElem hpl]; rfl
          have hbit : (ps[p] % 8 &&& 1 = 1) ↔ ps[p] &&& 1 ≠ 0 := bits.2.2.1
          rw [hd0, hbit] at okj
          obtain ⟨ok1, ok2⟩ := okj
          by_cases hok : okAt M3.rs 1 (adr A j2)
          · have hz : (((ps[p] &&& 1 : Nat) : Int) = 0) = False := eq_false (fun e => (ok1 hok).2.2 (by exact_mod_cast e))
            simp -implicitDefEqProofs (disch := first | omega | (simp only [h_szP, h_szS]; done) | (simp only [h_szP, h_szS]; omega)) only [go_sem, Nat.reduceBEq, reduceCtorEq, Nat.reduceAdd, Int.reduceEq, Int.reduceLT, Int.reduceLE, Int.reduceMul, Int.reduceAdd, Int.reduceSub, reduceIte, Nat.reduceLeDiff, Nat.reduceLT, Nat.reduceMul, Nat.reduceSub, Int.reduceToNat, s8, Try.underlying31, Try.underlying50, sl50, ze5, by5, sz5, Try.underlying3, Try.underlying22, Try.underlying5, sh5, Try.underlying49, sl28, ze3, by3, sz3, sh3, zc41, sz41, fo41_0, Try.underlying34, sh41, sd41, pl41_0, pl41_1, Try.underlying41, hd5, hq, hm0, hm1, hm2, hE2, hand, hz, Nat.mul_one]
            obtain ⟨k', n1, n2⟩ := next
            exact ⟨k', n1, n2 hok⟩
          · have hz : (((ps[p] &&& 1 : Nat) : Int) = 0) = True := eq_true (by
              by_cases c : ps[p] &&& 1 = 0
              · exact_mod_cast c
              · exact absurd (ok2 ⟨q.1, hpi, c⟩) hok)
            obtain ⟨f1, f2, f3⟩ := hfault hok
            simp -implicitDefEqProofs (disch := first | omega | (simp only [h_szP, h_szS]; done) | (simp only [h_szP, h_szS]; omega)) only [go_sem, Nat.reduceBEq, reduceCtorEq, Nat.reduceAdd, Int.reduceEq, Int.reduceLT, Int.reduceLE, Int.reduceMul, Int.reduceAdd, Int.reduceSub, reduceIte, Nat.reduceLeDiff, Nat.reduceLT, Nat.reduceMul, Nat.reduceSub, Int.reduceToNat, s8, Try.underlying31, Try.underlying50, sl50, ze5, by5, sz5, Try.underlying3, Try.underlying22, Try.underlying5, sh5, Try.underlying49, sl28, ze3, by3, sz3, sh3, zc41, sz41, fo41_0, Try.underlying34, sh41, sd41, pl41_0, pl41_1, Try.underlying41, hd5, hq, hm0, hm1, hm2, hE2, hand, hz, Nat.mul_one, hgb, hw7, f1, f2, f3, eq_flt, decide_true, Bool.and_true]
            exact cP9
      · have hd5 : decide ((j2 : Int) < sz) = false := decide_eq_false (by omega)
        have ej : j2 = sz := by omega
        obtain ⟨e1, e2, e3⟩ : gk = 0 ∧ val = le (peekL M3 A sz) ∧ ∀ i, i < sz → okAt M3.rs 1 (adr A i) := by
          rcases ls with z | ⟨i0, z1, z2, z3, z4, z5, z6⟩
          · exact z
          · exact absurd (hoks i0 (by omega)) z5
        have f1 : ((gk : Nat) : Int) = 0 := by omega
        simp -implicitDefEqProofs (disch := first | omega | (simp only [h_szP, h_szS]; done) | (simp only [h_szP, h_szS]; omega)) only [go_sem, Nat.reduceBEq, reduceCtorEq, Nat.reduceAdd, Int.reduceEq, Int.reduceLT, Int.reduceLE, Int.reduceMul, Int.reduceAdd, Int.reduceSub, reduceIte, Nat.reduceLeDiff, Nat.reduceLT, Nat.reduceMul, Nat.reduceSub, Int.reduceToNat, s8, Try.underlying31, Try.underlying50, sl50, ze5, by5, sz5, Try.underlying3, Try.underlying22, Try.underlying5, sh5, Try.underlying49, sl28, ze3, by3, sz3, sh3, zc41, sz41, fo41_0, Try.underlying34, sh41, sd41, pl41_0, pl41_1, Try.underlying41, hd5, hgb, f1]
        have S9 := S7.vs.ext K9
        have S10 := Vs_sub encB_len (i := A) (k := 40000 - A) (c' := pc2 - A) S9 (by rw [peekL_len]; omega) (by omega)
        rw [Nat.zero_add] at S10
        have hl : ∀ q, (((peekL M3 0 q).drop A).take (q - A)).length = q - A := fun q => by rw [List.length_take, List.length_drop, peekL_len]; omega
        have hb256 : ∀ q, ∀ b ∈ ((peekL M3 0 q).drop A).take (q - A), b < 256 := fun q b hb => by
          have := List.mem_of_mem_drop (List.mem_of_mem_take hb)
          simp only [peekL, List.mem_map] at this
          obtain ⟨i, _, rfl⟩ := this
          exact byteAt_lt R7.sr _
        refine FnK.val (rget_c sz (by omega) hs8 S10 (by rw [hl]; omega) (hb256 _)) ?_
        rw [peekL_sub M3 _ A _ sz (by omega) (by omega), ← e2]
        simp -implicitDefEqProofs (disch := first | omega | (simp only [h_szP, h_szS]; done) | (simp only [h_szP, h_szS]; omega)) only [go_sem, Nat.reduceBEq, reduceCtorEq, Nat.reduceAdd, Int.reduceEq, Int.reduceLT, Int.reduceLE, Int.reduceMul, Int.reduceAdd, Int.reduceSub, reduceIte, Nat.reduceLeDiff, Nat.reduceLT, Nat.reduceMul, Nat.reduceSub, Int.reduceToNat, s8, Try.underlying31, Try.underlying50, sl50, ze5, by5, sz5, Try.underlying3, Try.underlying22, Try.underlying5, sh5, Try.underlying49, sl28, ze3, by3, sz3, sh3, zc41, sz41, fo41_0, Try.underlying34, sh41, sd41, pl41_0, pl41_1, Try.underlying41, decide_true]
        exact cP9
end Go.SX.G
