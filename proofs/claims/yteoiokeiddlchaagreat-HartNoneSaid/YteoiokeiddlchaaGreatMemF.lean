/- The space: SetBrk, Probe, Store, Load, Peek, Pages. No condition but on sizes. -/
import Derived.Test.YteoiokeiddlchaaGreatMemE
set_option linter.unusedVariables false
set_option linter.unusedSimpArgs false
namespace Go.SX.G
open Go Go.SX Go.Proofs
set_option maxRecDepth 100000
set_option maxHeartbeats 2000000
theorem msize_c (h : Heap) (n : Int) : Fn Tryz.prog 77 [.int .i64 n] h fun x h' => x = .bool (goodN n) ∧ h' = h := by
  refine Fn_c Tryz.func77 mixed c77 (by kernel_rfl) ?_; rw [r77]
  simp -implicitDefEqProofs (disch := first | omega | (simp only [h_szP, h_szS]; done) | (simp only [h_szP, h_szS]; omega)) only [go_sem, Nat.reduceBEq, reduceCtorEq, Nat.reduceAdd, Int.reduceEq, Int.reduceLT, Int.reduceLE, Int.reduceMul, Int.reduceAdd, Int.reduceSub, reduceIte, Nat.reduceLeDiff, Nat.reduceLT, Nat.reduceMul, Nat.reduceSub, Int.reduceToNat, s77, Tryz.underlying3]
  unfold goodN
  repeat' first | intro _ | refine And.intro ?_ ?_
  all_goals first | rfl | (congr 1; symm; first | (apply decide_eq_true; omega) | (apply decide_eq_false; omega) | (congr 1; apply propext; omega))
theorem mfirst_c {h : Heap} {s : Nat} {M : MemD} (a n prot : Nat) (r : MR h s M) (ha : a < 18446744073709551616) (hn : n ≤ 4194304) (hp : prot ≤ 7) :
    Fn Tryz.prog 78 [ptr s 0, .int .u64 a, .int .i64 n, .int .i64 prot] h fun x h' => ∃ o, x = placeV o ∧ FirstN M.rs a n prot o ∧ Keeps h.size h h' := by
  have hlen := r.len
  refine Fn_c Tryz.func78 mixed c78 (by kernel_rfl) ?_; rw [r78]
  simp -implicitDefEqProofs (disch := first | omega | (simp only [h_szP, h_szS]; done) | (simp only [h_szP, h_szS]; omega)) only [go_sem, Nat.reduceBEq, reduceCtorEq, Nat.reduceAdd, Int.reduceEq, Int.reduceLT, Int.reduceLE, Int.reduceMul, Int.reduceAdd, Int.reduceSub, reduceIte, Nat.reduceLeDiff, Nat.reduceLT, Nat.reduceMul, Nat.reduceSub, Int.reduceToNat, s78, Tryz.underlying3, Tryz.underlying22, fo73_0, sh68, zc85, sz85, fo85_2, sh3]
  obtain ⟨I, hI⟩ : ∃ I : Nat → Fr → Heap → Prop, I = fun k fr hh => ∃ (i : Nat), i + k = n ∧ Keeps h.size h hh ∧ (∀ j, j < i → okAt M.rs prot (adr a j)) ∧
      fr = (((((fr0.up 15 (.int .u64 i)).up 14 (.int .u64 n)).up 3 (.int .i64 prot)).up 1 (.int .u64 a)).up 0 (ptr s 0)) := ⟨_, rfl⟩
  refine LoopK.use I n (by rw [hI]; exact ⟨0, by omega, Keeps.refl', fun j hj => by omega, rfl⟩) ?_
  intro k fr hh hK
  rw [hI] at hK
  obtain ⟨i, hk, K1, hok, hf⟩ := hK
  subst hf
  by_cases hi : i < n
  · have hdi : decide ((i : Int) < n) = true := decide_eq_true (by omega)
    have R1 := r.ext K1
    have ht1 := R1.top
    have hw : IntKind.u64.wrap ((a : Int) + i) = ((adr a i : Nat) : Int) := by rw [wrap_u64]; unfold adr; omega
    simp -implicitDefEqProofs (disch := first | omega | (simp only [h_szP, h_szS]; done) | (simp only [h_szP, h_szS]; omega)) only [go_sem, Nat.reduceBEq, reduceCtorEq, Nat.reduceAdd, Int.reduceEq, Int.reduceLT, Int.reduceLE, Int.reduceMul, Int.reduceAdd, Int.reduceSub, reduceIte, Nat.reduceLeDiff, Nat.reduceLT, Nat.reduceMul, Nat.reduceSub, Int.reduceToNat, s78, Tryz.underlying3, Tryz.underlying22, fo73_0, sh68, zc85, sz85, fo85_2, sh3, hdi, ht1, hw]
    refine FnK.use (at_c (adr a i) R1.lr (by omega)) ?_
    intro x h2 hx
    obtain ⟨e1, K2⟩ := hx
    have K3 := K1.of_ext K2 (Nat.le_refl _)
    rw [e1]
    cases hr : atL M.rs (adr a i) with
    | none =>
      simp only [atV]
      simp -implicitDefEqProofs (disch := first | omega | (simp only [h_szP, h_szS]; done) | (simp only [h_szP, h_szS]; omega)) only [go_sem, Nat.reduceBEq, reduceCtorEq, Nat.reduceAdd, Int.reduceEq, Int.reduceLT, Int.reduceLE, Int.reduceMul, Int.reduceAdd, Int.reduceSub, reduceIte, Nat.reduceLeDiff, Nat.reduceLT, Nat.reduceMul, Nat.reduceSub, Int.reduceToNat, s78, Tryz.underlying3, Tryz.underlying22, fo73_0, sh68, zc85, sz85, fo85_2, sh3, hw]
      refine ⟨some (adr a i), rfl, .some i hi (fun ⟨q, h3, _⟩ => by rw [hr] at h3; cases h3) hok, K3.push' (Nat.le_refl _)⟩
    | some q =>
      have hm := atL_mem hr
      have hwq := r.wf.each q hm.1
      have hbit := bitI_and_i64 q.p prot (by omega) (by omega)
      simp only [atV]
      simp -implicitDefEqProofs (disch := first | omega | (simp only [h_szP, h_szS]; done) | (simp only [h_szP, h_szS]; omega)) only [go_sem, Nat.reduceBEq, reduceCtorEq, Nat.reduceAdd, Int.reduceEq, Int.reduceLT, Int.reduceLE, Int.reduceMul, Int.reduceAdd, Int.reduceSub, reduceIte, Nat.reduceLeDiff, Nat.reduceLT, Nat.reduceMul, Nat.reduceSub, Int.reduceToNat, s78, Tryz.underlying3, Tryz.underlying22, fo73_0, sh68, zc85, sz85, fo85_2, sh3, hbit, hw]
      refine ⟨fun z => ?_, fun z => ?_⟩
      · have z' : q.p &&& prot = prot := by exact_mod_cast z
        refine ⟨k - 1, by omega, ?_⟩
        rw [hI]
        refine ⟨i + 1, by omega, K3.push' (Nat.le_refl _), fun j hj => ?_, rfl⟩
        by_cases hji : j = i
        · subst hji; exact ⟨q, hr, z'⟩
        · exact hok j (by omega)
      · refine ⟨some (adr a i), rfl, .some i hi (fun ⟨q', h3, h4⟩ => z ?_) hok, K3.push' (Nat.le_refl _)⟩
        rw [hr] at h3; cases h3
        exact_mod_cast h4
  · have hdi : decide ((i : Int) < n) = false := decide_eq_false (by omega)
    have e1 : i = n := by omega
    subst e1
    simp -implicitDefEqProofs (disch := first | omega | (simp only [h_szP, h_szS]; done) | (simp only [h_szP, h_szS]; omega)) only [go_sem, Nat.reduceBEq, reduceCtorEq, Nat.reduceAdd, Int.reduceEq, Int.reduceLT, Int.reduceLE, Int.reduceMul, Int.reduceAdd, Int.reduceSub, reduceIte, Nat.reduceLeDiff, Nat.reduceLT, Nat.reduceMul, Nat.reduceSub, Int.reduceToNat, s78, Tryz.underlying3, Tryz.underlying22, fo73_0, sh68, zc85, sz85, fo85_2, sh3, hdi]
    exact ⟨none, rfl, .none hok, K1⟩
/-- what Probe tells. -/
inductive Probd (x : Value) (M : MemD) (a : Nat) (n : Int) : Prop
  | bad (c : goodN n = false) (ex : x = fltA 2 a)
  | flt (c : goodN n = true) (b : Nat) (f : FirstN M.rs a n.toNat 2 (some b)) (ex : x = fltA 2 b)
  | ok (c : goodN n = true) (f : FirstN M.rs a n.toNat 2 none) (ex : x = fltA 0 0)
theorem goodN_le {n : Int} (h : goodN n = true) : ∃ k : Nat, n = k ∧ 1 ≤ k ∧ k ≤ 8 := by
  simp [goodN] at h
  rcases h with h | h | h | h
  · exact ⟨1, h, by omega, by omega⟩
  · exact ⟨2, h, by omega, by omega⟩
  · exact ⟨4, h, by omega, by omega⟩
  · exact ⟨8, h, by omega, by omega⟩
theorem mprobe_c {h : Heap} {s : Nat} {M : MemD} (a : Nat) (n : Int) (r : MR h s M) (ha : a < 18446744073709551616) :
    Fn Tryz.prog 75 [ptr s 0, .int .u64 a, .int .i64 n] h fun x h' => Probd x M a n ∧ Keeps h.size h h' := by
  have K0 : ∀ o, Keeps h.size h (h.push o) := fun o => Keeps.push h o (Nat.le_refl _)
  cases hg : goodN n with
  | false =>
    refine Fn_c Tryz.func75 mixed c75 (by kernel_rfl) ?_; rw [r75]
    simp -implicitDefEqProofs (disch := first | omega | (simp only [h_szP, h_szS]; done) | (simp only [h_szP, h_szS]; omega)) only [go_sem, Nat.reduceBEq, reduceCtorEq, Nat.reduceAdd, Int.reduceEq, Int.reduceLT, Int.reduceLE, Int.reduceMul, Int.reduceAdd, Int.reduceSub, reduceIte, Nat.reduceLeDiff, Nat.reduceLT, Nat.reduceMul, Nat.reduceSub, Int.reduceToNat, s75, zc31, Tryz.underlying42, sd31, pl31_0, pl31_1, sz31, sh31]
    refine FnK.val (msize_c _ n) ?_
    rw [hg]
    simp -implicitDefEqProofs (disch := first | omega | (simp only [h_szP, h_szS]; done) | (simp only [h_szP, h_szS]; omega)) only [go_sem, Nat.reduceBEq, reduceCtorEq, Nat.reduceAdd, Int.reduceEq, Int.reduceLT, Int.reduceLE, Int.reduceMul, Int.reduceAdd, Int.reduceSub, reduceIte, Nat.reduceLeDiff, Nat.reduceLT, Nat.reduceMul, Nat.reduceSub, Int.reduceToNat, s75, zc31, Tryz.underlying42, sd31, pl31_0, pl31_1, sz31, sh31]
    exact ⟨.bad hg rfl, K0 _⟩
  | true =>
    obtain ⟨k, rfl, hk1, hk2⟩ := goodN_le hg
    refine Fn_c Tryz.func75 mixed c75 (by kernel_rfl) ?_; rw [r75]
    simp -implicitDefEqProofs (disch := first | omega | (simp only [h_szP, h_szS]; done) | (simp only [h_szP, h_szS]; omega)) only [go_sem, Nat.reduceBEq, reduceCtorEq, Nat.reduceAdd, Int.reduceEq, Int.reduceLT, Int.reduceLE, Int.reduceMul, Int.reduceAdd, Int.reduceSub, reduceIte, Nat.reduceLeDiff, Nat.reduceLT, Nat.reduceMul, Nat.reduceSub, Int.reduceToNat, s75, zc31, Tryz.underlying42, sd31, pl31_0, pl31_1, sz31, sh31]
    refine FnK.val (msize_c _ k) ?_
    rw [hg]
    simp -implicitDefEqProofs (disch := first | omega | (simp only [h_szP, h_szS]; done) | (simp only [h_szP, h_szS]; omega)) only [go_sem, Nat.reduceBEq, reduceCtorEq, Nat.reduceAdd, Int.reduceEq, Int.reduceLT, Int.reduceLE, Int.reduceMul, Int.reduceAdd, Int.reduceSub, reduceIte, Nat.reduceLeDiff, Nat.reduceLT, Nat.reduceMul, Nat.reduceSub, Int.reduceToNat, s75, zc31, Tryz.underlying42, sd31, pl31_0, pl31_1, sz31, sh31]
    refine FnK.use (mfirst_c a k 2 (r.ext (K0 _)) ha (by omega) (by omega)) ?_
    intro x h1 hx
    obtain ⟨o, e1, F, K1⟩ := hx
    have K2 := (K0 _).of_ext K1 (Nat.le_refl _)
    have hb : h1[h.size]? = some (.cells #[.int .i64 0, .int .u64 0] 31 (0, 0)) := by rw [K1.old _ (by simp)]; simp -implicitDefEqProofs (disch := first | omega | (simp only [h_szP, h_szS]; done) | (simp only [h_szP, h_szS]; omega)) only [go_sem, Nat.reduceBEq, reduceCtorEq, Nat.reduceAdd, Int.reduceEq, Int.reduceLT, Int.reduceLE, Int.reduceMul, Int.reduceAdd, Int.reduceSub, reduceIte, Nat.reduceLeDiff, Nat.reduceLT, Nat.reduceMul, Nat.reduceSub, Int.reduceToNat]
    have hb2 := getElem?_lt hb
    rw [e1]
    cases o with
    | none =>
      rw [placeV_none]
      simp -implicitDefEqProofs (disch := first | omega | (simp only [h_szP, h_szS]; done) | (simp only [h_szP, h_szS]; omega)) only [go_sem, Nat.reduceBEq, reduceCtorEq, Nat.reduceAdd, Int.reduceEq, Int.reduceLT, Int.reduceLE, Int.reduceMul, Int.reduceAdd, Int.reduceSub, reduceIte, Nat.reduceLeDiff, Nat.reduceLT, Nat.reduceMul, Nat.reduceSub, Int.reduceToNat, s75, zc31, Tryz.underlying42, sd31, pl31_0, pl31_1, sz31, sh31, hb]
      exact ⟨.ok hg F rfl, K2.set' (Nat.le_refl _)⟩
    | some b =>
      rw [placeV_some]
      simp -implicitDefEqProofs (disch := first | omega | (simp only [h_szP, h_szS]; done) | (simp only [h_szP, h_szS]; omega)) only [go_sem, Nat.reduceBEq, reduceCtorEq, Nat.reduceAdd, Int.reduceEq, Int.reduceLT, Int.reduceLE, Int.reduceMul, Int.reduceAdd, Int.reduceSub, reduceIte, Nat.reduceLeDiff, Nat.reduceLT, Nat.reduceMul, Nat.reduceSub, Int.reduceToNat, s75, zc31, Tryz.underlying42, sd31, pl31_0, pl31_1, sz31, sh31, hb]
      exact ⟨.flt hg b F rfl, K2.set' (Nat.le_refl _)⟩
/-- what Store comes to. -/
inductive Stord (h h' : Heap) (s : Nat) (x : Value) (M : MemD) (a : Nat) (n : Int) (v : Nat) : Prop
  | no (p : Probd x M a n) (k : Keeps h.size h h') (ne : ∃ b, x = fltA 2 b)
  | ok (c : goodN n = true) (f : FirstN M.rs a n.toNat 2 none) (ex : x = fltA 0 0) (M' : MemD) (g : Chg h h' s M M' n.toNat (touched a (a + n.toNat))) (rs : M'.rs = M.rs) (byte : ∀ y, memAt M' y = if a ≤ y ∧ y < a + n.toNat then v / 256 ^ (y - a) % 256 else memAt M y)
theorem Wr.chg {h h' : Heap} {s : Nat} {M : MemD} {D' : StoreD} {lo hi : Nat} {B : Nat → Nat} (r : MR h s M) (w : Wr h h' M.p M.D D' lo hi B) : Chg h h' s M { M with D := D' } (hi - lo) (touched lo hi) := by
  obtain ⟨R, F⟩ := r.stored w.rep w.ft w.size w.old
  exact ⟨R, rfl, rfl, rfl, F, w.sr⟩
theorem Chg.widen {h0 h h' : Heap} {s n : Nat} {M M' : MemD} {T : Nat → Prop} (k : Keeps h0.size h0 h) (g : Chg h h' s M M' n T) : Chg h0 h' s M M' n T := ⟨g.r, g.most, g.base, g.fin, (Fx.of k).trans g.fx, g.sr⟩
theorem Chg.poke {h h' : Heap} {s n c : Nat} {M M' : MemD} {T : Nat → Prop} (g : Chg h h' s M M' n T) (hc : h.size ≤ c) (hn : ¬ mfoot s M' c) (o : Obj) : Chg h (h'.setIfInBounds c o) s M M' n T :=
  ⟨g.r.mono fun b f => h_setN _ _ _ _ (fun e => hn (by rw [← e]; exact f)), g.most, g.base, g.fin, ⟨by simpa using g.fx.size, g.fx.ft, fun b hb hf => by rw [h_setN _ _ _ _ (by omega)]; exact g.fx.old b hb hf⟩, g.sr⟩
theorem mstore_c {h : Heap} {s : Nat} {M : MemD} (a : Nat) (n : Int) (v : Nat) (r : MR h s M) (ha : a < 18446744073709551616) (hv : v < 18446744073709551616) :
    Fn Tryz.prog 55 [ptr s 0, .int .u64 a, .int .i64 n, .int .u64 v] h fun x h' => Stord h h' s x M a n v := by
  have K0 : ∀ o, Keeps h.size h (h.push o) := fun o => Keeps.push h o (Nat.le_refl _)
  refine Fn_c Tryz.func55 mixed c55 (by kernel_rfl) ?_; rw [r55]
  simp -implicitDefEqProofs (disch := first | omega | (simp only [h_szP, h_szS]; done) | (simp only [h_szP, h_szS]; omega)) only [go_sem, Nat.reduceBEq, reduceCtorEq, Nat.reduceAdd, Int.reduceEq, Int.reduceLT, Int.reduceLE, Int.reduceMul, Int.reduceAdd, Int.reduceSub, reduceIte, Nat.reduceLeDiff, Nat.reduceLT, Nat.reduceMul, Nat.reduceSub, Int.reduceToNat, s55, zc31, sz31, fo31_0, sh3, Tryz.underlying3, sh31, fo73_1, sh70, sd31]
  refine FnK.use (mprobe_c a n (r.ext (K0 _)) ha) ?_
  intro x h1 hx
  obtain ⟨P, K1⟩ := hx
  have K2 := (K0 _).of_ext K1 (Nat.le_refl _)
  have hb : h1[h.size]? = some (.cells #[.int .i64 0, .int .u64 0] 31 (0, 0)) := by rw [K1.old _ (by simp)]; simp -implicitDefEqProofs (disch := first | omega | (simp only [h_szP, h_szS]; done) | (simp only [h_szP, h_szS]; omega)) only [go_sem, Nat.reduceBEq, reduceCtorEq, Nat.reduceAdd, Int.reduceEq, Int.reduceLT, Int.reduceLE, Int.reduceMul, Int.reduceAdd, Int.reduceSub, reduceIte, Nat.reduceLeDiff, Nat.reduceLT, Nat.reduceMul, Nat.reduceSub, Int.reduceToNat]
  have hb2 := getElem?_lt hb
  have fault : ∀ b, x = fltA 2 b → Probd (fltA 2 b) M a n := fun b e => e ▸ P
  cases id P with
  | bad c ex =>
    rw [ex]; unfold fltA
    simp -implicitDefEqProofs (disch := first | omega | (simp only [h_szP, h_szS]; done) | (simp only [h_szP, h_szS]; omega)) only [go_sem, Nat.reduceBEq, reduceCtorEq, Nat.reduceAdd, Int.reduceEq, Int.reduceLT, Int.reduceLE, Int.reduceMul, Int.reduceAdd, Int.reduceSub, reduceIte, Nat.reduceLeDiff, Nat.reduceLT, Nat.reduceMul, Nat.reduceSub, Int.reduceToNat, s55, zc31, sz31, fo31_0, sh3, Tryz.underlying3, sh31, fo73_1, sh70, sd31, hb]
    exact .no (.bad c rfl) ((K2.set' (Nat.le_refl _)).push' (Nat.le_refl _)) ⟨a, rfl⟩
  | flt c b f ex =>
    rw [ex]; unfold fltA
    simp -implicitDefEqProofs (disch := first | omega | (simp only [h_szP, h_szS]; done) | (simp only [h_szP, h_szS]; omega)) only [go_sem, Nat.reduceBEq, reduceCtorEq, Nat.reduceAdd, Int.reduceEq, Int.reduceLT, Int.reduceLE, Int.reduceMul, Int.reduceAdd, Int.reduceSub, reduceIte, Nat.reduceLeDiff, Nat.reduceLT, Nat.reduceMul, Nat.reduceSub, Int.reduceToNat, s55, zc31, sz31, fo31_0, sh3, Tryz.underlying3, sh31, fo73_1, sh70, sd31, hb]
    exact .no (.flt c b f rfl) ((K2.set' (Nat.le_refl _)).push' (Nat.le_refl _)) ⟨b, rfl⟩
  | ok c f ex =>
    rw [ex]; unfold fltA
    obtain ⟨k, rfl, hk1, hk2⟩ := goodN_le c
    have R1 := r.ext K2
    have ht1 := R1.top
    have hs1 := R1.lt (.inl rfl)
    have hsz := K2.size
    have hs0 := r.lt (.inl rfl)
    have hk : ((k : Int).toNat) = k := rfl
    rw [hk] at f
    obtain ⟨hfar, hadr⟩ := FirstN.far r.wf (by cases f with | none h => exact h) (by omega) ha (by omega)
    have tail : ∀ h2 v2, Keeps h.size h h2 → Ss h2 h1.size v2 5 encB 1 (bytesOf v k) → h2[h.size]? = some (.cells #[.int .i64 0, .int .u64 0] 31 (0, 0)) → Fn Tryz.prog 29 [ptr M.p 0, .int .u64 a, v2] h2 fun _ h' => (∀ o, Stord h (h'.setIfInBounds h.size o) s (fltA 0 0) M a k v) ∧ h'[h.size]? = some (.cells #[.int .i64 0, .int .u64 0] 31 (0, 0)) := by
      intro h2 v2 k2 S2 hb2
      have R2 := r.ext k2
      have hlen2 := bytesOf_len v k
      have hnf : ∀ b, h.size ≤ b → ¬ foot M.p M.D b := fun b hb f => by have := r.sr.lt f; omega
      refine (write_c a R2.sr ha (by rw [hlen2]; omega) S2.vs (fun b hb => hnf b (by have := (S2.blk hb).1; omega)) fun b hb => bytesOf_lt hb).mono ?_
      intro x3 h3 hx3
      obtain ⟨D', W⟩ := hx3
      rw [hlen2] at W
      have G := (Wr.chg R2 W).widen k2
      rw [Nat.add_sub_cancel_left] at G
      have hnm : ¬ mfoot s { M with D := D' } h.size := by
        rintro (q | q | q | q)
        · omega
        · have := r.lr.lt; simp only at q; omega
        · have := r.lr.blt q; omega
        · rcases W.ft _ q with z | z
          · exact hnf _ (Nat.le_refl _) z
          · have := getElem?_lt hb2; omega
      refine ⟨fun o => .ok c f rfl _ (G.poke (Nat.le_refl _) hnm o) rfl fun y => ?_, by rw [W.old _ (getElem?_lt hb2) (hnf _ (Nat.le_refl _))]; exact hb2⟩
      rw [hk]
      show byteAt D'.es y = _
      rw [W.byte]
      by_cases q : a ≤ y ∧ y < a + k
      · rw [if_pos ⟨q.1, q.2, by omega⟩, if_pos q]
        simp only [bytesOf, List.getD_eq_getElem?_getD, List.getElem?_map]
        rw [List.getElem?_range (by omega)]; rfl
      · rw [if_neg (fun z => q ⟨z.1, z.2.1⟩), if_neg q]; rfl
    have hKb : Keeps h.size h (h1.push (.cells #[.int .i64 0, .int .u64 0] 31)) := K2.push' (Nat.le_refl _)
    have hput : Fn Tryz.prog 76 [.slice none 0 0, .int .u64 v, .int .i64 k] (h1.push (.cells #[.int .i64 0, .int .u64 0] 31)) fun v2 h2 => Keeps h.size h h2 ∧ Ss h2 h1.size v2 5 encB 1 (bytesOf v k) ∧ h2[h.size]? = some (.cells #[.int .i64 0, .int .u64 0] 31 (0, 0)) ∧ h2[s]? = h[s]? := by
      refine (wput_c v k hk1 hk2 hv _).mono ?_
      intro v2 h2 ⟨S2, K3⟩
      have k2 := hKb.of_ext K3 (Nat.le_refl _)
      exact ⟨k2, S2.le (by simp), by rw [K3.old _ (by simp; omega), h_pushL _ _ _ (by omega)]; exact hb, k2.old _ hs0⟩
    simp -implicitDefEqProofs (disch := first | omega | (simp only [h_szP, h_szS]; done) | (simp only [h_szP, h_szS]; omega)) only [go_sem, Nat.reduceBEq, reduceCtorEq, Nat.reduceAdd, Int.reduceEq, Int.reduceLT, Int.reduceLE, Int.reduceMul, Int.reduceAdd, Int.reduceSub, reduceIte, Nat.reduceLeDiff, Nat.reduceLT, Nat.reduceMul, Nat.reduceSub, Int.reduceToNat, s55, zc31, sz31, fo31_0, sh3, Tryz.underlying3, sh31, fo73_1, sh70, sd31, hb, ht1]
    refine ⟨?_, ?_⟩
    · refine FnK.use hput ?_
      intro v2 h2 ⟨k2, S2, hb2', e2⟩
      simp -implicitDefEqProofs (disch := first | omega | (simp only [h_szP, h_szS]; done) | (simp only [h_szP, h_szS]; omega)) only [go_sem, Nat.reduceBEq, reduceCtorEq, Nat.reduceAdd, Int.reduceEq, Int.reduceLT, Int.reduceLE, Int.reduceMul, Int.reduceAdd, Int.reduceSub, reduceIte, Nat.reduceLeDiff, Nat.reduceLT, Nat.reduceMul, Nat.reduceSub, Int.reduceToNat, s55, zc31, sz31, fo31_0, sh3, Tryz.underlying3, sh31, fo73_1, sh70, sd31]
      refine FnK.use (tail h2 v2 k2 S2 hb2') ?_
      intro x3 h3 ⟨hS, hb3⟩
      have hb3' := getElem?_lt hb3
      simp -implicitDefEqProofs (disch := first | omega | (simp only [h_szP, h_szS]; done) | (simp only [h_szP, h_szS]; omega)) only [go_sem, Nat.reduceBEq, reduceCtorEq, Nat.reduceAdd, Int.reduceEq, Int.reduceLT, Int.reduceLE, Int.reduceMul, Int.reduceAdd, Int.reduceSub, reduceIte, Nat.reduceLeDiff, Nat.reduceLT, Nat.reduceMul, Nat.reduceSub, Int.reduceToNat, s55, zc31, sz31, fo31_0, sh3, Tryz.underlying3, sh31, fo73_1, sh70, sd31, hb3]
      exact hS _
    · refine FnK.use hput ?_
      intro v2 h2 ⟨k2, S2, hb2', e2⟩
      have ht2 := e2.trans r.top
      simp -implicitDefEqProofs (disch := first | omega | (simp only [h_szP, h_szS]; done) | (simp only [h_szP, h_szS]; omega)) only [go_sem, Nat.reduceBEq, reduceCtorEq, Nat.reduceAdd, Int.reduceEq, Int.reduceLT, Int.reduceLE, Int.reduceMul, Int.reduceAdd, Int.reduceSub, reduceIte, Nat.reduceLeDiff, Nat.reduceLT, Nat.reduceMul, Nat.reduceSub, Int.reduceToNat, s55, zc31, sz31, fo31_0, sh3, Tryz.underlying3, sh31, fo73_1, sh70, sd31, ht2]
      refine FnK.use (tail h2 v2 k2 S2 hb2') ?_
      intro x3 h3 ⟨hS, hb3⟩
      have hb3' := getElem?_lt hb3
      simp -implicitDefEqProofs (disch := first | omega | (simp only [h_szP, h_szS]; done) | (simp only [h_szP, h_szS]; omega)) only [go_sem, Nat.reduceBEq, reduceCtorEq, Nat.reduceAdd, Int.reduceEq, Int.reduceLT, Int.reduceLE, Int.reduceMul, Int.reduceAdd, Int.reduceSub, reduceIte, Nat.reduceLeDiff, Nat.reduceLT, Nat.reduceMul, Nat.reduceSub, Int.reduceToNat, s55, zc31, sz31, fo31_0, sh3, Tryz.underlying3, sh31, fo73_1, sh70, sd31, hb3]
      exact hS _
/-- what Load comes to. -/
inductive Loadd (x : Value) (M : MemD) (a : Nat) (n : Int) : Prop
  | bad (c : goodN n = false) (ex : x = .tuple #[.int .u64 0, fltA 1 a])
  | flt (c : goodN n = true) (b : Nat) (f : FirstN M.rs a n.toNat 1 (some b)) (ex : x = .tuple #[.int .u64 0, fltA 1 b])
  | ok (c : goodN n = true) (f : FirstN M.rs a n.toNat 1 none) (ex : x = .tuple #[.int .u64 (le (peekL M a n.toNat) : Nat), fltA 0 0])
theorem byteAt_lt {h : Heap} {p : Nat} {D : StoreD} (r : SR h p D) (a : Nat) : byteAt D.es a < 256 := by
  unfold byteAt
  split
  · rename_i l hl
    have hm := List.mem_of_find?_eq_some hl
    have h1 := r.leaf l hm
    rw [List.getD_eq_getElem?_getD]
    cases hg : l.dat[a % 4096]? with
    | none => simp
    | some x => exact h1.2.2.2.2 x (List.mem_of_getElem? hg)
  · decide
theorem mload_c {h : Heap} {s : Nat} {M : MemD} (a : Nat) (n : Int) (r : MR h s M) (ha : a < 18446744073709551616) :
    Fn Tryz.prog 56 [ptr s 0, .int .u64 a, .int .i64 n] h fun x h' => Loadd x M a n ∧ Keeps h.size h h' := by
  have K0 : ∀ o, Keeps h.size h (h.push o) := fun o => Keeps.push h o (Nat.le_refl _)
  cases hg : goodN n with
  | false =>
    refine Fn_c Tryz.func56 mixed c56 (by kernel_rfl) ?_; rw [r56]
    simp -implicitDefEqProofs (disch := first | omega | (simp only [h_szP, h_szS]; done) | (simp only [h_szP, h_szS]; omega)) only [go_sem, Nat.reduceBEq, reduceCtorEq, Nat.reduceAdd, Int.reduceEq, Int.reduceLT, Int.reduceLE, Int.reduceMul, Int.reduceAdd, Int.reduceSub, reduceIte, Nat.reduceLeDiff, Nat.reduceLT, Nat.reduceMul, Nat.reduceSub, Int.reduceToNat, s56, zc31, Tryz.underlying42, sd31, pl31_0, pl31_1, sz31, fo73_1, sh70, sh31]
    refine FnK.val (msize_c _ n) ?_
    rw [hg]
    simp -implicitDefEqProofs (disch := first | omega | (simp only [h_szP, h_szS]; done) | (simp only [h_szP, h_szS]; omega)) only [go_sem, Nat.reduceBEq, reduceCtorEq, Nat.reduceAdd, Int.reduceEq, Int.reduceLT, Int.reduceLE, Int.reduceMul, Int.reduceAdd, Int.reduceSub, reduceIte, Nat.reduceLeDiff, Nat.reduceLT, Nat.reduceMul, Nat.reduceSub, Int.reduceToNat, s56, zc31, Tryz.underlying42, sd31, pl31_0, pl31_1, sz31, fo73_1, sh70, sh31]
    exact ⟨.bad hg rfl, K0 _⟩
  | true =>
    obtain ⟨k, rfl, hk1, hk2⟩ := goodN_le hg
    refine Fn_c Tryz.func56 mixed c56 (by kernel_rfl) ?_; rw [r56]
    simp -implicitDefEqProofs (disch := first | omega | (simp only [h_szP, h_szS]; done) | (simp only [h_szP, h_szS]; omega)) only [go_sem, Nat.reduceBEq, reduceCtorEq, Nat.reduceAdd, Int.reduceEq, Int.reduceLT, Int.reduceLE, Int.reduceMul, Int.reduceAdd, Int.reduceSub, reduceIte, Nat.reduceLeDiff, Nat.reduceLT, Nat.reduceMul, Nat.reduceSub, Int.reduceToNat, s56, zc31, Tryz.underlying42, sd31, pl31_0, pl31_1, sz31, fo73_1, sh70, sh31]
    refine FnK.val (msize_c _ k) ?_
    rw [hg]
    simp -implicitDefEqProofs (disch := first | omega | (simp only [h_szP, h_szS]; done) | (simp only [h_szP, h_szS]; omega)) only [go_sem, Nat.reduceBEq, reduceCtorEq, Nat.reduceAdd, Int.reduceEq, Int.reduceLT, Int.reduceLE, Int.reduceMul, Int.reduceAdd, Int.reduceSub, reduceIte, Nat.reduceLeDiff, Nat.reduceLT, Nat.reduceMul, Nat.reduceSub, Int.reduceToNat, s56, zc31, Tryz.underlying42, sd31, pl31_0, pl31_1, sz31, fo73_1, sh70, sh31]
    refine FnK.use (mfirst_c a k 1 (r.ext (K0 _)) ha (by omega) (by omega)) ?_
    intro x h1 hx
    obtain ⟨o, e1, F, K1⟩ := hx
    have K2 := (K0 _).of_ext K1 (Nat.le_refl _)
    have hb : h1[h.size]? = some (.cells #[.int .i64 0, .int .u64 0] 31 (0, 0)) := by rw [K1.old _ (by simp)]; simp -implicitDefEqProofs (disch := first | omega | (simp only [h_szP, h_szS]; done) | (simp only [h_szP, h_szS]; omega)) only [go_sem, Nat.reduceBEq, reduceCtorEq, Nat.reduceAdd, Int.reduceEq, Int.reduceLT, Int.reduceLE, Int.reduceMul, Int.reduceAdd, Int.reduceSub, reduceIte, Nat.reduceLeDiff, Nat.reduceLT, Nat.reduceMul, Nat.reduceSub, Int.reduceToNat]
    have hb2 := getElem?_lt hb
    rw [e1]
    cases o with
    | some b =>
      rw [placeV_some]
      simp -implicitDefEqProofs (disch := first | omega | (simp only [h_szP, h_szS]; done) | (simp only [h_szP, h_szS]; omega)) only [go_sem, Nat.reduceBEq, reduceCtorEq, Nat.reduceAdd, Int.reduceEq, Int.reduceLT, Int.reduceLE, Int.reduceMul, Int.reduceAdd, Int.reduceSub, reduceIte, Nat.reduceLeDiff, Nat.reduceLT, Nat.reduceMul, Nat.reduceSub, Int.reduceToNat, s56, zc31, Tryz.underlying42, sd31, pl31_0, pl31_1, sz31, fo73_1, sh70, sh31, hb]
      exact ⟨.flt hg b F rfl, K2.set' (Nat.le_refl _)⟩
    | none =>
      rw [placeV_none]
      have R1 := r.ext K2
      have ht1 := R1.top
      simp -implicitDefEqProofs (disch := first | omega | (simp only [h_szP, h_szS]; done) | (simp only [h_szP, h_szS]; omega)) only [go_sem, Nat.reduceBEq, reduceCtorEq, Nat.reduceAdd, Int.reduceEq, Int.reduceLT, Int.reduceLE, Int.reduceMul, Int.reduceAdd, Int.reduceSub, reduceIte, Nat.reduceLeDiff, Nat.reduceLT, Nat.reduceMul, Nat.reduceSub, Int.reduceToNat, s56, zc31, Tryz.underlying42, sd31, pl31_0, pl31_1, sz31, fo73_1, sh70, sh31, hb, ht1]
      refine FnK.use (read_c a k R1.sr ha hk1 (by omega)) ?_
      intro v2 h2 ⟨S2, K3⟩
      rw [peekL_get] at S2
      simp -implicitDefEqProofs (disch := first | omega | (simp only [h_szP, h_szS]; done) | (simp only [h_szP, h_szS]; omega)) only [go_sem, Nat.reduceBEq, reduceCtorEq, Nat.reduceAdd, Int.reduceEq, Int.reduceLT, Int.reduceLE, Int.reduceMul, Int.reduceAdd, Int.reduceSub, reduceIte, Nat.reduceLeDiff, Nat.reduceLT, Nat.reduceMul, Nat.reduceSub, Int.reduceToNat, s56, zc31, Tryz.underlying42, sd31, pl31_0, pl31_1, sz31, fo73_1, sh70, sh31]
      refine FnK.val (wget_c k hk1 hk2 S2.vs (peekL_len _ _ _) (fun b hb => ?_)) ?_
      · simp only [peekL, List.mem_map] at hb
        obtain ⟨i, _, rfl⟩ := hb
        exact byteAt_lt r.sr _
      · have hb3 := K3.at hb hb2
        have hb4 := getElem?_lt hb3
        simp -implicitDefEqProofs (disch := first | omega | (simp only [h_szP, h_szS]; done) | (simp only [h_szP, h_szS]; omega)) only [go_sem, Nat.reduceBEq, reduceCtorEq, Nat.reduceAdd, Int.reduceEq, Int.reduceLT, Int.reduceLE, Int.reduceMul, Int.reduceAdd, Int.reduceSub, reduceIte, Nat.reduceLeDiff, Nat.reduceLT, Nat.reduceMul, Nat.reduceSub, Int.reduceToNat, s56, zc31, Tryz.underlying42, sd31, pl31_0, pl31_1, sz31, fo73_1, sh70, sh31, hb3]
        exact ⟨.ok hg F rfl, (K2.of_ext K3 (Nat.le_refl _)).set' (Nat.le_refl _)⟩
end Go.SX.G
