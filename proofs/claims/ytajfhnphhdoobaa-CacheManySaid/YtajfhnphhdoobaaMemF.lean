/- The space: SetBrk, Probe, Store, Load, Peek, Pages. No condition but on sizes. -/
import Derived.Test.YtajfhnphhdoobaaMemE
set_option linter.unusedVariables false
set_option linter.unusedSimpArgs false
namespace Go.SX.G
open Go Go.SX Go.Proofs
set_option maxRecDepth 100000
set_option maxHeartbeats 2000000
theorem mfirst_c {h : Heap} {s : Nat} {M : MemD} (a n prot : Nat) (r : MR h s M) (ha : a < 18446744073709551616) (hn : n ≤ 4194304) (hp : prot ≤ 7) :
    Fn Try.prog 87 [ptr s 0, .int .u64 a, .int .i64 n, .int .i64 prot] h fun x h' => ∃ o, x = placeV o ∧ FirstN M.rs a n prot o ∧ Keeps h.size h h' := by
  have hlen := r.len
  refine Fn_c Try.func87 mixed c87 (by kernel_rfl) ?_; rw [r87]
  simp -implicitDefEqProofs (disch := first | omega | (simp only [h_szP, h_szS]; done) | (simp only [h_szP, h_szS]; omega)) only [go_sem, Nat.reduceBEq, reduceCtorEq, Nat.reduceAdd, Int.reduceEq, Int.reduceLT, Int.reduceLE, Int.reduceMul, Int.reduceAdd, Int.reduceSub, reduceIte, Nat.reduceLeDiff, Nat.reduceLT, Nat.reduceMul, Nat.reduceSub, Int.reduceToNat, s87, Try.underlying3, Try.underlying26, fo78_0, sh73, zc83, sz83, fo83_2, sh3]
  obtain ⟨I, hI⟩ : ∃ I : Nat → Fr → Heap → Prop, I = fun k fr hh => ∃ (i : Nat), i + k = n ∧ Keeps h.size h hh ∧ (∀ j, j < i → okAt M.rs prot (adr a j)) ∧
      fr = (((((fr0.up 15 (.int .u64 i)).up 14 (.int .u64 n)).up 3 (.int .i64 prot)).up 1 (.int .u64 a)).up 0 (ptr s 0)) := ⟨_, rfl⟩
  refine LoopK.use I n (by rw [hI]; exact ⟨0, by omega, Keeps.refl', fun j hj => by omega, rfl⟩) ?_
  intro k fr hh hK
  rw [hI] at hK
  obtain ⟨i, hk, K1, hok, hf⟩ := hK
  subst hf
  by_cases hi : i < n
  · have hdi : decide ((i : Int) < n) = true := decide_eq_true (by omega)
    have R1 := r.ext K1
    have ht1 := R1.top
    have hw : IntKind.u64.wrap ((a : Int) + i) = ((adr a i : Nat) : Int) := by rw [wrap_u64]; unfold adr; omega
    simp -implicitDefEqProofs (disch := first | omega | (simp only [h_szP, h_szS]; done) | (simp only [h_szP, h_szS]; omega)) only [go_sem, Nat.reduceBEq, reduceCtorEq, Nat.reduceAdd, Int.reduceEq, Int.reduceLT, Int.reduceLE, Int.reduceMul, Int.reduceAdd, Int.reduceSub, reduceIte, Nat.reduceLeDiff, Nat.reduceLT, Nat.reduceMul, Nat.reduceSub, Int.reduceToNat, s87, Try.underlying3, Try.underlying26, fo78_0, sh73, zc83, sz83, fo83_2, sh3, hdi, ht1, hw]
    refine FnK.use (at_c (adr a i) R1.lr (by omega)) ?_
    intro x h2 hx
    obtain ⟨e1, K2⟩ := hx
    have K3 := K1.of_ext K2 (Nat.le_refl _)
    rw [e1]
    cases hr : atL M.rs (adr a i) with
    | none =>
      simp only [atV]
      simp -implicitDefEqProofs (disch := first | omega | (simp only [h_szP, h_szS]; done) | (simp only [h_szP, h_szS]; omega)) only [go_sem, Nat.reduceBEq, reduceCtorEq, Nat.reduceAdd, Int.reduceEq, Int.reduceLT, Int.reduceLE, Int.reduceMul, Int.reduceAdd, Int.reduceSub, reduceIte, Nat.reduceLeDiff, Nat.reduceLT, Nat.reduceMul, Nat.reduceSub, Int.reduceToNat, s87, Try.underlying3, Try.underlying26, fo78_0, sh73, zc83, sz83, fo83_2, sh3, hw]
      refine ⟨some (adr a i), rfl, .some i hi (fun ⟨q, h3, _⟩ => by rw [hr] at h3; cases h3) hok, K3.push' (Nat.le_refl _)⟩
    | some q =>
      have hm := atL_mem hr
      have hwq := r.wf.each q hm.1
      have hbit := bitI_and_i64 q.p prot (by omega) (by omega)
      simp only [atV]
      simp -implicitDefEqProofs (disch := first | omega | (simp only [h_szP, h_szS]; done) | (simp only [h_szP, h_szS]; omega)) only [go_sem, Nat.reduceBEq, reduceCtorEq, Nat.reduceAdd, Int.reduceEq, Int.reduceLT, Int.reduceLE, Int.reduceMul, Int.reduceAdd, Int.reduceSub, reduceIte, Nat.reduceLeDiff, Nat.reduceLT, Nat.reduceMul, Nat.reduceSub, Int.reduceToNat, s87, Try.underlying3, Try.underlying26, fo78_0, sh73, zc83, sz83, fo83_2, sh3, hbit, hw]
      refine ⟨fun z => ?_, fun z => ?_⟩
      · have z' : q.p &&& prot = prot := by exact_mod_cast z
        refine ⟨k - 1, by omega, ?_⟩
        rw [hI]
        refine ⟨i + 1, by omega, K3.push' (Nat.le_refl _), fun j hj => ?_, rfl⟩
        by_cases hji : j = i
        · subst hji; exact ⟨q, hr, z'⟩
        · exact hok j (by omega)
      · refine ⟨some (adr a i), rfl, .some i hi (fun ⟨q', h3, h4⟩ => z ?_) hok, K3.push' (Nat.le_refl _)⟩
        rw [hr] at h3; cases h3
        exact_mod_cast h4
  · have hdi : decide ((i : Int) < n) = false := decide_eq_false (by omega)
    have e1 : i = n := by omega
    subst e1
    simp -implicitDefEqProofs (disch := first | omega | (simp only [h_szP, h_szS]; done) | (simp only [h_szP, h_szS]; omega)) only [go_sem, Nat.reduceBEq, reduceCtorEq, Nat.reduceAdd, Int.reduceEq, Int.reduceLT, Int.reduceLE, Int.reduceMul, Int.reduceAdd, Int.reduceSub, reduceIte, Nat.reduceLeDiff, Nat.reduceLT, Nat.reduceMul, Nat.reduceSub, Int.reduceToNat, s87, Try.underlying3, Try.underlying26, fo78_0, sh73, zc83, sz83, fo83_2, sh3, hdi]
    exact ⟨none, rfl, .none hok, K1⟩
/-- what Probe tells. -/
inductive Probd (x : Value) (M : MemD) (a : Nat) (n : Int) : Prop
  | bad (c : goodN n = false) (ex : x = fltA 2 a)
  | flt (c : goodN n = true) (b : Nat) (f : FirstN M.rs a n.toNat 2 (some b)) (ex : x = fltA 2 b)
  | ok (c : goodN n = true) (f : FirstN M.rs a n.toNat 2 none) (ex : x = fltA 0 0)
theorem goodN_le {n : Int} (h : goodN n = true) : ∃ k : Nat, n = k ∧ 1 ≤ k ∧ k ≤ 8 := by
  simp [goodN] at h
  rcases h with h | h | h | h
  · exact ⟨1, h, by omega, by omega⟩
  · exact ⟨2, h, by omega, by omega⟩
  · exact ⟨4, h, by omega, by omega⟩
  · exact ⟨8, h, by omega, by omega⟩
/-- what Store comes to. -/
inductive Stord (h h' : Heap) (s : Nat) (x : Value) (M : MemD) (a : Nat) (n : Int) (v : Nat) : Prop
  | no (p : Probd x M a n) (k : Keeps h.size h h') (ne : ∃ b, x = fltA 2 b)
  | ok (c : goodN n = true) (f : FirstN M.rs a n.toNat 2 none) (ex : x = fltA 0 0) (M' : MemD) (g : Chg h h' s M M' n.toNat (touched a (a + n.toNat))) (rs : M'.rs = M.rs) (byte : ∀ y, memAt M' y = if a ≤ y ∧ y < a + n.toNat then v / 256 ^ (y - a) % 256 else memAt M y)
theorem Wr.chg {h h' : Heap} {s : Nat} {M : MemD} {D' : StoreD} {lo hi : Nat} {B : Nat → Nat} (r : MR h s M) (w : Wr h h' M.p M.D D' lo hi B) : Chg h h' s M { M with D := D' } (hi - lo) (touched lo hi) := by
  obtain ⟨R, F⟩ := r.stored w.rep w.ft w.size w.old
  exact ⟨R, rfl, rfl, rfl, F, w.sr⟩
theorem Chg.widen {h0 h h' : Heap} {s n : Nat} {M M' : MemD} {T : Nat → Prop} (k : Keeps h0.size h0 h) (g : Chg h h' s M M' n T) : Chg h0 h' s M M' n T := ⟨g.r, g.most, g.base, g.fin, (Fx.of k).trans g.fx, g.sr⟩
theorem Chg.poke {h h' : Heap} {s n c : Nat} {M M' : MemD} {T : Nat → Prop} (g : Chg h h' s M M' n T) (hc : h.size ≤ c) (hn : ¬ mfoot s M' c) (o : Obj) : Chg h (h'.setIfInBounds c o) s M M' n T :=
  ⟨g.r.mono fun b f => h_setN _ _ _ _ (fun e => hn (by rw [← e]; exact f)), g.most, g.base, g.fin, ⟨by simpa using g.fx.size, g.fx.ft, fun b hb hf => by rw [h_setN _ _ _ _ (by omega)]; exact g.fx.old b hb hf⟩, g.sr⟩
/-- what Load comes to. -/
inductive Loadd (x : Value) (M : MemD) (a : Nat) (n : Int) : Prop
  | bad (c : goodN n = false) (ex : x = .tuple #[.int .u64 0, fltA 1 a])
  | flt (c : goodN n = true) (b : Nat) (f : FirstN M.rs a n.toNat 1 (some b)) (ex : x = .tuple #[.int .u64 0, fltA 1 b])
  | ok (c : goodN n = true) (f : FirstN M.rs a n.toNat 1 none) (ex : x = .tuple #[.int .u64 (le (peekL M a n.toNat) : Nat), fltA 0 0])
theorem byteAt_lt {h : Heap} {p : Nat} {D : StoreD} (r : SR h p D) (a : Nat) : byteAt D.es a < 256 := by
  unfold byteAt
  split
  · rename_i l hl
    have hm := List.mem_of_find?_eq_some hl
    have h1 := r.leaf l hm
    rw [List.getD_eq_getElem?_getD]
    cases hg : l.dat[a % 4096]? with
    | none => simp
    | some x => exact h1.2.2.2.2 x (List.mem_of_getElem? hg)
  · decide
theorem mpeek_c {h : Heap} {s : Nat} {M : MemD} (a n : Nat) (r : MR h s M) (ha : a < 18446744073709551616) (h1 : 1 ≤ n) (h2 : n ≤ 4194304) :
    Fn Try.prog 16 [ptr s 0, .int .u64 a, .int .i64 n] h fun x h' => Ss h' h.size x 5 encB 1 (peekL M a n) ∧ Keeps h.size h h' := by
  have ht := r.top
  refine Fn_c Try.func16 mixed c16 (by kernel_rfl) ?_; rw [r16]
  simp -implicitDefEqProofs (disch := first | omega | (simp only [h_szP, h_szS]; done) | (simp only [h_szP, h_szS]; omega)) only [go_sem, Nat.reduceBEq, reduceCtorEq, Nat.reduceAdd, Int.reduceEq, Int.reduceLT, Int.reduceLE, Int.reduceMul, Int.reduceAdd, Int.reduceSub, reduceIte, Nat.reduceLeDiff, Nat.reduceLT, Nat.reduceMul, Nat.reduceSub, Int.reduceToNat, s16, Try.underlying23, fo78_1, sh75, ht]
  refine FnK.use (read_c a n r.sr ha h1 h2) ?_
  intro v2 h2 ⟨S2, K3⟩
  rw [peekL_get] at S2
  simp -implicitDefEqProofs (disch := first | omega | (simp only [h_szP, h_szS]; done) | (simp only [h_szP, h_szS]; omega)) only [go_sem, Nat.reduceBEq, reduceCtorEq, Nat.reduceAdd, Int.reduceEq, Int.reduceLT, Int.reduceLE, Int.reduceMul, Int.reduceAdd, Int.reduceSub, reduceIte, Nat.reduceLeDiff, Nat.reduceLT, Nat.reduceMul, Nat.reduceSub, Int.reduceToNat, s16, Try.underlying23, fo78_1, sh75]
  exact ⟨S2, K3⟩
end Go.SX.G
