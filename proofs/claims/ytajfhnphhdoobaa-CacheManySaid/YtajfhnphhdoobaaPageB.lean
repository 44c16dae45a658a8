/- Pages of bytes: writing. No condition but on sizes. -/
import Derived.Test.YtajfhnphhdoobaaPageA
set_option linter.unusedVariables false
set_option linter.unusedSimpArgs false
namespace Go.SX.G
open Go Go.SX Go.Proofs
set_option maxRecDepth 100000
set_option maxHeartbeats 1000000
/-- a page is another one. -/
structure Marked (h h' : Heap) (p n : Nat) (D D' : StoreD) : Prop where
  rep : SR h' p D'
  lm : D'.lm = D.lm
  sm : D'.sm = D.sm
  es : D'.es = D.es
  c1 : D'.c1 = D.c1
  all : D'.all = D.all
  clock : D'.clock = (D.clock + 1) % 18446744073709551616
  stamp : ∀ m, stampAt D'.ss m = if m = n then D'.clock else stampAt D.ss m
  size : h'.size = h.size
  old : ∀ b, b ≠ p → b ≠ D.sm → h'[b]? = h[b]?
theorem SR.ne {h : Heap} {p : Nat} {D : StoreD} (r : SR h p D) : p ≠ D.lm ∧ p ≠ D.sm ∧ D.lm ≠ D.sm ∧ ∀ l ∈ D.es, l.blk ≠ p ∧ l.blk ≠ D.lm ∧ l.blk ≠ D.sm := by
  have h1 := r.top; have h2 := r.lmap; have h3 := r.smap
  refine ⟨fun e => ?_, fun e => ?_, fun e => ?_, fun l hl => ?_⟩
  · rw [e, h2] at h1; cases h1
  · rw [e, h3] at h1; cases h1
  · exact r.lmsm e
  · have h4 := (r.leaf l hl).1
    refine ⟨fun e => ?_, fun e => ?_, fun e => ?_⟩
    · rw [e, h1] at h4
      have h5 := (r.leaf l hl).2.1
      simp only [Option.some.injEq, Obj.cells.injEq] at h4
      have h6 := congrArg Array.size h4.1
      simp [flat_len encB_len, h5] at h6
    · rw [e, h2] at h4; cases h4
    · rw [e, h3] at h4; cases h4
theorem mark_c {h : Heap} {p : Nat} {D : StoreD} (n : Nat) (r : SR h p D) (hn : n < 18446744073709551616) :
    Fn Try.prog 56 [ptr p 0, .int .u64 n] h fun x h' => ∃ D', Marked h h' p n D D' := by
  have hp := r.lt (.inl rfl)
  have hsm := r.lt (.inr (.inr (.inl rfl)))
  have ht := r.top
  obtain ⟨n1, n2, n3, n4⟩ := r.ne
  obtain ⟨c, hc⟩ : ∃ c, c = (D.clock + 1) % 18446744073709551616 := ⟨_, rfl⟩
  have hw : IntKind.u64.wrap ((D.clock : Int) + 1) = (c : Int) := by rw [wrap_u64]; omega
  have hnn : ¬ D.sm = p := fun e => n2 e.symm
  refine Fn_c Try.func56 mixed c56 (by kernel_rfl) ?_; rw [r56]
  simp -implicitDefEqProofs (disch := first | omega | (simp only [h_szP, h_szS]; done) | (simp only [h_szP, h_szS]; omega)) only [go_sem, Nat.reduceBEq, reduceCtorEq, Nat.reduceAdd, Int.reduceEq, Int.reduceLT, Int.reduceLE, Int.reduceMul, Int.reduceAdd, Int.reduceSub, reduceIte, Nat.reduceLeDiff, Nat.reduceLT, Nat.reduceMul, Nat.reduceSub, Int.reduceToNat, s56, fo121_2, sh26, Try.underlying26, sz26, fo121_1, sh119, Try.underlying119, ht, hw, hnn]
  have hold : ∀ (o1 o2 : Obj) (b : Nat), b ≠ p → b ≠ D.sm → ((h.setIfInBounds p o1).setIfInBounds D.sm o2)[b]? = h[b]? := fun o1 o2 b h1 h2 => by rw [h_setN _ _ _ _ h2, h_setN _ _ _ _ h1]
  have hrep : ∀ (o2 : List Stp) (k2 : Nat), (o2.Pairwise fun a b => a.no ≠ b.no) → (∀ s ∈ o2, s.born < k2) → (o2.Pairwise fun a b => a.born ≠ b.born) → SR ((h.setIfInBounds p (.cells #[.map (some D.lm), .map (some D.sm), .int .u64 c, .int .u64 D.all] 121)).setIfInBounds D.sm (.map (stpE o2) k2)) p { D with clock := c, ss := o2, c2 := k2 } := by
    intro o2 k2 q1 q2 q3
    refine ⟨?_, ?_, ?_, fun l hl => ⟨?_, (r.leaf l hl).2⟩, r.nos, r.blks, r.borns, q1, r.lmsm, q2, q3, ⟨by show c < 18446744073709551616; omega, r.clk.2⟩⟩
    · rw [h_setN _ _ _ _ n2]; exact h_setS _ _ _ hp
    · rw [hold _ _ _ n1.symm n3]; exact r.lmap
    · exact h_setS _ _ _ (by simpa using hsm)
    · have := n4 l hl
      rw [hold _ _ _ this.1 this.2.2]; exact (r.leaf l hl).1
  have hs0 : (h.setIfInBounds p (.cells #[.map (some D.lm), .map (some D.sm), .int .u64 c, .int .u64 D.all] 121))[D.sm]? = some (.map (stpE D.ss) D.c2) := by rw [h_setN _ _ _ _ hnn]; exact r.smap
  rcases fnd_cases (kf := fun l : Stp => (l.no : Int)) (n : Int) D.ss with hn0 | ⟨j, hj, e1, e2⟩
  · refine mup_none Try.underlying119 Try.underlying26 hs0 hn0 ⟨n, c, D.c2⟩ rfl ?_
    simp -implicitDefEqProofs (disch := first | omega | (simp only [h_szP, h_szS]; done) | (simp only [h_szP, h_szS]; omega)) only [go_sem, Nat.reduceBEq, reduceCtorEq, Nat.reduceAdd, Int.reduceEq, Int.reduceLT, Int.reduceLE, Int.reduceMul, Int.reduceAdd, Int.reduceSub, reduceIte, Nat.reduceLeDiff, Nat.reduceLT, Nat.reduceMul, Nat.reduceSub, Int.reduceToNat, s56, fo121_2, sh26, Try.underlying26, sz26, fo121_1, sh119, Try.underlying119]
    have hn1 : ∀ s ∈ D.ss, s.no ≠ n := fun s hs e => hn0 s hs (by omega)
    refine ⟨{ D with clock := c, ss := D.ss ++ [⟨n, c, D.c2⟩], c2 := D.c2 + 1 }, hrep (D.ss ++ [⟨n, c, D.c2⟩]) (D.c2 + 1) (pairwise_snoc _ _ hn1 r.snos) (fun s hs => ?_) (pairwise_snoc _ _ (fun s hs => Nat.ne_of_lt (r.sborn s hs)) r.sborns), rfl, rfl, rfl, rfl, rfl, hc, fun m => stampAt_push hn1 m, by simp, fun b h1 h2 => hold _ _ _ h1 h2⟩
    rcases List.mem_append.1 hs with h1 | h1
    · have := r.sborn s h1; omega
    · simp at h1; subst h1; simp
  · refine mup_some Try.underlying119 Try.underlying26 hs0 hj e1 e2 ⟨n, c, D.ss[j].born⟩ rfl ?_
    simp -implicitDefEqProofs (disch := first | omega | (simp only [h_szP, h_szS]; done) | (simp only [h_szP, h_szS]; omega)) only [go_sem, Nat.reduceBEq, reduceCtorEq, Nat.reduceAdd, Int.reduceEq, Int.reduceLT, Int.reduceLE, Int.reduceMul, Int.reduceAdd, Int.reduceSub, reduceIte, Nat.reduceLeDiff, Nat.reduceLT, Nat.reduceMul, Nat.reduceSub, Int.reduceToNat, s56, fo121_2, sh26, Try.underlying26, sz26, fo121_1, sh119, Try.underlying119]
    have hjn : D.ss[j].no = n := by omega
    refine ⟨{ D with clock := c, ss := D.ss.set j ⟨n, c, D.ss[j].born⟩, c2 := D.c2 }, hrep (D.ss.set j ⟨n, c, D.ss[j].born⟩) D.c2 (pairwise_set _ hj _ hjn.symm r.snos) (fun s hs => ?_) (pairwise_set _ hj _ rfl r.sborns), rfl, rfl, rfl, rfl, rfl, hc, fun m => stampAt_set hj hjn r.snos m, by simp, fun b h1 h2 => hold _ _ _ h1 h2⟩
    rcases List.mem_or_eq_of_mem_set hs with h1 | h1
    · exact r.sborn s h1
    · rw [h1]; show D.ss[j].born < D.c2; exact r.sborn _ (List.getElem_mem hj)
end Go.SX.G
