/- The space: Unmap, Protect, the heap's end. No condition but on sizes. -/
import Derived.Test.YtcnalkdgdbhedaaMemD
set_option linter.unusedVariables false
set_option linter.unusedSimpArgs false
namespace Go.SX.G
open Go Go.SX Go.Proofs
set_option maxRecDepth 100000
set_option maxHeartbeats 2000000
/-- a change of the space: its regions, its bytes. -/
structure Chg (h h' : Heap) (s : Nat) (M M' : MemD) (n : Nat) (T : Nat → Prop) : Prop where
  r : MR h' s M'
  most : M'.most = M.most
  base : M'.base = M.base
  fin : M'.fin = M.fin
  fx : Fx (mfoot s M) (mfoot s M') h h'
  sr : Sr M.D M'.D n T
/-- the space behind a change of its list in place. -/
theorem MR.took {h h1 : Heap} {s : Nat} {M : MemD} {rs : List Reg} {bl : Option Nat} (r : MR h s M) (L : LR h1 M.l bl rs) (fresh : ∀ b, bl = some b → h.size ≤ b) (size : h.size ≤ h1.size) (old : ∀ b, b < h.size → b ≠ M.l → h1[b]? = h[b]?) (w : wfR rs) (n : rs.length ≤ 256) :
    MR h1 s { M with bl := bl, rs := rs } ∧ Fx (mfoot s M) (mfoot s { M with bl := bl, rs := rs }) h h1 := by
  have hsz := fun b f => r.lt (b := b) f
  refine ⟨⟨by rw [old s (hsz _ (.inl rfl)) r.ds.1]; exact r.top, L, r.sr.mono fun b f => old b (r.sr.lt f) (fun e => r.dl.2 (by rw [← e]; exact f)), w, n, ⟨r.ds.1, fun e => ?_, r.ds.2.2⟩, ⟨fun e => ?_, r.dl.2⟩, fun b hb f => ?_, r.num⟩, size, fun b f => ?_, fun b hb hf => old b hb fun e => hf (.inr (.inl e))⟩
  · have := fresh s e; have := hsz s (.inl rfl); omega
  · have := fresh M.l e; have := hsz M.l (.inr (.inl rfl)); omega
  · have := fresh b hb; have := r.sr.lt f; omega
  · rcases f with f | f | f | f
    · exact .inl (.inl f)
    · exact .inl (.inr (.inl f))
    · exact .inr (fresh b f)
    · exact .inl (.inr (.inr (.inr f)))
/-- the space behind a change of its store. -/
theorem MR.stored {h h1 : Heap} {s : Nat} {M : MemD} {D' : StoreD} (r : MR h s M) (R : SR h1 M.p D') (ft : ∀ b, foot M.p D' b → foot M.p M.D b ∨ h.size ≤ b) (size : h.size ≤ h1.size) (old : ∀ b, b < h.size → ¬ foot M.p M.D b → h1[b]? = h[b]?) :
    MR h1 s { M with D := D' } ∧ Fx (mfoot s M) (mfoot s { M with D := D' }) h h1 := by
  have hsz := fun b f => r.lt (b := b) f
  have hnf : ∀ b, b < h.size → ¬ foot M.p M.D b → ¬ foot M.p D' b := fun b hb hf f => by
    rcases ft b f with q | q
    · exact hf q
    · omega
  refine ⟨⟨by rw [old s (hsz _ (.inl rfl)) r.ds.2.2]; exact r.top, r.lr.mono (old _ r.lr.lt r.dl.2) fun b hb => old b (r.lr.blt hb) (r.db b hb), R, r.wf, r.len, ⟨r.ds.1, r.ds.2.1, hnf _ (hsz _ (.inl rfl)) r.ds.2.2⟩, ⟨r.dl.1, hnf _ r.lr.lt r.dl.2⟩, fun b hb => hnf b (r.lr.blt hb) (r.db b hb), r.num⟩, size, fun b f => ?_, fun b hb hf => old b hb fun f => hf (.inr (.inr (.inr f)))⟩
  rcases f with f | f | f | f
  · exact .inl (.inl f)
  · exact .inl (.inr (.inl f))
  · exact .inl (.inr (.inr (.inl f)))
  · rcases ft b f with q | q
    · exact .inl (.inr (.inr (.inr q)))
    · exact .inr q
/-- what Unmap comes to. -/
inductive Unmd (h h' : Heap) (s : Nat) (x : Value) (M : MemD) (a n : Nat) : Prop
  | bad (c : spanO a n = none) (ex : x = .int .i64 22) (k : Keeps h.size h h')
  | no (e : Nat) (c : spanO a n = some e) (c2 : 256 < (joL (woL a e M.rs)).length) (ex : x = .int .i64 12) (k : Keeps h.size h h')
  | yes (e : Nat) (c : spanO a n = some e) (c2 : (joL (woL a e M.rs)).length ≤ 256) (ex : x = .int .i64 0) (M' : MemD) (g : Chg h h' s M M' ((e - a) / 4096) (touched a e)) (rs : M'.rs = joL (woL a e M.rs)) (byte : ∀ y, memAt M' y = if a ≤ y ∧ y < e then 0 else memAt M y)
theorem munmap_c {h : Heap} {s : Nat} {M : MemD} (a n : Nat) (r : MR h s M) (ha : a < 18446744073709551616) (hn : n < 18446744073709551616) :
    Fn Try.prog 55 [ptr s 0, .int .u64 a, .int .u64 n] h fun x h' => Unmd h h' s x M a n := by
  have ht := r.top
  have hlen := r.len
  cases hsp : spanO a n with
  | none =>
    refine Fn_c Try.func55 mixed c55 (by kernel_rfl) ?_; rw [r55]
    simp -implicitDefEqProofs (disch := first | omega | (simp only [h_szP, h_szS]; done) | (simp only [h_szP, h_szS]; omega)) only [go_sem, Nat.reduceBEq, reduceCtorEq, Nat.reduceAdd, Int.reduceEq, Int.reduceLT, Int.reduceLE, Int.reduceMul, Int.reduceAdd, Int.reduceSub, reduceIte, Nat.reduceLeDiff, Nat.reduceLT, Nat.reduceMul, Nat.reduceSub, Int.reduceToNat, s55, Try.underlying31, fo87_0, sh82, Try.underlying34, fo87_1, sh84]
    refine FnK.val (mspan_c h a n ha hn) ?_
    rw [hsp, placeV_none]
    simp -implicitDefEqProofs (disch := first | omega | (simp only [h_szP, h_szS]; done) | (simp only [h_szP, h_szS]; omega)) only [go_sem, Nat.reduceBEq, reduceCtorEq, Nat.reduceAdd, Int.reduceEq, Int.reduceLT, Int.reduceLE, Int.reduceMul, Int.reduceAdd, Int.reduceSub, reduceIte, Nat.reduceLeDiff, Nat.reduceLT, Nat.reduceMul, Nat.reduceSub, Int.reduceToNat, s55, Try.underlying31, fo87_0, sh82, Try.underlying34, fo87_1, sh84]
    exact .bad hsp rfl Keeps.refl'
  | some e =>
    obtain ⟨q1, q2, q3, q4⟩ := spanO_some hsp
    obtain ⟨s1, s2, s3, s4⟩ := spanB_iff.1 q1
    refine Fn_c Try.func55 mixed c55 (by kernel_rfl) ?_; rw [r55]
    simp -implicitDefEqProofs (disch := first | omega | (simp only [h_szP, h_szS]; done) | (simp only [h_szP, h_szS]; omega)) only [go_sem, Nat.reduceBEq, reduceCtorEq, Nat.reduceAdd, Int.reduceEq, Int.reduceLT, Int.reduceLE, Int.reduceMul, Int.reduceAdd, Int.reduceSub, reduceIte, Nat.reduceLeDiff, Nat.reduceLT, Nat.reduceMul, Nat.reduceSub, Int.reduceToNat, s55, Try.underlying31, fo87_0, sh82, Try.underlying34, fo87_1, sh84]
    refine FnK.val (mspan_c h a n ha hn) ?_
    rw [hsp, placeV_some]
    simp -implicitDefEqProofs (disch := first | omega | (simp only [h_szP, h_szS]; done) | (simp only [h_szP, h_szS]; omega)) only [go_sem, Nat.reduceBEq, reduceCtorEq, Nat.reduceAdd, Int.reduceEq, Int.reduceLT, Int.reduceLE, Int.reduceMul, Int.reduceAdd, Int.reduceSub, reduceIte, Nat.reduceLeDiff, Nat.reduceLT, Nat.reduceMul, Nat.reduceSub, Int.reduceToNat, s55, Try.underlying31, fo87_0, sh82, Try.underlying34, fo87_1, sh84, ht]
    refine FnK.use (runmap_c a e r.lr (by omega) q1) ?_
    intro x h1 hx
    cases hx with
    | no n ex k =>
      rw [ex]
      simp -implicitDefEqProofs (disch := first | omega | (simp only [h_szP, h_szS]; done) | (simp only [h_szP, h_szS]; omega)) only [go_sem, Nat.reduceBEq, reduceCtorEq, Nat.reduceAdd, Int.reduceEq, Int.reduceLT, Int.reduceLE, Int.reduceMul, Int.reduceAdd, Int.reduceSub, reduceIte, Nat.reduceLeDiff, Nat.reduceLT, Nat.reduceMul, Nat.reduceSub, Int.reduceToNat, s55, Try.underlying31, fo87_0, sh82, Try.underlying34, fo87_1, sh84]
      exact .no e hsp n rfl k
    | yes n ex bl L fresh size old =>
      rw [ex]
      obtain ⟨R1, F1⟩ := r.took L fresh size old (unmapped_at r.wf q1).1 n
      have ht1 := R1.top
      simp -implicitDefEqProofs (disch := first | omega | (simp only [h_szP, h_szS]; done) | (simp only [h_szP, h_szS]; omega)) only [go_sem, Nat.reduceBEq, reduceCtorEq, Nat.reduceAdd, Int.reduceEq, Int.reduceLT, Int.reduceLE, Int.reduceMul, Int.reduceAdd, Int.reduceSub, reduceIte, Nat.reduceLeDiff, Nat.reduceLT, Nat.reduceMul, Nat.reduceSub, Int.reduceToNat, s55, Try.underlying31, fo87_0, sh82, Try.underlying34, fo87_1, sh84, ht1]
      refine FnK.use (clear_c a e R1.sr s1 s2 s3 s4) ?_
      intro x2 h2 hx2
      obtain ⟨D', C⟩ := hx2
      obtain ⟨R2, F2⟩ := R1.stored C.rep (fun b f => .inl (C.ft b f)) C.size C.old
      simp -implicitDefEqProofs (disch := first | omega | (simp only [h_szP, h_szS]; done) | (simp only [h_szP, h_szS]; omega)) only [go_sem, Nat.reduceBEq, reduceCtorEq, Nat.reduceAdd, Int.reduceEq, Int.reduceLT, Int.reduceLE, Int.reduceMul, Int.reduceAdd, Int.reduceSub, reduceIte, Nat.reduceLeDiff, Nat.reduceLT, Nat.reduceMul, Nat.reduceSub, Int.reduceToNat, s55, Try.underlying31, fo87_0, sh82, Try.underlying34, fo87_1, sh84]
      exact .yes e hsp n rfl _ ⟨R2, rfl, rfl, rfl, F1.trans F2, C.sr⟩ rfl C.byte
/-- what Protect comes to. -/
inductive Prtd (h h' : Heap) (s : Nat) (x : Value) (M : MemD) (a n : Nat) (p : Int) : Prop
  | bad (c : spanO a n = none ∨ ¬ (0 ≤ p ∧ p ≤ 7)) (ex : x = .int .i64 22) (k : Keeps h.size h h')
  | hole (e : Nat) (c : spanO a n = some e) (c2 : ∃ y, a ≤ y ∧ y < e ∧ atL M.rs y = none) (ex : x = .int .i64 12) (k : Keeps h.size h h')
  | no (e : Nat) (c : spanO a n = some e) (c2 : 256 < (joL (wiL M.rs ⟨a, e, p.toNat⟩)).length) (ex : x = .int .i64 12) (k : Keeps h.size h h')
  | yes (e : Nat) (c : spanO a n = some e) (hp : 0 ≤ p ∧ p ≤ 7) (c1 : ∀ y, a ≤ y → y < e → (atL M.rs y).isSome = true) (c2 : (joL (wiL M.rs ⟨a, e, p.toNat⟩)).length ≤ 256) (ex : x = .int .i64 0) (M' : MemD) (g : Chg h h' s M M' ((e - a) / 4096) (touched a e)) (rs : M'.rs = joL (wiL M.rs ⟨a, e, p.toNat⟩)) (byte : ∀ y, memAt M' y = memAt M y)
theorem mprotect_c {h : Heap} {s : Nat} {M : MemD} (a n : Nat) (p : Int) (r : MR h s M) (ha : a < 18446744073709551616) (hn : n < 18446744073709551616) :
    Fn Try.prog 27 [ptr s 0, .int .u64 a, .int .u64 n, .int .i64 p] h fun x h' => Prtd h h' s x M a n p := by
  have ht := r.top
  have hlen := r.len
  cases hsp : spanO a n with
  | none =>
    refine Fn_c Try.func27 mixed c27 (by kernel_rfl) ?_; rw [r27]
    simp -implicitDefEqProofs (disch := first | omega | (simp only [h_szP, h_szS]; done) | (simp only [h_szP, h_szS]; omega)) only [go_sem, Nat.reduceBEq, reduceCtorEq, Nat.reduceAdd, Int.reduceEq, Int.reduceLT, Int.reduceLE, Int.reduceMul, Int.reduceAdd, Int.reduceSub, reduceIte, Nat.reduceLeDiff, Nat.reduceLT, Nat.reduceMul, Nat.reduceSub, Int.reduceToNat, s27, Try.underlying31, fo87_0, sh82, Try.underlying34, fo87_1, sh84]
    refine FnK.val (mspan_c h a n ha hn) ?_
    rw [hsp, placeV_none]
    simp -implicitDefEqProofs (disch := first | omega | (simp only [h_szP, h_szS]; done) | (simp only [h_szP, h_szS]; omega)) only [go_sem, Nat.reduceBEq, reduceCtorEq, Nat.reduceAdd, Int.reduceEq, Int.reduceLT, Int.reduceLE, Int.reduceMul, Int.reduceAdd, Int.reduceSub, reduceIte, Nat.reduceLeDiff, Nat.reduceLT, Nat.reduceMul, Nat.reduceSub, Int.reduceToNat, s27, Try.underlying31, fo87_0, sh82, Try.underlying34, fo87_1, sh84]
    exact .bad (.inl hsp) rfl Keeps.refl'
  | some e =>
    obtain ⟨q1, q2, q3, q4⟩ := spanO_some hsp
    obtain ⟨s1, s2, s3, s4⟩ := spanB_iff.1 q1
    refine Fn_c Try.func27 mixed c27 (by kernel_rfl) ?_; rw [r27]
    simp -implicitDefEqProofs (disch := first | omega | (simp only [h_szP, h_szS]; done) | (simp only [h_szP, h_szS]; omega)) only [go_sem, Nat.reduceBEq, reduceCtorEq, Nat.reduceAdd, Int.reduceEq, Int.reduceLT, Int.reduceLE, Int.reduceMul, Int.reduceAdd, Int.reduceSub, reduceIte, Nat.reduceLeDiff, Nat.reduceLT, Nat.reduceMul, Nat.reduceSub, Int.reduceToNat, s27, Try.underlying31, fo87_0, sh82, Try.underlying34, fo87_1, sh84]
    refine FnK.val (mspan_c h a n ha hn) ?_
    rw [hsp, placeV_some]
    simp -implicitDefEqProofs (disch := first | omega | (simp only [h_szP, h_szS]; done) | (simp only [h_szP, h_szS]; omega)) only [go_sem, Nat.reduceBEq, reduceCtorEq, Nat.reduceAdd, Int.reduceEq, Int.reduceLT, Int.reduceLE, Int.reduceMul, Int.reduceAdd, Int.reduceSub, reduceIte, Nat.reduceLeDiff, Nat.reduceLT, Nat.reduceMul, Nat.reduceSub, Int.reduceToNat, s27, Try.underlying31, fo87_0, sh82, Try.underlying34, fo87_1, sh84, ht]
    refine FnK.use (rprotect_c a e p r.lr (by omega) r.wf q1) ?_
    intro x h1 hx
    cases hx with
    | bad c ex k => rw [ex]; simp -implicitDefEqProofs (disch := first | omega | (simp only [h_szP, h_szS]; done) | (simp only [h_szP, h_szS]; omega)) only [go_sem, Nat.reduceBEq, reduceCtorEq, Nat.reduceAdd, Int.reduceEq, Int.reduceLT, Int.reduceLE, Int.reduceMul, Int.reduceAdd, Int.reduceSub, reduceIte, Nat.reduceLeDiff, Nat.reduceLT, Nat.reduceMul, Nat.reduceSub, Int.reduceToNat, s27, Try.underlying31, fo87_0, sh82, Try.underlying34, fo87_1, sh84]; exact .bad (.inr c) rfl k
    | hole c ex k => rw [ex]; simp -implicitDefEqProofs (disch := first | omega | (simp only [h_szP, h_szS]; done) | (simp only [h_szP, h_szS]; omega)) only [go_sem, Nat.reduceBEq, reduceCtorEq, Nat.reduceAdd, Int.reduceEq, Int.reduceLT, Int.reduceLE, Int.reduceMul, Int.reduceAdd, Int.reduceSub, reduceIte, Nat.reduceLeDiff, Nat.reduceLT, Nat.reduceMul, Nat.reduceSub, Int.reduceToNat, s27, Try.underlying31, fo87_0, sh82, Try.underlying34, fo87_1, sh84]; exact .hole e hsp c rfl k
    | took c hp t =>
    cases t with
    | no n ex k =>
      rw [ex]
      simp -implicitDefEqProofs (disch := first | omega | (simp only [h_szP, h_szS]; done) | (simp only [h_szP, h_szS]; omega)) only [go_sem, Nat.reduceBEq, reduceCtorEq, Nat.reduceAdd, Int.reduceEq, Int.reduceLT, Int.reduceLE, Int.reduceMul, Int.reduceAdd, Int.reduceSub, reduceIte, Nat.reduceLeDiff, Nat.reduceLT, Nat.reduceMul, Nat.reduceSub, Int.reduceToNat, s27, Try.underlying31, fo87_0, sh82, Try.underlying34, fo87_1, sh84]
      exact .no e hsp n rfl k
    | yes n ex bl L fresh size old =>
      rw [ex]
      obtain ⟨R1, F1⟩ := r.took L fresh size old (mapped_at ⟨a, e, p.toNat⟩ r.wf q1 (by show p.toNat ≤ 7; omega)).1 n
      have ht1 := R1.top
      simp -implicitDefEqProofs (disch := first | omega | (simp only [h_szP, h_szS]; done) | (simp only [h_szP, h_szS]; omega)) only [go_sem, Nat.reduceBEq, reduceCtorEq, Nat.reduceAdd, Int.reduceEq, Int.reduceLT, Int.reduceLE, Int.reduceMul, Int.reduceAdd, Int.reduceSub, reduceIte, Nat.reduceLeDiff, Nat.reduceLT, Nat.reduceMul, Nat.reduceSub, Int.reduceToNat, s27, Try.underlying31, fo87_0, sh82, Try.underlying34, fo87_1, sh84, ht1]
      refine FnK.use (touch_c a e R1.sr s1 s2 s3 s4) ?_
      intro x2 h2 hx2
      obtain ⟨D', C⟩ := hx2
      have hft : ∀ b, foot M.p D' b → foot M.p M.D b := by
        rintro b (f | f | f | ⟨l, hl, f⟩)
        · exact .inl f
        · exact .inr (.inl (by rw [f, C.lm]))
        · exact .inr (.inr (.inl (by rw [f, C.sm])))
        · exact .inr (.inr (.inr ⟨l, by rw [← C.es]; exact hl, f⟩))
      obtain ⟨R2, F2⟩ := R1.stored C.rep (fun b f => .inl (hft b f)) (by rw [C.size]; exact Nat.le_refl _) (fun b hb hf => C.old b (fun q => hf (.inl q)) (fun q => hf (.inr (.inr (.inl q)))))
      simp -implicitDefEqProofs (disch := first | omega | (simp only [h_szP, h_szS]; done) | (simp only [h_szP, h_szS]; omega)) only [go_sem, Nat.reduceBEq, reduceCtorEq, Nat.reduceAdd, Int.reduceEq, Int.reduceLT, Int.reduceLE, Int.reduceMul, Int.reduceAdd, Int.reduceSub, reduceIte, Nat.reduceLeDiff, Nat.reduceLT, Nat.reduceMul, Nat.reduceSub, Int.reduceToNat, s27, Try.underlying31, fo87_0, sh82, Try.underlying34, fo87_1, sh84]
      exact .yes e hsp hp c n rfl _ ⟨R2, rfl, rfl, rfl, F1.trans F2, C.sr⟩ rfl fun y => by unfold memAt; rw [C.es]
end Go.SX.G
