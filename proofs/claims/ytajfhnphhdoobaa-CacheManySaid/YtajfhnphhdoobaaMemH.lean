/- The space: Brk, Put, reach, Out. No condition but on sizes. -/
import Derived.Test.YtajfhnphhdoobaaMemG
set_option linter.unusedVariables false
set_option linter.unusedSimpArgs false
namespace Go.SX.G
open Go Go.SX Go.Proofs
set_option maxRecDepth 100000
set_option maxHeartbeats 2000000
/-- a part of a slice. -/
theorem Vs_sub {α : Type} {enc : α → List Value} {size : Nat} (he : ∀ x, (enc x).length = size) {h : Heap} {b o m cap i k c' : Nat} {xs : List α} (s : Vs h (.slice (some ⟨b, o, none⟩) m cap) enc size xs) (hi : i + k ≤ xs.length) (hc : k ≤ c') :
    Vs h (.slice (some ⟨b, o + i * size, none⟩) k c') enc size ((xs.drop i).take k) := by
  have hl : ((xs.drop i).take k).length = k := by rw [List.length_take, List.length_drop]; omega
  rcases s.2 with ⟨h0, _⟩ | ⟨b', o', cap', c, e, f, hv, hcc, hB, hr, hL⟩
  · cases h0
  · cases hv
    have hm : i * size + k * size ≤ xs.length * size := by rw [← Nat.add_mul]; exact Nat.mul_le_mul_right _ hi
    refine ⟨flat_len he _, .inr ⟨b, o + i * size, c', c, e, f, by rw [hl], by rw [hl]; exact hc, hB, by rw [hl]; omega, ?_⟩⟩
    rw [hl, ← flat_take he, ← flat_drop he, ← hL, List.drop_take, List.take_take, List.drop_drop, Nat.min_eq_left (by omega)]
theorem MR.setfin {h : Heap} {s : Nat} {M : MemD} (n : Nat) (r : MR h s M) (hn : n ≤ 274877906944) :
    MR (h.setIfInBounds s (.cells #[ptr M.l 0, ptr M.p 0, .int .i64 M.most, .int .u64 M.base, .int .u64 n] 78)) s { M with fin := n } ∧ Fx (mfoot s M) (mfoot s { M with fin := n }) h (h.setIfInBounds s (.cells #[ptr M.l 0, ptr M.p 0, .int .i64 M.most, .int .u64 M.base, .int .u64 n] 78)) := by
  have hlt := getElem?_lt r.top
  have hn' : ∀ c, c ≠ s → ∀ o, (h.setIfInBounds s o)[c]? = h[c]? := fun c q o => h_setN _ _ _ _ q
  refine ⟨⟨h_setS _ _ _ hlt, r.lr.mono (hn' _ r.ds.1.symm _) (fun c hc => hn' _ (fun q => r.ds.2.1 (by rw [← q]; exact hc)) _), r.sr.mono fun c f => hn' _ (fun q => r.ds.2.2 (by rw [← q]; exact f)) _, r.wf, r.len, r.ds, r.dl, r.db, ⟨r.num.1, r.num.2.1, hn⟩⟩, by simp, fun b f => .inl f, fun b hb hf => hn' _ (fun q => hf (.inl q)) _⟩
/-- what Brk comes to. -/
inductive Brkd (h h' : Heap) (s : Nat) (x : Value) (M : MemD) (n : Nat) : Prop
  | out (c : n < M.base ∨ 274877906944 < n) (ex : x = .int .u64 M.fin) (k : Keeps h.size h h')
  | full (c : M.base ≤ n ∧ n ≤ 274877906944) (c1 : upN M.fin < upN n) (c2 : freeB M.rs (upN M.fin) (upN n) = false ∨ 256 < (joL (wiL M.rs ⟨upN M.fin, upN n, 3⟩)).length ∨ M.most < pagesL (joL (wiL M.rs ⟨upN M.fin, upN n, 3⟩))) (ex : x = .int .u64 M.fin) (k : Keeps h.size h h')
  | stuck (c : M.base ≤ n ∧ n ≤ 274877906944) (c1 : upN n < upN M.fin) (c2 : 256 < (joL (woL (upN n) (upN M.fin) M.rs)).length) (ex : x = .int .u64 M.fin) (k : Keeps h.size h h')
  | grow (c : M.base ≤ n ∧ n ≤ 274877906944) (c1 : upN M.fin < upN n) (c2 : freeB M.rs (upN M.fin) (upN n) = true) (c3 : (joL (wiL M.rs ⟨upN M.fin, upN n, 3⟩)).length ≤ 256) (c4 : pagesL (joL (wiL M.rs ⟨upN M.fin, upN n, 3⟩)) ≤ M.most) (ex : x = .int .u64 n)
      (M' : MemD) (r : MR h' s M') (rs : M'.rs = joL (wiL M.rs ⟨upN M.fin, upN n, 3⟩)) (byte : ∀ y, memAt M' y = if upN M.fin ≤ y ∧ y < upN n then 0 else memAt M y) (most : M'.most = M.most) (base : M'.base = M.base) (fin : M'.fin = n) (fx : Fx (mfoot s M) (mfoot s M') h h') (sr : Sr M.D M'.D ((upN n - upN M.fin) / 4096) (touched (upN M.fin) (upN n)))
  | cut (c : M.base ≤ n ∧ n ≤ 274877906944) (c1 : upN n < upN M.fin) (c2 : (joL (woL (upN n) (upN M.fin) M.rs)).length ≤ 256) (ex : x = .int .u64 n)
      (M' : MemD) (r : MR h' s M') (rs : M'.rs = joL (woL (upN n) (upN M.fin) M.rs)) (byte : ∀ y, memAt M' y = if upN n ≤ y ∧ y < upN M.fin then 0 else memAt M y) (most : M'.most = M.most) (base : M'.base = M.base) (fin : M'.fin = n) (fx : Fx (mfoot s M) (mfoot s M') h h') (sr : Sr M.D M'.D ((upN M.fin - upN n) / 4096) (touched (upN n) (upN M.fin)))
  | same (c : M.base ≤ n ∧ n ≤ 274877906944) (c1 : upN n = upN M.fin) (ex : x = .int .u64 n) (r : MR h' s { M with fin := n }) (fx : Fx (mfoot s M) (mfoot s { M with fin := n }) h h')
/-- pages of what is mapped in a span. -/
def putT (rs : List Reg) (lo hi m : Nat) : Prop := ∃ y, lo ≤ y ∧ y < hi ∧ y < 274877906944 ∧ (atL rs y).isSome = true ∧ y / 4096 = m
/-- two places of a page are in one region. -/
theorem atL_page {rs : List Reg} (w : wfR rs) {a b : Nat} (h : a / 4096 = b / 4096) : atL rs a = atL rs b := by
  have key : ∀ a b, a / 4096 = b / 4096 → ∀ r, atL rs a = some r → atL rs b = some r := by
    intro a b h r hr
    have hm := atL_mem hr
    have he := w.each r hm.1
    exact atL_uniq w hm.1 (by omega) (by omega)
  cases ha : atL rs a with
  | some r => exact (key a b h r ha).symm
  | none =>
    cases hb : atL rs b with
    | none => rfl
    | some r => rw [key b a h.symm r hb] at ha; cases ha
/-- what Put comes to. -/
structure Putd (h h' : Heap) (s : Nat) (M M' : MemD) (lo hi : Nat) (B : Nat → Nat) : Prop where
  g : Chg h h' s M M' (hi - lo) (putT M.rs lo hi)
  rs : M'.rs = M.rs
  byte : ∀ y, memAt M' y = if lo ≤ y ∧ y < hi ∧ y < 274877906944 ∧ (atL M.rs y).isSome = true then B y else memAt M y
theorem Putd.refl {h h' : Heap} {s : Nat} {M : MemD} (r : MR h s M) (k : Keeps h.size h h') (lo : Nat) (B : Nat → Nat) : Putd h h' s M M lo lo B :=
  ⟨⟨r.ext k, rfl, rfl, rfl, Fx.of k, (Sr.refl M.D).le (by omega) fun m ⟨y, h1, h2, _⟩ => by omega⟩, rfl, fun y => by rw [if_neg (by omega)]⟩
theorem Chg.le {h h' : Heap} {s n k : Nat} {M M' : MemD} {S T : Nat → Prop} (g : Chg h h' s M M' n S) (hn : n ≤ k) (q : ∀ m, T m → S m) : Chg h h' s M M' k T := ⟨g.r, g.most, g.base, g.fin, g.fx, g.sr.le hn q⟩
theorem Chg.trans {h h1 h2 : Heap} {s a b : Nat} {M M1 M2 : MemD} {S T : Nat → Prop} (x : Chg h h1 s M M1 a S) (y : Chg h1 h2 s M1 M2 b T) : Chg h h2 s M M2 (a + b) fun m => S m ∨ T m :=
  ⟨y.r, y.most.trans x.most, y.base.trans x.base, y.fin.trans x.fin, x.fx.trans y.fx, x.sr.trans y.sr⟩
theorem Chg.ext {h h1 h2 : Heap} {s n : Nat} {M M' : MemD} {T : Nat → Prop} (g : Chg h h1 s M M' n T) (k : Keeps h1.size h1 h2) : Chg h h2 s M M' n T :=
  ⟨g.r.ext k, g.most, g.base, g.fin, g.fx.trans (Fx.of k), g.sr⟩
/-- one piece more, of one page. -/
theorem Putd.step {h h1 h2 : Heap} {s : Nat} {M M1 M2 : MemD} {lo mid hi : Nat} {B : Nat → Nat} (a : Putd h h1 s M M1 lo mid B) (hl : lo ≤ mid) (hm : mid ≤ hi) (hp : ∀ y, mid ≤ y → y < hi → y / 4096 = mid / 4096) (hm2 : mid < hi → mid < 274877906944) (w : wfR M.rs)
    (b : ((atL M.rs mid).isSome = true ∧ Chg h1 h2 s M1 M2 (hi - mid) (touched mid hi) ∧ M2.rs = M1.rs ∧ ∀ y, memAt M2 y = if mid ≤ y ∧ y < hi ∧ y < 274877906944 then B y else memAt M1 y) ∨ (atL M.rs mid = none ∧ Keeps h1.size h1 h2 ∧ M2 = M1)) :
    Putd h h2 s M M2 lo hi B := by
  rcases b with ⟨b1, b2, b3, b4⟩ | ⟨b1, b2, rfl⟩
  · refine ⟨(a.g.trans b2).le (by omega) fun m ⟨y, q1, q2, q3, q4, q5⟩ => ?_, b3.trans a.rs, fun y => ?_⟩
    · rcases Nat.lt_or_ge y mid with z | z
      · exact .inl ⟨y, q1, z, q3, q4, q5⟩
      · exact .inr ⟨y, z, q2, q3, q5⟩
    · rw [b4, a.byte]
      by_cases z : mid ≤ y ∧ y < hi ∧ y < 274877906944
      · have e : atL M.rs y = atL M.rs mid := atL_page w (hp y z.1 z.2.1)
        rw [if_pos z, if_pos ⟨by omega, z.2.1, z.2.2, by rw [e]; exact b1⟩]
      · rw [if_neg z]
        by_cases z2 : lo ≤ y ∧ y < mid ∧ y < 274877906944 ∧ (atL M.rs y).isSome = true
        · rw [if_pos z2, if_pos ⟨z2.1, by omega, z2.2.2⟩]
        · rw [if_neg z2, if_neg fun q => z2 ⟨q.1, by omega, q.2.2⟩]
  · have no : ∀ y, mid ≤ y → y < hi → (atL M.rs y).isSome ≠ true := by
      intro y h1 h2 h3
      rw [atL_page w (hp y h1 h2), b1] at h3; cases h3
    refine ⟨(a.g.ext b2).le (by omega) fun m ⟨y, q1, q2, q3, q4, q5⟩ => ?_, a.rs, fun y => ?_⟩
    · rcases Nat.lt_or_ge y mid with z | z
      · exact ⟨y, q1, z, q3, q4, q5⟩
      · exact (no y z q2 q4).elim
    · rw [a.byte]
      by_cases z2 : lo ≤ y ∧ y < mid ∧ y < 274877906944 ∧ (atL M.rs y).isSome = true
      · rw [if_pos z2, if_pos ⟨z2.1, by omega, z2.2.2⟩]
      · rw [if_neg z2, if_neg fun q => ?_]
        rcases Nat.lt_or_ge y mid with z | z
        · exact z2 ⟨q.1, z, q.2.2⟩
        · exact no y z q.2.1 q.2.2.2
theorem Putd.far {h h' : Heap} {s : Nat} {M M' : MemD} {lo mid hi : Nat} {B : Nat → Nat} (a : Putd h h' s M M' lo mid B) (hm : mid ≤ hi) (hf : mid < hi → 274877906944 ≤ mid) : Putd h h' s M M' lo hi B := by
  refine ⟨a.g.le (by omega) fun m ⟨y, q1, q2, q3, q4, q5⟩ => ⟨y, q1, by omega, q3, q4, q5⟩, a.rs, fun y => ?_⟩
  rw [a.byte]
  by_cases z2 : lo ≤ y ∧ y < mid ∧ y < 274877906944 ∧ (atL M.rs y).isSome = true
  · rw [if_pos z2, if_pos ⟨z2.1, by omega, z2.2.2⟩]
  · rw [if_neg z2, if_neg fun q => z2 ⟨q.1, by omega, q.2.2⟩]
theorem mput_c {h : Heap} {s : Nat} {M : MemD} {v : Value} {bs : List Nat} (a : Nat) (r : MR h s M) (ha : a < 18446744073709551616) (hn : bs.length < 9223372036854775808) (hv : Vs h v encB 1 bs) (hd : ∀ b, blk v = some b → ¬ mfoot s M b) (hlt : ∀ x ∈ bs, x < 256) :
    Fn Try.prog 10 [ptr s 0, .int .u64 a, v] h fun x h' => ∃ M', Putd h h' s M M' a (a + bs.length) (fun y => bs.getD (y - a) 0) := by
  refine Fn_c Try.func10 mixed c10 (by kernel_rfl) ?_; rw [r10]
  simp -implicitDefEqProofs (disch := first | omega | (simp only [h_szP, h_szS]; done) | (simp only [h_szP, h_szS]; omega)) only [go_sem, Nat.reduceBEq, reduceCtorEq, Nat.reduceAdd, Int.reduceEq, Int.reduceLT, Int.reduceLE, Int.reduceMul, Int.reduceAdd, Int.reduceSub, reduceIte, Nat.reduceLeDiff, Nat.reduceLT, Nat.reduceMul, Nat.reduceSub, Int.reduceToNat, s10, Try.underlying23, Try.underlying22, sl22, ze5, by5, sz5, Try.underlying3, Try.underlying26, fo78_0, sh73, zc83, sz83, fo78_1, sh75]
  obtain ⟨I, hI⟩ : ∃ I : Nat → Fr → Heap → Prop, I = fun k fr hh => ∃ (c : Nat) (w : Value) (M1 : MemD), c + k = bs.length ∧ (a + c < 18446744073709551616) ∧ Vs hh w encB 1 (bs.drop c) ∧ (∀ b, blk w = some b → b < h.size ∧ ¬ mfoot s M b) ∧ Putd h hh s M M1 a (a + c) (fun y => bs.getD (y - a) 0) ∧
      fr = (((fr0.up 2 w).up 1 (.int .u64 ((a + c : Nat) : Int))).up 0 (ptr s 0)) := ⟨_, rfl⟩
  refine LoopK.use I bs.length (by rw [hI]; exact ⟨0, v, M, by omega, by omega, hv, fun b hb => ⟨hv.blk_lt hb, hd b hb⟩, Putd.refl r Keeps.refl' _ _, rfl⟩) ?_
  intro k fr hh hK
  rw [hI] at hK
  obtain ⟨c, w, M1, hk, hac, hw, hb, P, hf⟩ := hK
  subst hf
  obtain ⟨a0, cap0, e1, hcap⟩ := hw.shape
  have hl : (bs.drop c).length = bs.length - c := List.length_drop
  rw [hl] at e1 hcap
  by_cases hc : c < bs.length ∧ a + c < 274877906944
  · obtain ⟨hc, hat⟩ := hc
    obtain ⟨vb, vo, cap', e2, hcap', hvb⟩ := hw.open (i := 0) (by omega)
    rw [e1, hl] at e2
    simp only [Value.slice.injEq, true_and] at e2
    obtain ⟨e3, e4⟩ := e2
    subst e4
    subst e3
    subst e1
    have hdn : decide ((0 : Int) < ((bs.length - c : Nat) : Int)) = true := decide_eq_true (by omega)
    have hda : decide (((a + c : Nat) : Int) < 274877906944) = true := decide_eq_true (by omega)
    obtain ⟨sz, hsz⟩ : ∃ sz, sz = min (bs.length - c) (4096 - (a + c) % 4096) := ⟨_, rfl⟩
    have hmn : (if (4096 : Int) - ((a + c : Nat) : Int) % 4096 < ((bs.length - c : Nat) : Int) then (4096 : Int) - ((a + c : Nat) : Int) % 4096 else ((bs.length - c : Nat) : Int)) = sz := by rw [hsz]; split <;> omega
    have R1 := P.g.r
    have ht1 := R1.top
    simp -implicitDefEqProofs (disch := first | omega | (simp only [h_szP, h_szS]; done) | (simp only [h_szP, h_szS]; omega)) only [go_sem, Nat.reduceBEq, reduceCtorEq, Nat.reduceAdd, Int.reduceEq, Int.reduceLT, Int.reduceLE, Int.reduceMul, Int.reduceAdd, Int.reduceSub, reduceIte, Nat.reduceLeDiff, Nat.reduceLT, Nat.reduceMul, Nat.reduceSub, Int.reduceToNat, s10, Try.underlying23, Try.underlying22, sl22, ze5, by5, sz5, Try.underlying3, Try.underlying26, fo78_0, sh73, zc83, sz83, fo78_1, sh75, hdn, hda, hmn, ht1]
    have hlen := R1.len
    refine FnK.use (at_c (a + c) R1.lr (by omega)) ?_
    intro x h2 ⟨e1, K1⟩
    rw [e1, P.rs]
    have hdrop : (bs.drop c).drop sz = bs.drop (c + sz) := by rw [List.drop_drop]
    have fin : ∀ (h3 : Heap) (M3 : MemD), Putd h h3 s M M3 a (a + (c + sz)) (fun y => bs.getD (y - a) 0) → ∃ k' : Nat, k' < k ∧ I k' (((fr0.up 2 (.slice (if cap0 = sz then some ⟨vb, vo, none⟩ else some ⟨vb, vo + sz * 1, none⟩) (bs.length - c - sz) (cap0 - sz))).up 1 (.int .u64 (((a + c : Nat) : Int) + sz))).up 0 (ptr s 0)) h3 := by
      intro h3 M3 P3
      have hw3 : Vs h3 (.slice (some ⟨vb, vo, none⟩) (bs.length - c) cap0) encB 1 (bs.drop c) := hw.mono fun b q => by
        have := hb b q
        rw [P3.g.fx.old b this.1 this.2, P.g.fx.old b this.1 this.2]
      have hw4 := Vs_sub encB_len hw3 (i := sz) (k := bs.length - c - sz) (c' := cap0 - sz) (by rw [hl]; omega) (by omega)
      rw [hdrop, List.take_of_length_le (by rw [List.length_drop]; omega)] at hw4
      refine ⟨k - sz, by omega, ?_⟩
      rw [hI]
      refine ⟨c + sz, (.slice (if cap0 = sz then some ⟨vb, vo, none⟩ else some ⟨vb, vo + sz * 1, none⟩) (bs.length - c - sz) (cap0 - sz)), M3, by omega, by omega, ?_, ?_, P3, ?_⟩
      · by_cases q : cap0 = sz
        · rw [if_pos q]
          have e5 : bs.drop (c + sz) = [] := List.drop_eq_nil_of_le (by omega)
          rw [e5] at hw4 ⊢
          rcases hw4.2 with ⟨h0, _⟩ | ⟨b', o', c', cs, e, f, e6, _, hB, hr, _⟩
          · cases h0
          · simp only [Value.slice.injEq, Option.some.injEq, Addr.mk.injEq] at e6
            obtain ⟨⟨e7, _⟩, _⟩ := e6
            subst e7
            refine ⟨rfl, .inr ⟨vb, vo, _, cs, e, f, by rw [show bs.length - c - sz = 0 by omega]; rfl, by simp, hB, by simp; omega, by simp [flat]⟩⟩
        · rw [if_neg q]; exact hw4
      · intro b q
        refine hb b ?_
        by_cases z : cap0 = sz
        · rw [if_pos z] at q; exact q
        · rw [if_neg z] at q; exact q
      · rw [show ((a + (c + sz) : Nat) : Int) = (a + c : Nat) + (sz : Int) by omega]
    cases hat2 : atL M.rs (a + c) with
    | none =>
      simp only [atV]
      simp -implicitDefEqProofs (disch := first | omega | (simp only [h_szP, h_szS]; done) | (simp only [h_szP, h_szS]; omega)) only [go_sem, Nat.reduceBEq, reduceCtorEq, Nat.reduceAdd, Int.reduceEq, Int.reduceLT, Int.reduceLE, Int.reduceMul, Int.reduceAdd, Int.reduceSub, reduceIte, Nat.reduceLeDiff, Nat.reduceLT, Nat.reduceMul, Nat.reduceSub, Int.reduceToNat, s10, Try.underlying23, Try.underlying22, sl22, ze5, by5, sz5, Try.underlying3, Try.underlying26, fo78_0, sh73, zc83, sz83, fo78_1, sh75]
      have P3 := P.step (h2 := h2.push (.cells #[.int .u64 0, .int .u64 0, .int .i64 0] 83)) (M2 := M1) (hi := a + (c + sz)) (by omega) (by omega) (fun y h1 h2 => by omega) (fun _ => hat) r.wf (.inr ⟨hat2, K1.push' (Nat.le_refl _), rfl⟩)
      exact fin _ _ P3
    | some q =>
      simp only [atV]
      have ht2 := (R1.ext K1).top
      have hs2 := getElem?_lt ht2
      simp -implicitDefEqProofs (disch := first | omega | (simp only [h_szP, h_szS]; done) | (simp only [h_szP, h_szS]; omega)) only [go_sem, Nat.reduceBEq, reduceCtorEq, Nat.reduceAdd, Int.reduceEq, Int.reduceLT, Int.reduceLE, Int.reduceMul, Int.reduceAdd, Int.reduceSub, reduceIte, Nat.reduceLeDiff, Nat.reduceLT, Nat.reduceMul, Nat.reduceSub, Int.reduceToNat, s10, Try.underlying23, Try.underlying22, sl22, ze5, by5, sz5, Try.underlying3, Try.underlying26, fo78_0, sh73, zc83, sz83, fo78_1, sh75, ht2]
      have K2 : Keeps hh.size hh (h2.push (.cells #[.int .u64 q.s, .int .u64 q.e, .int .i64 q.p] 83)) := K1.push' (Nat.le_refl _)
      have R2 := R1.ext K2
      have hwc : Vs (h2.push (.cells #[.int .u64 q.s, .int .u64 q.e, .int .i64 q.p] 83)) (.slice (some ⟨vb, vo, none⟩) sz cap0) encB 1 ((bs.drop c).take sz) := by
        have := Vs_sub encB_len (hw.ext K2) (i := 0) (k := sz) (c' := cap0) (by rw [hl]; omega) (by omega)
        simpa using this
      have hckl : ((bs.drop c).take sz).length = sz := by rw [List.length_take, List.length_drop]; omega
      have hfoot : ∀ b, mfoot s M1 b → mfoot s M b ∨ h.size ≤ b := P.g.fx.ft
      refine FnK.use (write_c (a + c) R2.sr (by omega) (by rw [hckl]; omega) hwc (fun b hq hf => ?_) fun x hx => hlt x (List.mem_of_mem_drop (List.mem_of_mem_take hx))) ?_
      · have := hb b hq
        rcases hfoot b (.inr (.inr (.inr hf))) with z | z
        · exact this.2 z
        · omega
      · intro x h3 ⟨D', W⟩
        rw [hckl] at W
        simp -implicitDefEqProofs (disch := first | omega | (simp only [h_szP, h_szS]; done) | (simp only [h_szP, h_szS]; omega)) only [go_sem, Nat.reduceBEq, reduceCtorEq, Nat.reduceAdd, Int.reduceEq, Int.reduceLT, Int.reduceLE, Int.reduceMul, Int.reduceAdd, Int.reduceSub, reduceIte, Nat.reduceLeDiff, Nat.reduceLT, Nat.reduceMul, Nat.reduceSub, Int.reduceToNat, s10, Try.underlying23, Try.underlying22, sl22, ze5, by5, sz5, Try.underlying3, Try.underlying26, fo78_0, sh73, zc83, sz83, fo78_1, sh75]
        have G := (Wr.chg R2 W).widen K2
        have P3 := P.step (h2 := h3) (M2 := { M1 with D := D' }) (hi := a + (c + sz)) (by omega) (by omega) (fun y h1 h2 => by omega) (fun _ => hat) r.wf (.inl ⟨by rw [hat2]; rfl, ⟨G.r, G.most, G.base, G.fin, G.fx, G.sr.le (by omega) (fun m t => by rw [show a + c + sz = a + (c + sz) by omega]; exact t)⟩, rfl, fun y => ?_⟩)
        · exact fin _ _ P3
        · show byteAt D'.es y = _
          rw [W.byte]
          by_cases z : a + c ≤ y ∧ y < a + (c + sz) ∧ y < 274877906944
          · rw [if_pos z, if_pos ⟨z.1, by omega, z.2.2⟩]
            simp only [List.getD_eq_getElem?_getD, List.getElem?_take, List.getElem?_drop]
            rw [if_pos (by omega), show c + (y - (a + c)) = y - a by omega]
          · rw [if_neg z, if_neg fun q => z ⟨q.1, by omega, q.2.2⟩]; rfl
  · have P3 := P.far (hi := a + bs.length) (by omega) (by omega)
    by_cases q : c < bs.length
    · have hdn : decide ((0 : Int) < ((bs.length - c : Nat) : Int)) = true := decide_eq_true (by omega)
      have hda : decide (((a + c : Nat) : Int) < 274877906944) = false := decide_eq_false (by omega)
      subst e1
      simp -implicitDefEqProofs (disch := first | omega | (simp only [h_szP, h_szS]; done) | (simp only [h_szP, h_szS]; omega)) only [go_sem, Nat.reduceBEq, reduceCtorEq, Nat.reduceAdd, Int.reduceEq, Int.reduceLT, Int.reduceLE, Int.reduceMul, Int.reduceAdd, Int.reduceSub, reduceIte, Nat.reduceLeDiff, Nat.reduceLT, Nat.reduceMul, Nat.reduceSub, Int.reduceToNat, s10, Try.underlying23, Try.underlying22, sl22, ze5, by5, sz5, Try.underlying3, Try.underlying26, fo78_0, sh73, zc83, sz83, fo78_1, sh75, hdn, hda]
      exact ⟨M1, P3⟩
    · have hdn : decide ((0 : Int) < ((bs.length - c : Nat) : Int)) = false := decide_eq_false (by omega)
      subst e1
      simp -implicitDefEqProofs (disch := first | omega | (simp only [h_szP, h_szS]; done) | (simp only [h_szP, h_szS]; omega)) only [go_sem, Nat.reduceBEq, reduceCtorEq, Nat.reduceAdd, Int.reduceEq, Int.reduceLT, Int.reduceLE, Int.reduceMul, Int.reduceAdd, Int.reduceSub, reduceIte, Nat.reduceLeDiff, Nat.reduceLT, Nat.reduceMul, Nat.reduceSub, Int.reduceToNat, s10, Try.underlying23, Try.underlying22, sl22, ze5, by5, sz5, Try.underlying3, Try.underlying26, fo78_0, sh73, zc83, sz83, fo78_1, sh75, hdn]
      exact ⟨M1, P3⟩
/-- what is asked of a span: INVAL, nothing, FAULT, or all may be used so. -/
inductive Reachd (x : Value) (M : MemD) (a : Nat) (n : Int) (p : Nat) : Prop
  | inval (c : n < 0 ∨ 4194304 < n) (ex : x = .int .i64 22)
  | empty (c : n = 0) (ex : x = .int .i64 0)
  | far (c : 0 < n ∧ n ≤ 4194304) (c2 : 274877906944 < a + n.toNat) (ex : x = .int .i64 14)
  | no (c : 0 < n ∧ n ≤ 4194304) (c2 : a + n.toNat ≤ 274877906944) (y : Nat) (f : FirstS M.rs a (a + n.toNat) p (some y)) (ex : x = .int .i64 14)
  | ok (c : 0 < n ∧ n ≤ 4194304) (c2 : a + n.toNat ≤ 274877906944) (f : ∀ y, a ≤ y → y < a + n.toNat → okAt M.rs p y) (ex : x = .int .i64 0)
theorem reach_c {h : Heap} {s : Nat} {M : MemD} (a : Nat) (n : Int) (p : Nat) (r : MR h s M) (ha : a < 18446744073709551616) (hn1 : -9223372036854775808 ≤ n) (hn2 : n < 9223372036854775808) (hp : p ≤ 7) :
    Fn Try.prog 63 [ptr s 0, .int .u64 a, .int .i64 n, .int .i64 p] h fun x h' => Reachd x M a n p ∧ Keeps h.size h h' := by
  have ht := r.top
  have hlen := r.len
  by_cases c1 : n < 0
  · have hd : decide (n < 0) = true := decide_eq_true c1
    refine Fn_c Try.func63 mixed c63 (by kernel_rfl) ?_; rw [r63]
    simp -implicitDefEqProofs (disch := first | omega | (simp only [h_szP, h_szS]; done) | (simp only [h_szP, h_szS]; omega)) only [go_sem, Nat.reduceBEq, reduceCtorEq, Nat.reduceAdd, Int.reduceEq, Int.reduceLT, Int.reduceLE, Int.reduceMul, Int.reduceAdd, Int.reduceSub, reduceIte, Nat.reduceLeDiff, Nat.reduceLT, Nat.reduceMul, Nat.reduceSub, Int.reduceToNat, s63, Try.underlying3, Try.underlying26, fo78_0, sh73, hd]
    exact ⟨.inval (.inl c1) rfl, Keeps.refl'⟩
  have hd1 : decide (n < 0) = false := decide_eq_false c1
  by_cases c2 : 4194304 < n
  · have hd : decide ((4194304 : Int) < n) = true := decide_eq_true c2
    refine Fn_c Try.func63 mixed c63 (by kernel_rfl) ?_; rw [r63]
    simp -implicitDefEqProofs (disch := first | omega | (simp only [h_szP, h_szS]; done) | (simp only [h_szP, h_szS]; omega)) only [go_sem, Nat.reduceBEq, reduceCtorEq, Nat.reduceAdd, Int.reduceEq, Int.reduceLT, Int.reduceLE, Int.reduceMul, Int.reduceAdd, Int.reduceSub, reduceIte, Nat.reduceLeDiff, Nat.reduceLT, Nat.reduceMul, Nat.reduceSub, Int.reduceToNat, s63, Try.underlying3, Try.underlying26, fo78_0, sh73, hd, hd1]
    exact ⟨.inval (.inr c2) rfl, Keeps.refl'⟩
  have hd2 : decide ((4194304 : Int) < n) = false := decide_eq_false c2
  by_cases c3 : n = 0
  · have hd : (n = 0) = True := eq_true c3
    refine Fn_c Try.func63 mixed c63 (by kernel_rfl) ?_; rw [r63]
    simp -implicitDefEqProofs (disch := first | omega | (simp only [h_szP, h_szS]; done) | (simp only [h_szP, h_szS]; omega)) only [go_sem, Nat.reduceBEq, reduceCtorEq, Nat.reduceAdd, Int.reduceEq, Int.reduceLT, Int.reduceLE, Int.reduceMul, Int.reduceAdd, Int.reduceSub, reduceIte, Nat.reduceLeDiff, Nat.reduceLT, Nat.reduceMul, Nat.reduceSub, Int.reduceToNat, s63, Try.underlying3, Try.underlying26, fo78_0, sh73, hd, hd1, hd2]
    exact ⟨.empty c3 rfl, Keeps.refl'⟩
  have hd3 : (n = 0) = False := eq_false c3
  have hw : IntKind.u64.wrap n = n := by rw [wrap_u64]; omega
  obtain ⟨k, rfl⟩ := Int.eq_ofNat_of_zero_le (show 0 ≤ n by omega)
  have hk : ((k : Int)).toNat = k := rfl
  by_cases c4 : 274877906944 ≤ a
  · have hd4 : decide ((274877906944 : Int) ≤ a) = true := decide_eq_true (by omega)
    refine Fn_c Try.func63 mixed c63 (by kernel_rfl) ?_; rw [r63]
    simp -implicitDefEqProofs (disch := first | omega | (simp only [h_szP, h_szS]; done) | (simp only [h_szP, h_szS]; omega)) only [go_sem, Nat.reduceBEq, reduceCtorEq, Nat.reduceAdd, Int.reduceEq, Int.reduceLT, Int.reduceLE, Int.reduceMul, Int.reduceAdd, Int.reduceSub, reduceIte, Nat.reduceLeDiff, Nat.reduceLT, Nat.reduceMul, Nat.reduceSub, Int.reduceToNat, s63, Try.underlying3, Try.underlying26, fo78_0, sh73, hd1, hd2, hd3, hd4]
    exact ⟨.far (by omega) (by omega) rfl, Keeps.refl'⟩
  have hd4 : decide ((274877906944 : Int) ≤ a) = false := decide_eq_false (by omega)
  by_cases c5 : 274877906944 < a + k
  · have hd5 : decide ((274877906944 : Int) - a < k) = true := decide_eq_true (by omega)
    refine Fn_c Try.func63 mixed c63 (by kernel_rfl) ?_; rw [r63]
    simp -implicitDefEqProofs (disch := first | omega | (simp only [h_szP, h_szS]; done) | (simp only [h_szP, h_szS]; omega)) only [go_sem, Nat.reduceBEq, reduceCtorEq, Nat.reduceAdd, Int.reduceEq, Int.reduceLT, Int.reduceLE, Int.reduceMul, Int.reduceAdd, Int.reduceSub, reduceIte, Nat.reduceLeDiff, Nat.reduceLT, Nat.reduceMul, Nat.reduceSub, Int.reduceToNat, s63, Try.underlying3, Try.underlying26, fo78_0, sh73, hd1, hd2, hd3, hd4, hd5]
    exact ⟨.far (by omega) (by omega) rfl, Keeps.refl'⟩
  have hd5 : decide ((274877906944 : Int) - a < k) = false := decide_eq_false (by omega)
  have hc : (0 : Int) < k ∧ (k : Int) ≤ 4194304 := by omega
  have hs : (a : Int) + k = ((a + k : Nat) : Int) := by omega
  refine Fn_c Try.func63 mixed c63 (by kernel_rfl) ?_; rw [r63]
  simp -implicitDefEqProofs (disch := first | omega | (simp only [h_szP, h_szS]; done) | (simp only [h_szP, h_szS]; omega)) only [go_sem, Nat.reduceBEq, reduceCtorEq, Nat.reduceAdd, Int.reduceEq, Int.reduceLT, Int.reduceLE, Int.reduceMul, Int.reduceAdd, Int.reduceSub, reduceIte, Nat.reduceLeDiff, Nat.reduceLT, Nat.reduceMul, Nat.reduceSub, Int.reduceToNat, s63, Try.underlying3, Try.underlying26, fo78_0, sh73, hd1, hd2, hd3, hd4, hd5, ht, hs]
  refine FnK.use (first_c a (a + k) p r.lr (by omega) r.wf hp) ?_
  intro x h1 ⟨o, e1, F, K1⟩
  rw [e1]
  cases o with
  | none =>
    rw [placeV_none]
    simp -implicitDefEqProofs (disch := first | omega | (simp only [h_szP, h_szS]; done) | (simp only [h_szP, h_szS]; omega)) only [go_sem, Nat.reduceBEq, reduceCtorEq, Nat.reduceAdd, Int.reduceEq, Int.reduceLT, Int.reduceLE, Int.reduceMul, Int.reduceAdd, Int.reduceSub, reduceIte, Nat.reduceLeDiff, Nat.reduceLT, Nat.reduceMul, Nat.reduceSub, Int.reduceToNat, s63, Try.underlying3, Try.underlying26, fo78_0, sh73]
    exact ⟨.ok hc (by omega) (by cases F with | none h => exact h) rfl, K1⟩
  | some y =>
    rw [placeV_some]
    simp -implicitDefEqProofs (disch := first | omega | (simp only [h_szP, h_szS]; done) | (simp only [h_szP, h_szS]; omega)) only [go_sem, Nat.reduceBEq, reduceCtorEq, Nat.reduceAdd, Int.reduceEq, Int.reduceLT, Int.reduceLE, Int.reduceMul, Int.reduceAdd, Int.reduceSub, reduceIte, Nat.reduceLeDiff, Nat.reduceLT, Nat.reduceMul, Nat.reduceSub, Int.reduceToNat, s63, Try.underlying3, Try.underlying26, fo78_0, sh73]
    exact ⟨.no hc (by omega) y F rfl, K1⟩
theorem spanLe {n a k : Nat} (h : a + k ≤ n) : k ≤ n - a := by omega
/-- what Out comes to: all of it, or nothing. -/
inductive Outd (h h' : Heap) (s : Nat) (x : Value) (M : MemD) (a : Nat) (bs : List Nat) : Prop
  | no (p : Reachd x M a bs.length 2) (k : Keeps h.size h h') (ne : x ≠ .int .i64 0)
  | ok (p : Reachd x M a bs.length 2) (ex : x = .int .i64 0) (M' : MemD) (g : Chg h h' s M M' bs.length (touched a (a + bs.length))) (rs : M'.rs = M.rs) (byte : ∀ y, memAt M' y = if a ≤ y ∧ y < a + bs.length ∧ y < 274877906944 then bs.getD (y - a) 0 else memAt M y)
theorem mout_c {h : Heap} {s : Nat} {M : MemD} {v : Value} {bs : List Nat} (a : Nat) (r : MR h s M) (ha : a < 18446744073709551616) (hn : bs.length < 9223372036854775808) (hv : Vs h v encB 1 bs) (hd : ∀ b, blk v = some b → ¬ mfoot s M b) (hlt : ∀ x ∈ bs, x < 256) :
    Fn Try.prog 40 [ptr s 0, .int .u64 a, v] h fun x h' => Outd h h' s x M a bs := by
  obtain ⟨a0, cap0, e1, hcap⟩ := hv.shape
  refine Fn_c Try.func40 mixed c40 (by kernel_rfl) ?_; rw [r40]
  subst e1
  simp -implicitDefEqProofs (disch := first | omega | (simp only [h_szP, h_szS]; done) | (simp only [h_szP, h_szS]; omega)) only [go_sem, Nat.reduceBEq, reduceCtorEq, Nat.reduceAdd, Int.reduceEq, Int.reduceLT, Int.reduceLE, Int.reduceMul, Int.reduceAdd, Int.reduceSub, reduceIte, Nat.reduceLeDiff, Nat.reduceLT, Nat.reduceMul, Nat.reduceSub, Int.reduceToNat, s40, Try.underlying23, Try.underlying22, sl22, ze5, by5, sz5, Try.underlying27, fo78_1, sh75]
  refine FnK.use (reach_c a bs.length 2 r ha (by omega) (by omega) (by omega)) ?_
  intro x h1 ⟨P, K1⟩
  have R1 := r.ext K1
  have ht1 := R1.top
  have hs1 := getElem?_lt ht1
  have good : x = .int .i64 0 → bs.length ≤ 4194304 := by
    intro hx
    cases P with
    | inval c ex => rw [ex] at hx; cases hx
    | empty c ex => omega
    | far c c2 ex => rw [ex] at hx; cases hx
    | no c c2 y f ex => rw [ex] at hx; cases hx
    | ok c c2 f ex => omega
  have write : ∀ (hx : x = .int .i64 0), Fn Try.prog 29 [ptr M.p 0, .int .u64 a, .slice a0 bs.length cap0] h1 fun _ h' => Outd h h' s x M a bs := by
    intro hx
    refine (write_c a R1.sr ha (good hx) (hv.ext K1) (fun b q f => hd b q (.inr (.inr (.inr f)))) hlt).mono ?_
    intro y h2 ⟨D', W⟩
    have G := (Wr.chg R1 W).widen K1
    rw [Nat.add_sub_cancel_left] at G
    exact .ok P hx _ G rfl W.byte
  have wrong : ∀ z : Int, x = .int .i64 z → z ≠ 0 → Outd h h1 s x M a bs := fun z e ne => .no P K1 (fun e2 => by rw [e] at e2; cases e2; exact ne rfl)
  have key : (∃ z : Int, x = .int .i64 z ∧ z ≠ 0 ∧ (z = 22 ∨ z = 14)) ∨ x = .int .i64 0 := by
    cases P with
    | inval c ex => exact .inl ⟨22, ex, by decide, .inl rfl⟩
    | empty c ex => exact .inr ex
    | far c c2 ex => exact .inl ⟨14, ex, by decide, .inr rfl⟩
    | no c c2 y f ex => exact .inl ⟨14, ex, by decide, .inr rfl⟩
    | ok c c2 f ex => exact .inr ex
  rcases key with ⟨z, ex, nz, z2⟩ | ex
  · have w := wrong z ex nz
    have hz : (z = 0) = False := eq_false nz
    subst ex
    simp -implicitDefEqProofs (disch := first | omega | (simp only [h_szP, h_szS]; done) | (simp only [h_szP, h_szS]; omega)) only [go_sem, Nat.reduceBEq, reduceCtorEq, Nat.reduceAdd, Int.reduceEq, Int.reduceLT, Int.reduceLE, Int.reduceMul, Int.reduceAdd, Int.reduceSub, reduceIte, Nat.reduceLeDiff, Nat.reduceLT, Nat.reduceMul, Nat.reduceSub, Int.reduceToNat, s40, Try.underlying23, Try.underlying22, sl22, ze5, by5, sz5, Try.underlying27, fo78_1, sh75, hz]
    exact w
  · have w := write ex
    subst ex
    simp -implicitDefEqProofs (disch := first | omega | (simp only [h_szP, h_szS]; done) | (simp only [h_szP, h_szS]; omega)) only [go_sem, Nat.reduceBEq, reduceCtorEq, Nat.reduceAdd, Int.reduceEq, Int.reduceLT, Int.reduceLE, Int.reduceMul, Int.reduceAdd, Int.reduceSub, reduceIte, Nat.reduceLeDiff, Nat.reduceLT, Nat.reduceMul, Nat.reduceSub, Int.reduceToNat, s40, Try.underlying23, Try.underlying22, sl22, ze5, by5, sz5, Try.underlying27, fo78_1, sh75, ht1]
    refine FnK.use w ?_
    intro y h2 o
    simp -implicitDefEqProofs (disch := first | omega | (simp only [h_szP, h_szS]; done) | (simp only [h_szP, h_szS]; omega)) only [go_sem, Nat.reduceBEq, reduceCtorEq, Nat.reduceAdd, Int.reduceEq, Int.reduceLT, Int.reduceLE, Int.reduceMul, Int.reduceAdd, Int.reduceSub, reduceIte, Nat.reduceLeDiff, Nat.reduceLT, Nat.reduceMul, Nat.reduceSub, Int.reduceToNat, s40, Try.underlying23, Try.underlying22, sl22, ze5, by5, sz5, Try.underlying27, fo78_1, sh75]
    exact o
end Go.SX.G
