/- Pages of bytes: reading. No condition but on sizes. Pages of bytes: writing. No condition but on sizes. Pages of bytes: Write. No condition but on sizes. Pages of bytes: Write, the walk. No condition but on sizes. Pages of bytes: Touch, Clear of whole pages. No condition but on sizes. Pages of bytes: Clear of whole pages, Stamp. No condition but on sizes. -/
import Derived.Test.YtajfhnphhdoobaaGreatReg
import Derived.Test.YtajfhnphhdoobaaGreatSxP
import Derived.Test.YtajfhnphhdoobaaGreatPlainA
set_option linter.unusedVariables false
set_option linter.unusedSimpArgs false
namespace Go.SX.G
open Go Go.SX Go.Proofs
set_option maxRecDepth 100000
set_option maxHeartbeats 1000000
theorem elB : ElT Tryz.prog 22 5 1 1 (.int .u8 0) := ⟨sl22, by5, by decide, ze5, rfl, by rw [Tryz.underlying22]; rfl⟩
/-- a store of pages at a block. -/
structure SR (h : Heap) (p : Nat) (D : StoreD) : Prop where
  top : h[p]? = some (.cells #[.map (some D.lm), .map (some D.sm), .int .u64 D.clock, .int .u64 D.all] 139 (0, 0))
  lmap : h[D.lm]? = some (.map (leafE D.es) D.c1)
  smap : h[D.sm]? = some (.map (stpE D.ss) D.c2)
  leaf : ∀ l ∈ D.es, h[l.blk]? = some (.cells (flat encB l.dat).toArray 148 (0, 0)) ∧ l.dat.length = 4096 ∧ l.no < 67108864 ∧ l.born < D.c1 ∧ ∀ x ∈ l.dat, x < 256
  nos : D.es.Pairwise fun a b => a.no ≠ b.no
  blks : D.es.Pairwise fun a b => a.blk ≠ b.blk
  borns : D.es.Pairwise fun a b => a.born ≠ b.born
  snos : D.ss.Pairwise fun a b => a.no ≠ b.no
  lmsm : D.lm ≠ D.sm
  sborn : ∀ s ∈ D.ss, s.born < D.c2
  sborns : D.ss.Pairwise fun a b => a.born ≠ b.born
  clk : D.clock < 18446744073709551616 ∧ D.all < 18446744073709551616
/-- its blocks. -/
def foot (p : Nat) (D : StoreD) (b : Nat) : Prop := b = p ∨ b = D.lm ∨ b = D.sm ∨ ∃ l ∈ D.es, b = l.blk
theorem SR.mono {h h' : Heap} {p : Nat} {D : StoreD} (r : SR h p D) (k : ∀ b, foot p D b → h'[b]? = h[b]?) : SR h' p D :=
  ⟨by rw [k p (.inl rfl)]; exact r.top, by rw [k _ (.inr (.inl rfl))]; exact r.lmap, by rw [k _ (.inr (.inr (.inl rfl)))]; exact r.smap,
    fun l hl => ⟨by rw [k _ (.inr (.inr (.inr ⟨l, hl, rfl⟩)))]; exact (r.leaf l hl).1, (r.leaf l hl).2⟩, r.nos, r.blks, r.borns, r.snos, r.lmsm, r.sborn, r.sborns, r.clk⟩
theorem SR.lt {h : Heap} {p : Nat} {D : StoreD} (r : SR h p D) {b : Nat} (f : foot p D b) : b < h.size := by
  rcases f with rfl | rfl | rfl | ⟨l, hl, rfl⟩
  · exact getElem?_lt r.top
  · exact getElem?_lt r.lmap
  · exact getElem?_lt r.smap
  · exact getElem?_lt (r.leaf l hl).1
theorem SR.ext {h h' : Heap} {p : Nat} {D : StoreD} (r : SR h p D) (k : Keeps h.size h h') : SR h' p D := r.mono fun b f => k.old b (r.lt f)
theorem part_c (h : Heap) (a n : Nat) (ha : a < 18446744073709551616) (hn : n < 9223372036854775808) : Fn Tryz.prog 83 [.int .u64 a, .int .i64 n] h fun x h' => x = .tuple #[.int .i64 (a % 4096 : Nat), .int .i64 (min n (4096 - a % 4096) : Nat)] ∧ h' = h := by
  have e1 : (if (4096 : Int) - (a : Int) % 4096 < n then (4096 : Int) - (a : Int) % 4096 else n) = ((min n (4096 - a % 4096) : Nat) : Int) := by split <;> omega
  refine Fn_c Tryz.func83 mixed c83 (by kernel_rfl) ?_; rw [r83]
  refine gs1 @e1 ?_; (try with_reducible exact trivial)
  rfl
theorem pnew_c (h : Heap) : Fn Tryz.prog 40 [] h fun x h' => x = ptr (h.size + 2) 0 ∧ h' = ((h.push (.map #[] 0)).push (.map #[] 0)).push (.cells #[.map (some h.size), .map (some (h.size + 1)), .int .u64 0, .int .u64 0] 139 (0, 0)) := by
  refine Fn_c Tryz.func40 mixed c40 (by kernel_rfl) ?_; rw [r40]
  refine gs0 ?_; (try with_reducible exact trivial)
theorem read_c {h : Heap} {p : Nat} {D : StoreD} (addr n : Nat) (r : SR h p D) (ha : addr < 18446744073709551616) (h1 : 1 ≤ n) (h2 : n ≤ 4194304) :
    Fn Tryz.prog 117 [ptr p 0, .int .u64 addr, .int .i64 n] h fun x h' => Ss h' h.size x 5 encB 1 (getL D.es addr n n) ∧ Keeps h.size h h' := by
  have hp := r.lt (.inl rfl)
  have hlm := r.lt (.inr (.inl rfl))
  have hd1 : decide ((n : Int) < 1) = false := decide_eq_false (by omega)
  have hd2 : decide ((4194304 : Int) < n) = false := decide_eq_false (by omega)
  refine Fn_c Tryz.func117 mixed c117 (by kernel_rfl) ?_; rw [r117]
  refine gs2 @hd1 @hd2 ?_; (try with_reducible exact trivial)
  refine mks_one (by_ := 1) (n := n) sl22 by5 ze5 rfl (by omega) (by omega) ?_
  refine gs0 ?_; (try with_reducible exact trivial)
  refine LoopK.use (fun k fr hh => ∃ (c : Nat) (base : Addr), c + k = n ∧ (c < n → base = ⟨h.size, c, none⟩) ∧ (c = 0 ∨ addr + c < 18446744073709551616) ∧
      hh[h.size]? = some (.cells (flat encB (getL D.es addr n c)).toArray 5 (0, 0)) ∧ Keeps h.size h hh ∧
      fr = ((((fr0.up 8 (.slice (some base) (n - c) (n - c))).up 7 (.slice (some ⟨h.size, 0, none⟩) n n)).up 1 (.int .u64 ((addr + c : Nat) : Int))).up 0 (ptr p 0))) n ?_ ?_
  · refine ⟨0, ⟨h.size, 0, none⟩, by omega, fun _ => rfl, .inl rfl, ?_, Keeps.push _ _ (Nat.le_refl _), ?_⟩
    · rw [getL_zero, encB_rep]; simp
    · simp
  · intro k fr hh hI
    obtain ⟨c, base, hk, hbase, hcl, hB, K1, hf⟩ := hI
    subst hf
    by_cases hc : c < n ∧ addr + c < 274877906944
    · obtain ⟨hc, hat⟩ := hc
      have hb := hbase hc
      subst hb
      have ht1 := K1.at r.top hp
      have ht2 := K1.at r.lmap hlm
      have hdn : decide ((0 : Int) < ((n - c : Nat) : Int)) = true := decide_eq_true (by omega)
      have hda : decide (((addr + c : Nat) : Int) < 274877906944) = true := decide_eq_true (by omega)
      refine gs2 @hdn @hda ?_; (try with_reducible exact trivial)
      refine FnK.val (part_c hh (addr + c) (n - c) (by omega) (by omega)) ?_
      obtain ⟨sz, hsz⟩ : ∃ sz, sz = min (n - c) (4096 - (addr + c) % 4096) := ⟨_, rfl⟩
      rw [← hsz]
      refine gs1 @ht1 ?_; (try with_reducible exact trivial)
      have hfin : ∀ hh' : Heap, hh'[h.size]? = some (.cells (flat encB (getL D.es addr n (c + sz))).toArray 5 (0, 0)) → Keeps h.size h hh' → ∃ k' : Nat, k' < k ∧ ∃ (c' : Nat) (base : Addr), c' + k' = n ∧ (c' < n → base = ⟨h.size, c', none⟩) ∧ (c' = 0 ∨ addr + c' < 18446744073709551616) ∧
          hh'[h.size]? = some (.cells (flat encB (getL D.es addr n c')).toArray 5 (0, 0)) ∧ Keeps h.size h hh' ∧
          ((((fr0.up 8 (.slice (if n - c = sz then some ⟨h.size, c, none⟩ else some ⟨h.size, c + sz * 1, none⟩) (n - c - sz) (n - c - sz))).up 7 (.slice (some ⟨h.size, 0, none⟩) n n)).up 1 (.int .u64 ((addr + c : Nat) + (sz : Int)))).up 0 (ptr p 0)) =
          ((((fr0.up 8 (.slice (some base) (n - c') (n - c'))).up 7 (.slice (some ⟨h.size, 0, none⟩) n n)).up 1 (.int .u64 ((addr + c' : Nat) : Int))).up 0 (ptr p 0)) := by
        intro hh' hB' K'
        refine ⟨k - sz, by omega, c + sz, ⟨h.size, if n - c = sz then c else c + sz, none⟩, by omega, fun q => by rw [if_neg (by omega)], .inr (by omega), hB', K', ?_⟩
        rw [show n - (c + sz) = n - c - sz by omega, show ((addr + (c + sz) : Nat) : Int) = (addr + c : Nat) + (sz : Int) by omega, Nat.mul_one]
        split <;> rfl
      rcases fnd_cases (kf := fun l : Leaf => (l.no : Int)) (((addr + c : Nat) : Int) / 4096) D.es with hn | ⟨j, hj, e1, e2⟩
      · refine obK.use _ (look_none Tryz.underlying136 Tryz.underlying29 ze145 ht2 hn true) ?_
        refine gs0 ?_; (try with_reducible exact trivial)
        exact hfin hh (by rw [← getL_skip (by omega) (by simpa using hn)]; exact hB) K1
      · refine obK.use _ (look_some Tryz.underlying136 Tryz.underlying29 ht2 hj e1 e2 true) ?_
        refine gs0 ?_; (try with_reducible exact trivial)
        have hlf := r.leaf D.es[j] (List.getElem_mem hj)
        have hlb := K1.at hlf.1 (getElem?_lt hlf.1)
        have hz := getL_more (es := D.es) (addr := addr) (n := n) (c := c) (k := sz) (by omega) hj (by omega) (by omega) (fun i hi => by have := e2 i hi; omega) hlf.2.1
        have hcl : (flat encB ((D.es[j].dat.drop ((addr + c) % 4096)).take sz)).length = sz := by
          rw [flat_len encB_len, List.length_take, List.length_drop, hlf.2.1]; omega
        refine copy_into (cs := flat encB ((D.es[j].dat.drop ((addr + c) % 4096)).take sz)) sl22 rfl rfl ?_ hB (flat_all encB_one _) ?_ ?_
        · have e3 : min (4096 - (addr + c) % 4096) sz * 1 = sz := by omega
          rw [e3]
          simp only [srcCells, cells?, hlb]
          rw [if_pos (by simp [flat_len encB_len, hlf.2.1]; omega), encB_flat, encB_flat, List.map_take, List.map_drop, Nat.mul_one]
        · rw [hcl]; simp [encB_flat, getL_len]; omega
        · refine gs0 ?_; (try with_reducible exact trivial)
          rw [hz]
          exact hfin _ (h_setS _ _ _ (getElem?_lt hB)) (K1.set' (Nat.le_refl _))
    · have hd : decide ((0 : Int) < ((n - c : Nat) : Int)) = decide (c < n) := by congr 1; apply propext; omega
      have hdone : getL D.es addr n c = getL D.es addr n n := by
        rcases Nat.lt_or_ge c n with q | q
        · exact getL_far (fun l hl => (r.leaf l hl).2.2.1) (by omega)
        · have : c = n := by omega
          rw [this]
      rw [hdone] at hB
      have hfin : Ss hh h.size (.slice (some ⟨h.size, 0, none⟩) n n) 5 encB 1 (getL D.es addr n n) := by
        refine Ss.mk encB_len [] hB (by simp) (getL_len _ _ _ _).symm (Nat.le_refl _) ?_ (Nat.le_refl _)
        simp [encB_flat, getL_len]
      rcases Nat.lt_or_ge c n with q | q
      · have hb := hbase q
        subst hb
        have hdn : decide ((0 : Int) < ((n - c : Nat) : Int)) = true := decide_eq_true (by omega)
        have hda : decide (((addr + c : Nat) : Int) < 274877906944) = false := decide_eq_false (by omega)
        refine gs2 @hdn @hda ?_; (try with_reducible exact trivial)
        exact ⟨hfin, K1⟩
      · have hdn : decide ((0 : Int) < ((n - c : Nat) : Int)) = false := decide_eq_false (by omega)
        refine gs1 @hdn ?_; (try with_reducible exact trivial)
        exact ⟨hfin, K1⟩
end Go.SX.G
namespace Go.SX.G
open Go Go.SX Go.Proofs
set_option maxRecDepth 100000
set_option maxHeartbeats 1000000
/-- a page is another one. -/
structure Marked (h h' : Heap) (p n : Nat) (D D' : StoreD) : Prop where
  rep : SR h' p D'
  lm : D'.lm = D.lm
  sm : D'.sm = D.sm
  es : D'.es = D.es
  c1 : D'.c1 = D.c1
  all : D'.all = D.all
  clock : D'.clock = (D.clock + 1) % 18446744073709551616
  stamp : ∀ m, stampAt D'.ss m = if m = n then D'.clock else stampAt D.ss m
  size : h'.size = h.size
  old : ∀ b, b ≠ p → b ≠ D.sm → h'[b]? = h[b]?
theorem SR.ne {h : Heap} {p : Nat} {D : StoreD} (r : SR h p D) : p ≠ D.lm ∧ p ≠ D.sm ∧ D.lm ≠ D.sm ∧ ∀ l ∈ D.es, l.blk ≠ p ∧ l.blk ≠ D.lm ∧ l.blk ≠ D.sm := by
  have h1 := r.top; have h2 := r.lmap; have h3 := r.smap
  refine ⟨fun e => ?_, fun e => ?_, fun e => ?_, fun l hl => ?_⟩
  · rw [e, h2] at h1; cases h1
  · rw [e, h3] at h1; cases h1
  · exact r.lmsm e
  · have h4 := (r.leaf l hl).1
    refine ⟨fun e => ?_, fun e => ?_, fun e => ?_⟩
    · rw [e, h1] at h4
      have h5 := (r.leaf l hl).2.1
      simp only [Option.some.injEq, Obj.cells.injEq] at h4
      have h6 := congrArg Array.size h4.1
      simp [flat_len encB_len, h5] at h6
    · rw [e, h2] at h4; cases h4
    · rw [e, h3] at h4; cases h4
theorem mark_c {h : Heap} {p : Nat} {D : StoreD} (n : Nat) (r : SR h p D) (hn : n < 18446744073709551616) :
    Fn Tryz.prog 84 [ptr p 0, .int .u64 n] h fun x h' => ∃ D', Marked h h' p n D D' := by
  have hp := r.lt (.inl rfl)
  have hsm := r.lt (.inr (.inr (.inl rfl)))
  have ht := r.top
  obtain ⟨n1, n2, n3, n4⟩ := r.ne
  obtain ⟨c, hc⟩ : ∃ c, c = (D.clock + 1) % 18446744073709551616 := ⟨_, rfl⟩
  have hw : IntKind.u64.wrap ((D.clock : Int) + 1) = (c : Int) := by rw [wrap_u64]; omega
  have hnn : ¬ D.sm = p := fun e => n2 e.symm
  refine Fn_c Tryz.func84 mixed c84 (by kernel_rfl) ?_; rw [r84]
  refine gs3 @ht @hw @hnn ?_; (try with_reducible exact trivial)
  have hold : ∀ (o1 o2 : Obj) (b : Nat), b ≠ p → b ≠ D.sm → ((h.setIfInBounds p o1).setIfInBounds D.sm o2)[b]? = h[b]? := fun o1 o2 b h1 h2 => by rw [h_setN _ _ _ _ h2, h_setN _ _ _ _ h1]
  have hrep : ∀ (o2 : List Stp) (k2 : Nat), (o2.Pairwise fun a b => a.no ≠ b.no) → (∀ s ∈ o2, s.born < k2) → (o2.Pairwise fun a b => a.born ≠ b.born) → SR ((h.setIfInBounds p (.cells #[.map (some D.lm), .map (some D.sm), .int .u64 c, .int .u64 D.all] 139)).setIfInBounds D.sm (.map (stpE o2) k2)) p { D with clock := c, ss := o2, c2 := k2 } := by
    intro o2 k2 q1 q2 q3
    refine ⟨?_, ?_, ?_, fun l hl => ⟨?_, (r.leaf l hl).2⟩, r.nos, r.blks, r.borns, q1, r.lmsm, q2, q3, ⟨by show c < 18446744073709551616; omega, r.clk.2⟩⟩
    · rw [h_setN _ _ _ _ n2]; exact h_setS _ _ _ hp
    · rw [hold _ _ _ n1.symm n3]; exact r.lmap
    · exact h_setS _ _ _ (by simpa using hsm)
    · have := n4 l hl
      rw [hold _ _ _ this.1 this.2.2]; exact (r.leaf l hl).1
  have hs0 : (h.setIfInBounds p (.cells #[.map (some D.lm), .map (some D.sm), .int .u64 c, .int .u64 D.all] 139))[D.sm]? = some (.map (stpE D.ss) D.c2) := by rw [h_setN _ _ _ _ hnn]; exact r.smap
  rcases fnd_cases (kf := fun l : Stp => (l.no : Int)) (n : Int) D.ss with hn0 | ⟨j, hj, e1, e2⟩
  · refine mup_none Tryz.underlying137 Tryz.underlying29 hs0 hn0 ⟨n, c, D.c2⟩ rfl ?_
    refine gs0 ?_; (try with_reducible exact trivial)
    have hn1 : ∀ s ∈ D.ss, s.no ≠ n := fun s hs e => hn0 s hs (by omega)
    refine ⟨{ D with clock := c, ss := D.ss ++ [⟨n, c, D.c2⟩], c2 := D.c2 + 1 }, hrep (D.ss ++ [⟨n, c, D.c2⟩]) (D.c2 + 1) (pairwise_snoc _ _ hn1 r.snos) (fun s hs => ?_) (pairwise_snoc _ _ (fun s hs => Nat.ne_of_lt (r.sborn s hs)) r.sborns), rfl, rfl, rfl, rfl, rfl, hc, fun m => stampAt_push hn1 m, by simp, fun b h1 h2 => hold _ _ _ h1 h2⟩
    rcases List.mem_append.1 hs with h1 | h1
    · have := r.sborn s h1; omega
    · simp at h1; subst h1; simp
  · refine mup_some Tryz.underlying137 Tryz.underlying29 hs0 hj e1 e2 ⟨n, c, D.ss[j].born⟩ rfl ?_
    refine gs0 ?_; (try with_reducible exact trivial)
    have hjn : D.ss[j].no = n := by omega
    refine ⟨{ D with clock := c, ss := D.ss.set j ⟨n, c, D.ss[j].born⟩, c2 := D.c2 }, hrep (D.ss.set j ⟨n, c, D.ss[j].born⟩) D.c2 (pairwise_set _ hj _ hjn.symm r.snos) (fun s hs => ?_) (pairwise_set _ hj _ rfl r.sborns), rfl, rfl, rfl, rfl, rfl, hc, fun m => stampAt_set hj hjn r.snos m, by simp, fun b h1 h2 => hold _ _ _ h1 h2⟩
    rcases List.mem_or_eq_of_mem_set hs with h1 | h1
    · exact r.sborn s h1
    · rw [h1]; show D.ss[j].born < D.c2; exact r.sborn _ (List.getElem_mem hj)
end Go.SX.G
namespace Go.SX.G
open Go Go.SX Go.Proofs
set_option maxRecDepth 100000
set_option maxHeartbeats 2000000
/-- bytes from 'lo' to 'hi' are those of 'B'. -/
structure Wr (h h' : Heap) (p : Nat) (D D' : StoreD) (lo hi : Nat) (B : Nat → Nat) : Prop where
  rep : SR h' p D'
  byte : ∀ a, byteAt D'.es a = if lo ≤ a ∧ a < hi ∧ a < 274877906944 then B a else byteAt D.es a
  ft : ∀ b, foot p D' b → foot p D b ∨ h.size ≤ b
  size : h.size ≤ h'.size
  old : ∀ b, b < h.size → ¬ foot p D b → h'[b]? = h[b]?
  all : D'.all = D.all
  clock : D.clock + (hi - lo) < 18446744073709551616 → D.clock ≤ D'.clock ∧ D'.clock ≤ D.clock + (hi - lo) ∧ ∀ m, (touched lo hi m → D.clock < stampAt D'.ss m ∧ stampAt D'.ss m ≤ D'.clock) ∧ (¬ touched lo hi m → stampAt D'.ss m = stampAt D.ss m)
theorem Wr.refl {h : Heap} {p : Nat} {D : StoreD} (r : SR h p D) (lo : Nat) (B : Nat → Nat) : Wr h h p D D lo lo B :=
  ⟨r, fun a => by rw [if_neg (by omega)], fun b f => .inl f, Nat.le_refl _, fun _ _ _ => rfl, rfl, fun _ => ⟨Nat.le_refl _, by omega, fun m => ⟨fun ⟨a, h1, h2, _⟩ => by omega, fun _ => rfl⟩⟩⟩
theorem Wr.far {h h1 : Heap} {p : Nat} {D D1 : StoreD} {lo mid hi : Nat} {B : Nat → Nat} (a : Wr h h1 p D D1 lo mid B) (hm : 274877906944 ≤ mid) (hh : mid ≤ hi) : Wr h h1 p D D1 lo hi B := by
  refine ⟨a.rep, fun x => ?_, a.ft, a.size, a.old, a.all, fun hc => ?_⟩
  · rw [a.byte]; split <;> split <;> first | rfl | omega
  · obtain ⟨c1, c2, c3⟩ := a.clock (by omega)
    refine ⟨c1, by omega, fun m => ⟨fun ⟨x, x1, x2, x3⟩ => (c3 m).1 ⟨x, x1, by omega, x3⟩, fun q => (c3 m).2 fun ⟨x, x1, x2, x3⟩ => q ⟨x, x1, by omega, x3⟩⟩⟩
theorem Wr.trans {h h1 h2 : Heap} {p : Nat} {D D1 D2 : StoreD} {lo mid hi : Nat} {B : Nat → Nat} (a : Wr h h1 p D D1 lo mid B) (b : Wr h1 h2 p D1 D2 mid hi B) (hl : lo ≤ mid) (hm : mid ≤ hi) : Wr h h2 p D D2 lo hi B := by
  refine ⟨b.rep, fun x => ?_, fun x f => ?_, Nat.le_trans a.size b.size, fun x hx hf => ?_, b.all.trans a.all, fun hc => ?_⟩
  · rw [b.byte, a.byte]; split <;> split <;> grind
  · have := a.size
    rcases b.ft x f with q | q
    · exact a.ft x q
    · right; omega
  · have := a.size
    rw [b.old x (by omega) fun q => ?_, a.old x hx hf]
    rcases a.ft x q with q | q
    · exact hf q
    · omega
  · obtain ⟨c1, c2, c3⟩ := a.clock (by omega)
    obtain ⟨d1, d2, d3⟩ := b.clock (by omega)
    refine ⟨by omega, by omega, fun m => ?_⟩
    by_cases t2 : touched mid hi m
    · have := (d3 m).1 t2
      refine ⟨fun _ => by omega, fun q => absurd ?_ q⟩
      obtain ⟨x, x1, x2, x3⟩ := t2
      exact ⟨x, by omega, x2, x3⟩
    · have e2 := (d3 m).2 t2
      by_cases t1 : touched lo mid m
      · have := (c3 m).1 t1
        refine ⟨fun _ => by omega, fun q => absurd ?_ q⟩
        obtain ⟨x, x1, x2, x3⟩ := t1
        exact ⟨x, x1, by omega, x3⟩
      · have e1 := (c3 m).2 t1
        refine ⟨fun ⟨x, x1, x2, x3⟩ => ?_, fun _ => e2.trans e1⟩
        rcases Nat.lt_or_ge x mid with q | q
        · exact absurd ⟨x, x1, q, x3⟩ t1
        · exact absurd ⟨x, q, x2, x3⟩ t2
/-- a piece into a leaf that is there, and the page is marked. -/
theorem wr_piece {h h1 h2 : Heap} {p : Nat} {D D1 D2 : StoreD} {addr k j : Nat} {ck : List Nat} {B : Nat → Nat} (r : SR h p D) (hk : 0 < k) (ht : addr + k ≤ 274877910000) (hat : addr % 4096 + k ≤ 4096) (hta : addr < 274877906944) (hj : j < D.es.length) (e : D.es[j].no = addr / 4096)
    (hck : ck.length = k) (hlt : ∀ x ∈ ck, x < 256) (hB : ∀ i, i < k → ck.getD i 0 = B (addr + i))
    (eh : h1 = h.setIfInBounds D.es[j].blk (.cells (flat encB (spl D.es[j].dat (addr % 4096) ck)).toArray 148 (0, 0)))
    (e1 : D1 = { D with es := D.es.set j { D.es[j] with dat := spl D.es[j].dat (addr % 4096) ck } }) (m : Marked h1 h2 p (addr / 4096) D1 D2) : Wr h h2 p D D2 addr (addr + k) B := by
  subst eh e1
  have hlf := r.leaf D.es[j] (List.getElem_mem hj)
  have hsp : addr % 4096 + ck.length ≤ D.es[j].dat.length := by rw [hlf.2.1]; omega
  have hfoot : ∀ b, foot p D2 b → foot p D b := by
    intro b f
    rcases f with f | f | f | ⟨l, hl, f⟩
    · exact .inl f
    · exact .inr (.inl (by rw [f, m.lm]))
    · exact .inr (.inr (.inl (by rw [f, m.sm])))
    · rw [m.es] at hl
      rcases List.mem_or_eq_of_mem_set hl with q | q
      · exact .inr (.inr (.inr ⟨l, q, f⟩))
      · refine .inr (.inr (.inr ⟨D.es[j], List.getElem_mem hj, ?_⟩))
        rw [f, q]
  refine ⟨m.rep, fun a => ?_, fun b f => .inl (hfoot b f), ?_, fun b hb hf => ?_, m.all, fun hc => ?_⟩
  · rw [m.es, byteAt_set { D.es[j] with dat := spl D.es[j].dat (addr % 4096) ck } hj rfl r.nos]
    simp only
    have hlt : a % 4096 < D.es[j].dat.length := by rw [hlf.2.1]; omega
    by_cases q : a / 4096 = D.es[j].no
    · rw [if_pos q, spl_get hsp _ hlt]
      by_cases q2 : addr ≤ a ∧ a < addr + k ∧ a < 274877906944
      · rw [if_pos q2, if_pos (by omega), hB _ (by omega)]
        congr 1; omega
      · rw [if_neg q2, if_neg (by omega)]
        have hb : ∀ i (hi : i < j), (D.es[i]'(by omega)).no ≠ a / 4096 := fun i hi => by
          have := List.pairwise_iff_getElem.1 r.nos i j (by omega) hj hi
          omega
        rw [byteAt_some hj q.symm hb]
    · rw [if_neg q, if_neg (by omega)]
  · rw [m.size]; simp
  · rw [m.old b (fun q => hf (.inl q)) (fun q => hf (.inr (.inr (.inl q)))), h_setN _ _ _ _ (fun q => hf (.inr (.inr (.inr ⟨_, List.getElem_mem hj, q⟩))))]
  · have h5 := m.clock
    simp only at h5
    rw [Nat.mod_eq_of_lt (by omega)] at h5
    refine ⟨by omega, by omega, fun x => ?_⟩
    have h6 := m.stamp x
    simp only at h6
    constructor
    · rintro ⟨a, a1, a2, a3, a4⟩
      rw [if_pos (by omega)] at h6
      omega
    · intro q
      rw [if_neg (fun w => q ⟨addr, by omega, by omega, by omega, w.symm⟩)] at h6
      exact h6
/-- the store with one leaf's bytes changed. -/
theorem SR.poke {h : Heap} {p : Nat} {D : StoreD} (r : SR h p D) {j : Nat} (hj : j < D.es.length) {dat : List Nat} (hl : dat.length = 4096) (hd : ∀ x ∈ dat, x < 256) :
    SR (h.setIfInBounds D.es[j].blk (.cells (flat encB dat).toArray 148 (0, 0))) p { D with es := D.es.set j { D.es[j] with dat := dat } } := by
  have hlf := r.leaf D.es[j] (List.getElem_mem hj)
  have hlt := getElem?_lt hlf.1
  obtain ⟨n1, n2, n3, n4⟩ := r.ne
  have n5 := n4 _ (List.getElem_mem hj)
  have hs : ∀ b, b ≠ D.es[j].blk → (h.setIfInBounds D.es[j].blk (.cells (flat encB dat).toArray 148 (0, 0)))[b]? = h[b]? := fun b hb => h_setN _ _ _ _ hb
  refine ⟨by rw [hs _ n5.1.symm]; exact r.top, ?_, by rw [hs _ n5.2.2.symm]; exact r.smap, ?_, pairwise_set _ hj _ rfl r.nos, pairwise_set _ hj _ rfl r.blks, pairwise_set _ hj _ rfl r.borns, r.snos, r.lmsm, r.sborn, r.sborns, r.clk⟩
  · rw [hs _ n5.2.1.symm, r.lmap]
    congr 2
    simp only [leafE, entA]
    congr 1
    apply List.ext_getElem?
    intro i
    simp only [List.getElem?_map, List.getElem?_set]
    split
    · rename_i q; subst q; simp [hj, ent]
    · rfl
  · intro l hl'
    rcases List.mem_iff_getElem.1 hl' with ⟨i, hi, rfl⟩
    simp only [List.length_set] at hi
    rw [List.getElem_set]
    split
    · rename_i q
      subst q
      exact ⟨h_setS _ _ _ hlt, hl, hlf.2.2.1, hlf.2.2.2.1, hd⟩
    · rename_i q
      have h6 := r.leaf D.es[i] (List.getElem_mem hi)
      refine ⟨?_, h6.2⟩
      rw [hs _ fun w => ?_]
      · exact h6.1
      · rcases Nat.lt_or_gt_of_ne q with z | z
        · exact List.pairwise_iff_getElem.1 r.blks j i hj hi z w.symm
        · exact List.pairwise_iff_getElem.1 r.blks i j hi hj z w
/-- the store with one leaf more. -/
theorem SR.grow {h : Heap} {p : Nat} {D : StoreD} (r : SR h p D) {n : Nat} (hn : ∀ l ∈ D.es, l.no ≠ n) (hn2 : n < 67108864) :
    SR ((h.setIfInBounds D.lm (.map (leafE (D.es ++ [⟨n, h.size, D.c1, List.replicate 4096 0⟩])) (D.c1 + 1))).push (.cells (repV 4096 (.int .u8 0)).toArray 148 (0, 0))) p
      { D with es := D.es ++ [⟨n, h.size, D.c1, List.replicate 4096 0⟩], c1 := D.c1 + 1 } := by
  have hsw := h_setPL h (.cells (repV 4096 (.int .u8 0)).toArray 148 (0, 0)) (.map (leafE (D.es ++ [⟨n, h.size, D.c1, List.replicate 4096 0⟩])) (D.c1 + 1)) D.lm (r.lt (.inr (.inl rfl)))
  rw [← hsw]
  obtain ⟨n1, n2, n3, n4⟩ := r.ne
  have hlm := r.lt (.inr (.inl rfl))
  have hs : ∀ b, b < h.size → b ≠ D.lm → ((h.push (.cells (repV 4096 (.int .u8 0)).toArray 148 (0, 0))).setIfInBounds D.lm (.map (leafE (D.es ++ [⟨n, h.size, D.c1, List.replicate 4096 0⟩])) (D.c1 + 1)))[b]? = h[b]? := fun b hb hne => by
    rw [h_setN _ _ _ _ hne, h_pushL _ _ _ hb]
  refine ⟨by rw [hs _ (r.lt (.inl rfl)) n1]; exact r.top, h_setS _ _ _ (by simp; omega), by rw [hs _ (r.lt (.inr (.inr (.inl rfl)))) n3.symm]; exact r.smap, ?_, pairwise_snoc _ _ hn r.nos, pairwise_snoc _ _ (fun l hl => ?_) r.blks, pairwise_snoc _ _ (fun l hl => ?_) r.borns, r.snos, r.lmsm, r.sborn, r.sborns, r.clk⟩
  · intro l hl
    rcases List.mem_append.1 hl with h1 | h1
    · have h2 := r.leaf l h1
      refine ⟨?_, h2.2.1, h2.2.2.1, ?_, h2.2.2.2.2⟩
      · rw [hs _ (getElem?_lt h2.1) (n4 l h1).2.1]; exact h2.1
      · show l.born < D.c1 + 1
        have := h2.2.2.2.1; omega
    · simp only [List.mem_singleton] at h1
      subst h1
      refine ⟨?_, by simp, hn2, Nat.lt_succ_self _, fun x hx => ?_⟩
      · rw [h_setN _ _ _ _ (by show ¬ h.size = D.lm; omega), h_pushE _ _ _ rfl, encB_rep]; rfl
      · have := List.eq_of_mem_replicate hx; omega
  · have := getElem?_lt (r.leaf l hl).1
    show l.blk ≠ h.size
    omega
  · have := (r.leaf l hl).2.2.2.1
    show l.born ≠ D.c1
    omega
theorem wr_grow {h h1 : Heap} {p n lo : Nat} {D D1 : StoreD} {B : Nat → Nat} (r : SR h p D) (hn : ∀ l ∈ D.es, l.no ≠ n) (hn2 : n < 67108864)
    (eh : h1 = (h.setIfInBounds D.lm (.map (leafE (D.es ++ [⟨n, h.size, D.c1, List.replicate 4096 0⟩])) (D.c1 + 1))).push (.cells (repV 4096 (.int .u8 0)).toArray 148 (0, 0)))
    (eD : D1 = { D with es := D.es ++ [⟨n, h.size, D.c1, List.replicate 4096 0⟩], c1 := D.c1 + 1 }) : Wr h h1 p D D1 lo lo B := by
  subst eh eD
  refine ⟨r.grow hn hn2, fun a => ?_, fun b f => ?_, by simp, fun b hb hf => ?_, rfl, fun _ => ⟨Nat.le_refl _, by simp, fun m => ⟨fun ⟨a, h1, h2, _⟩ => by omega, fun _ => rfl⟩⟩⟩
  · rw [if_neg (by omega), byteAt_push _ hn]
    simp only
    split
    · rename_i q
      rw [byteAt_none fun l hl => by have := hn l hl; omega]
      simp only [List.getD_eq_getElem?_getD, List.getElem?_replicate]
      split <;> rfl
    · rfl
  · rcases f with f | f | f | ⟨l, hl, f⟩
    · exact .inl (.inl f)
    · exact .inl (.inr (.inl f))
    · exact .inl (.inr (.inr (.inl f)))
    · rcases List.mem_append.1 hl with q | q
      · exact .inl (.inr (.inr (.inr ⟨l, q, f⟩)))
      · simp only [List.mem_singleton] at q
        right; rw [f, q]; exact Nat.le_refl _
  · rw [h_pushL _ _ _ (by simpa using hb), h_setN _ _ _ _ (fun q => hf (.inr (.inl q)))]
end Go.SX.G
namespace Go.SX.G
open Go Go.SX Go.Proofs
set_option maxRecDepth 100000
set_option maxHeartbeats 2000000
theorem write_c {h : Heap} {p : Nat} {D : StoreD} {v : Value} {bs : List Nat} (addr : Nat) (r : SR h p D) (ha : addr < 18446744073709551616) (hn : bs.length ≤ 4194304) (hv : Vs h v encB 1 bs) (hd : ∀ b, blk v = some b → ¬ foot p D b) (hlt : ∀ x ∈ bs, x < 256) :
    Fn Tryz.prog 47 [ptr p 0, .int .u64 addr, v] h fun x h' => ∃ D', Wr h h' p D D' addr (addr + bs.length) (fun a => bs.getD (a - addr) 0) := by
  obtain ⟨a0, cap0, e1, hcap⟩ := hv.shape
  subst e1
  have hd2 : decide ((4194304 : Int) < bs.length) = false := decide_eq_false (by omega)
  refine Fn_c Tryz.func47 mixed c47 (by kernel_rfl) ?_; rw [r47]
  refine gs1 @hd2 ?_; (try with_reducible exact trivial)
  refine LoopK.use (fun k fr hh => ∃ (c : Nat) (base : Option Addr) (D' : StoreD) (cc : Nat), c + k = bs.length ∧ (∀ b o, a0 = some ⟨b, o, none⟩ → c < bs.length → base = some ⟨b, o + c, none⟩) ∧ (c = 0 ∨ addr + c < 18446744073709551616) ∧ bs.length - c ≤ cc ∧ (a0.isSome = true → cc = cap0 - c) ∧
      Wr h hh p D D' addr (addr + c) (fun a => bs.getD (a - addr) 0) ∧
      fr = (((fr0.up 2 (.slice base (bs.length - c) cc)).up 1 (.int .u64 ((addr + c : Nat) : Int))).up 0 (ptr p 0))) bs.length ?_ ?_
  · exact ⟨0, a0, D, cap0, by omega, fun b o e _ => by rw [e]; rfl, .inl rfl, by omega, fun _ => rfl, Wr.refl r _ _, rfl⟩
  · intro k fr hh hI
    obtain ⟨c, base, D', cc, hk, hbase, hcl, hcc, hcc2, W, hf⟩ := hI
    subst hf
    by_cases hc : c < bs.length ∧ addr + c < 274877906944
    · obtain ⟨hc, hat⟩ := hc
      obtain ⟨vb, vo, cap', e1, hcap', hvb⟩ := hv.open hc
      simp only [Value.slice.injEq, true_and] at e1
      obtain ⟨e1, e2⟩ := e1
      subst e1
      subst e2
      have hb := hbase vb vo rfl hc
      subst hb
      have hcc3 := hcc2 rfl
      subst hcc3
      have hdn : decide ((0 : Int) < ((bs.length - c : Nat) : Int)) = true := decide_eq_true (by omega)
      have hda : decide (((addr + c : Nat) : Int) < 274877906944) = true := decide_eq_true (by omega)
      have R := W.rep
      have ht1 := R.top
      have hp1 := R.lt (.inl rfl)
      have hlm1 := R.lt (.inr (.inl rfl))
      refine gs2 @hdn @hda ?_; (try with_reducible exact trivial)
      refine FnK.val (part_c hh (addr + c) (bs.length - c) (by omega) (by omega)) ?_
      obtain ⟨sz, hsz⟩ : ∃ sz, sz = min (bs.length - c) (4096 - (addr + c) % 4096) := ⟨_, rfl⟩
      rw [← hsz]
      refine gs1 @ht1 ?_; (try with_reducible exact trivial)
      have hvh : Vs hh (.slice (some ⟨vb, vo, none⟩) bs.length cap0) encB 1 bs := hv.mono fun b hb => W.old b (hv.blk_lt hb) (hd b hb)
      have hckl : ((bs.drop c).take sz).length = sz := by rw [List.length_take, List.length_drop]; omega
      have hcklt : ∀ x ∈ (bs.drop c).take sz, x < 256 := fun x hx => hlt x (List.mem_of_mem_drop (List.mem_of_mem_take hx))
      have hckB : ∀ i, i < sz → ((bs.drop c).take sz).getD i 0 = bs.getD (addr + c + i - addr) 0 := by
        intro i hi
        simp only [List.getD_eq_getElem?_getD, List.getElem?_take, hi, if_true, List.getElem?_drop]
        rw [show addr + c + i - addr = c + i by omega]
      have hfin : ∀ (hh3 : Heap) (D3 : StoreD), Wr h hh3 p D D3 addr (addr + (c + sz)) (fun a => bs.getD (a - addr) 0) → ∃ k' : Nat, k' < k ∧ ∃ (c' : Nat) (base : Option Addr) (D' : StoreD) (cc : Nat), c' + k' = bs.length ∧ (∀ b o, some (⟨vb, vo, none⟩ : Addr) = some ⟨b, o, none⟩ → c' < bs.length → base = some ⟨b, o + c', none⟩) ∧ (c' = 0 ∨ addr + c' < 18446744073709551616) ∧ bs.length - c' ≤ cc ∧ ((some (⟨vb, vo, none⟩ : Addr)).isSome = true → cc = cap0 - c') ∧
          Wr h hh3 p D D' addr (addr + c') (fun a => bs.getD (a - addr) 0) ∧
          (((fr0.up 2 (.slice (if cap0 - c = sz then some ⟨vb, vo + c, none⟩ else some ⟨vb, vo + c + sz * 1, none⟩) (bs.length - c - sz) (cap0 - c - sz))).up 1 (.int .u64 (((addr + c : Nat) : Int) + sz))).up 0 (ptr p 0)) =
          (((fr0.up 2 (.slice base (bs.length - c') cc)).up 1 (.int .u64 ((addr + c' : Nat) : Int))).up 0 (ptr p 0)) := by
        intro hh3 D3 W3
        refine ⟨k - sz, by omega, c + sz, (if cap0 - c = sz then some ⟨vb, vo + c, none⟩ else some ⟨vb, vo + c + sz * 1, none⟩), D3, cap0 - c - sz, by omega, ?_, .inr (by omega), by omega, fun _ => by omega, W3, ?_⟩
        · intro b o e q
          simp only [Option.some.injEq, Addr.mk.injEq, and_true] at e
          rw [if_neg (by omega), ← e.1, ← e.2, Nat.mul_one, Nat.add_assoc]
        · rw [show bs.length - (c + sz) = bs.length - c - sz by omega, show ((addr + (c + sz) : Nat) : Int) = (addr + c : Nat) + (sz : Int) by omega]
      have hno1 : (addr + c) / 4096 < 67108864 := by omega
      rcases fnd_cases (kf := fun l : Leaf => (l.no : Int)) (((addr + c : Nat) : Int) / 4096) D'.es with hno | ⟨j, hj, e1, e2⟩
      · refine obK.use _ (look_none Tryz.underlying136 Tryz.underlying29 ze145 R.lmap hno true) ?_
        refine gs1 @ht1 ?_; (try with_reducible exact trivial)
        refine mup_none Tryz.underlying136 Tryz.underlying29 (h_pushL _ _ _ hlm1 |>.trans R.lmap) hno ⟨(addr + c) / 4096, hh.size, D'.c1, List.replicate 4096 0⟩ rfl ?_
        refine gs1 @ht1 ?_; (try with_reducible exact trivial)
        obtain ⟨h0, eh⟩ : ∃ h0, h0 = (hh.setIfInBounds D'.lm (.map (leafE (D'.es ++ [⟨(addr + c) / 4096, hh.size, D'.c1, List.replicate 4096 0⟩])) (D'.c1 + 1))).push (.cells (repV 4096 (.int .u8 0)).toArray 148 (0, 0)) := ⟨_, rfl⟩
        obtain ⟨D0, eD⟩ : ∃ D0 : StoreD, D0 = { D' with es := D'.es ++ [⟨(addr + c) / 4096, hh.size, D'.c1, List.replicate 4096 0⟩], c1 := D'.c1 + 1 } := ⟨_, rfl⟩
        have W0 := W.trans (wr_grow (lo := addr + c) (B := fun a => bs.getD (a - addr) 0) R (fun l hl q => hno l hl (by omega)) hno1 eh eD) (by omega) (Nat.le_refl _)
        rw [← eh]
        have R0 := W0.rep
        have hj0 : D'.es.length < D0.es.length := by rw [eD]; simp
        have hel : D0.es[D'.es.length] = ⟨(addr + c) / 4096, hh.size, D'.c1, List.replicate 4096 0⟩ := by simp [eD]
        have hlf := R0.leaf D0.es[D'.es.length] (List.getElem_mem hj0)
        have hvh0 : Vs h0 (.slice (some ⟨vb, vo, none⟩) bs.length cap0) encB 1 bs := hv.mono fun b hb => W0.old b (hv.blk_lt hb) (hd b hb)
        have hlb := hlf.1
        rw [hel] at hlb
        simp only at hlb
        refine copy_into (cs := flat encB ((bs.drop c).take sz)) sl22 rfl rfl ?_ hlb (flat_all encB_one _) ?_ ?_
        · have := Vw.srcMid hvh0 (i := c) (k := sz) (by omega) sz (cap0 - c)
          rw [show min sz (4096 - (addr + c) % 4096) = sz by omega]
          rw [flat_drop encB_len, flat_take encB_len, Nat.mul_one, Nat.mul_one] at this
          simpa using this
        · simp [encB_flat, hckl]; omega
        have hspl := spl_set (dat := List.replicate 4096 0) (ck := (bs.drop c).take sz) (at_ := (addr + c) % 4096) (by rw [hckl]; simp; omega)
        refine gs0 ?_; (try with_reducible exact trivial)
        rw [Nat.mul_one, hspl, show ((addr + c : Nat) : Int) / 4096 = (((addr + c) / 4096 : Nat) : Int) by omega]
        have R1 := R0.poke hj0 (dat := spl D0.es[D'.es.length].dat ((addr + c) % 4096) ((bs.drop c).take sz)) (by rw [spl_len (by rw [hckl, hlf.2.1]; omega)]; exact hlf.2.1) (spl_lt hlf.2.2.2.2 hcklt)
        have eh1 : D0.es[D'.es.length].blk = hh.size := by rw [hel]
        have ed1 : D0.es[D'.es.length].dat = List.replicate 4096 0 := by rw [hel]
        have R2 := R1
        rw [eh1, ed1] at R2
        refine FnK.use (mark_c ((addr + c) / 4096) R2 (by omega)) ?_
        intro x h3 hx
        obtain ⟨D3, M⟩ := hx
        have W3 := W0.trans (wr_piece (addr := addr + c) (k := sz) (B := fun a => bs.getD (a - addr) 0) R0 (by omega) (by omega) (by omega) hat hj0 (by rw [hel]) hckl hcklt hckB rfl rfl (by rw [eh1, ed1]; exact M)) (by omega) (by omega)
        refine gs0 ?_; (try with_reducible exact trivial)
        rw [Nat.add_assoc] at W3
        exact hfin h3 D3 W3
      · refine obK.use _ (look_some Tryz.underlying136 Tryz.underlying29 R.lmap hj e1 e2 true) ?_
        refine gs1 @ht1 ?_; (try with_reducible exact trivial)
        have hlf := R.leaf D'.es[j] (List.getElem_mem hj)
        refine copy_into (cs := flat encB ((bs.drop c).take sz)) sl22 rfl rfl ?_ hlf.1 (flat_all encB_one _) ?_ ?_
        · have := Vw.srcMid hvh (i := c) (k := sz) (by omega) sz (cap0 - c)
          rw [show min sz (4096 - (addr + c) % 4096) = sz by omega]
          rw [flat_drop encB_len, flat_take encB_len, Nat.mul_one, Nat.mul_one] at this
          simpa using this
        · simp [encB_flat, hckl, hlf.2.1]; omega
        have hspl := spl_set (dat := D'.es[j].dat) (ck := (bs.drop c).take sz) (at_ := (addr + c) % 4096) (by rw [hckl, hlf.2.1]; omega)
        refine gs0 ?_; (try with_reducible exact trivial)
        rw [Nat.mul_one, hspl, show ((addr + c : Nat) : Int) / 4096 = (((addr + c) / 4096 : Nat) : Int) by omega]
        have R1 := R.poke hj (dat := spl D'.es[j].dat ((addr + c) % 4096) ((bs.drop c).take sz)) (by rw [spl_len (by rw [hckl, hlf.2.1]; omega)]; exact hlf.2.1) (spl_lt hlf.2.2.2.2 hcklt)
        refine FnK.use (mark_c ((addr + c) / 4096) R1 (by omega)) ?_
        intro x h3 hx
        obtain ⟨D3, M⟩ := hx
        have W3 := W.trans (wr_piece (addr := addr + c) (k := sz) (B := fun a => bs.getD (a - addr) 0) R (by omega) (by omega) (by omega) hat hj (by omega) hckl hcklt hckB rfl rfl M) (by omega) (by omega)
        refine gs0 ?_; (try with_reducible exact trivial)
        rw [Nat.add_assoc] at W3
        exact hfin h3 D3 W3
    · have hfin : Wr h hh p D D' addr (addr + bs.length) (fun a => bs.getD (a - addr) 0) := by
        rcases Nat.lt_or_ge c bs.length with q | q
        · exact W.far (by omega) (by omega)
        · rw [show bs.length = c by omega]; exact W
      rcases Nat.lt_or_ge c bs.length with q | q
      · have hdn : decide ((0 : Int) < ((bs.length - c : Nat) : Int)) = true := decide_eq_true (by omega)
        have hda : decide (((addr + c : Nat) : Int) < 274877906944) = false := decide_eq_false (by omega)
        refine gs2 @hdn @hda ?_; (try with_reducible exact trivial)
        exact ⟨D', hfin⟩
      · have hdn : decide ((0 : Int) < ((bs.length - c : Nat) : Int)) = false := decide_eq_false (by omega)
        refine gs1 @hdn ?_; (try with_reducible exact trivial)
        exact ⟨D', hfin⟩
end Go.SX.G
namespace Go.SX.G
open Go Go.SX Go.Proofs
set_option maxRecDepth 100000
set_option maxHeartbeats 2000000
theorem Wr.sr {h h' : Heap} {p : Nat} {D D' : StoreD} {lo hi : Nat} {B : Nat → Nat} (w : Wr h h' p D D' lo hi B) : Sr D D' (hi - lo) (touched lo hi) := by
  intro hc i
  obtain ⟨c1, c2, c3⟩ := w.clock hc
  have i1 := i.all
  have ha := w.all
  refine ⟨⟨by omega, fun m => ?_⟩, c1, c2, fun m => ?_⟩
  · by_cases q : touched lo hi m
    · exact ((c3 m).1 q).2
    · have := (c3 m).2 q; have := i.each m; omega
  · have := i.each m
    unfold stampV
    by_cases q : touched lo hi m
    · have := (c3 m).1 q
      exact ⟨by omega, fun _ => by omega⟩
    · have := (c3 m).2 q
      exact ⟨by omega, fun z => absurd z q⟩
/-- the bytes stay, stamps go on. -/
structure Tc (h h' : Heap) (p : Nat) (D D' : StoreD) (n : Nat) (T : Nat → Prop) : Prop where
  rep : SR h' p D'
  lm : D'.lm = D.lm
  sm : D'.sm = D.sm
  es : D'.es = D.es
  c1 : D'.c1 = D.c1
  size : h'.size = h.size
  old : ∀ b, b ≠ p → b ≠ D.sm → h'[b]? = h[b]?
  sr : Sr D D' n T
theorem wide_c (h : Heap) (a b : Nat) (h1 : a % 4096 = 0) (h2 : b % 4096 = 0) (h3 : a < b) (h4 : b ≤ 274877906944) : Fn Tryz.prog 95 [.int .u64 a, .int .u64 b] h fun x h' => x = .bool (decide (4096 < (b - a) / 4096)) ∧ h' = h := by
  refine Fn_c Tryz.func95 mixed c95 (by kernel_rfl) ?_; rw [r95]
  refine gs0 ?_; (try with_reducible exact trivial)
  congr 2; apply propext; omega
theorem touch_c {h : Heap} {p : Nat} {D : StoreD} (a b : Nat) (r : SR h p D) (h1 : a % 4096 = 0) (h2 : b % 4096 = 0) (h3 : a < b) (h4 : b ≤ 274877906944) :
    Fn Tryz.prog 53 [ptr p 0, .int .u64 a, .int .u64 b] h fun x h' => ∃ D', Tc h h' p D D' ((b - a) / 4096) (touched a b) := by
  have hp := r.lt (.inl rfl)
  have ht := r.top
  obtain ⟨n1, n2, n3, n4⟩ := r.ne
  have hmn : (if (274877906944 : Int) < b then (274877906944 : Int) else b) = b := by rw [if_neg (by omega)]
  have hd : decide ((b : Int) ≤ a) = false := decide_eq_false (by omega)
  refine Fn_c Tryz.func53 mixed c53 (by kernel_rfl) ?_; rw [r53]
  refine gs2 @hmn @hd ?_; (try with_reducible exact trivial)
  refine FnK.val (wide_c h a b h1 h2 h3 h4) ?_
  by_cases hw : 4096 < (b - a) / 4096
  · have hdw : decide (4096 < (b - a) / 4096) = true := decide_eq_true hw
    rw [hdw]
    obtain ⟨c, hc⟩ : ∃ c, c = (D.clock + 1) % 18446744073709551616 := ⟨_, rfl⟩
    have hwc : IntKind.u64.wrap ((D.clock : Int) + 1) = (c : Int) := by rw [wrap_u64]; omega
    refine gs2 @ht @hwc ?_; (try with_reducible exact trivial)
    refine ⟨{ D with clock := c, all := c }, ⟨h_setS _ _ _ hp, by rw [h_setN _ _ _ _ n1.symm]; exact r.lmap, by rw [h_setN _ _ _ _ n2.symm]; exact r.smap, fun l hl => ⟨by rw [h_setN _ _ _ _ (n4 l hl).1]; exact (r.leaf l hl).1, (r.leaf l hl).2⟩, r.nos, r.blks, r.borns, r.snos, r.lmsm, r.sborn, r.sborns, ⟨by show c < 18446744073709551616; omega, by show c < 18446744073709551616; omega⟩⟩, rfl, rfl, rfl, rfl, by simp, fun x q _ => h_setN _ _ _ _ q, ?_⟩
    intro hcl i
    have i1 := i.all
    rw [Nat.mod_eq_of_lt (by omega)] at hc
    refine ⟨⟨Nat.le_refl _, fun m => ?_⟩, by show D.clock ≤ c; omega, by show c ≤ _; omega, fun m => ?_⟩
    · have := i.each m; show stampAt D.ss m ≤ c; omega
    · have := i.each m
      unfold stampV
      show max (stampAt D.ss m) D.all ≤ max (stampAt D.ss m) c ∧ (touched a b m → max (stampAt D.ss m) D.all < max (stampAt D.ss m) c)
      exact ⟨by omega, fun _ => by omega⟩
  · have hdw : decide (4096 < (b - a) / 4096) = false := decide_eq_false hw
    rw [hdw]
    refine gs1 @ht ?_; (try with_reducible exact trivial)
    refine LoopK.use (fun k fr hh => ∃ (n : Nat) (D' : StoreD), a / 4096 ≤ n ∧ n + k = b / 4096 ∧ Tc h hh p D D' (n - a / 4096) (touched a (n * 4096)) ∧
      fr = (((fr0.up 6 (.int .u64 n)).up 2 (.int .u64 b)).up 0 (ptr p 0))) (b / 4096 - a / 4096) ?_ ?_
    · refine ⟨a / 4096, D, Nat.le_refl _, by omega, ⟨r, rfl, rfl, rfl, rfl, rfl, fun _ _ _ => rfl, (Sr.refl D).le (by omega) fun m ⟨x, x1, x2, _⟩ => by omega⟩, rfl⟩
    · intro k fr hh hI
      obtain ⟨n, D', hn, hk, T, hf⟩ := hI
      subst hf
      by_cases hc : n * 4096 < b
      · have hd2 : decide (((n : Int) * 4096) < b) = true := decide_eq_true (by omega)
        refine gs1 @hd2 ?_; (try with_reducible exact trivial)
        refine FnK.use (mark_c n T.rep (by omega)) ?_
        intro x h2 hx
        obtain ⟨D3, M⟩ := hx
        refine gs0 ?_; (try with_reducible exact trivial)
        refine ⟨k - 1, by omega, n + 1, D3, by omega, by omega, ⟨M.rep, M.lm.trans T.lm, M.sm.trans T.sm, M.es.trans T.es, M.c1.trans T.c1, M.size.trans T.size, fun x q1 q2 => (M.old x q1 (by rw [T.sm]; exact q2)).trans (T.old x q1 q2), (T.sr.trans (Sr.mark M.all M.clock M.stamp)).le (by omega) ?_⟩, rfl⟩
        rintro m ⟨x, x1, x2, x3, x4⟩
        by_cases q : x < n * 4096
        · exact .inl ⟨x, x1, q, x3, x4⟩
        · right; omega
      · have hd2 : decide (((n : Int) * 4096) < b) = false := decide_eq_false (by omega)
        refine gs1 @hd2 ?_; (try with_reducible exact trivial)
        have e : n * 4096 = b := by omega
        rw [e] at T
        refine ⟨D', T.rep, T.lm, T.sm, T.es, T.c1, T.size, T.old, T.sr.le (by omega) fun m q => q⟩
end Go.SX.G
namespace Go.SX.G
open Go Go.SX Go.Proofs
set_option maxRecDepth 100000
set_option maxHeartbeats 2000000
/-- the bytes of whole pages are 0, stamps go on. -/
structure Cl (h h' : Heap) (p : Nat) (D D' : StoreD) (a b : Nat) : Prop where
  rep : SR h' p D'
  byte : ∀ x, byteAt D'.es x = if a ≤ x ∧ x < b then 0 else byteAt D.es x
  ft : ∀ x, foot p D' x → foot p D x
  size : h.size ≤ h'.size
  old : ∀ x, x < h.size → ¬ foot p D x → h'[x]? = h[x]?
  sr : Sr D D' ((b - a) / 4096) (touched a b)
/-- the store with fewer leaves. -/
theorem SR.fewer {h : Heap} {p : Nat} {D : StoreD} {es' : List Leaf} (r : SR h p D) (hs : es'.Sublist D.es) (o : Obj) (ho : o = .map (leafE es') D.c1) : SR (h.setIfInBounds D.lm o) p { D with es := es' } := by
  subst ho
  obtain ⟨n1, n2, n3, n4⟩ := r.ne
  have hn : ∀ b, b ≠ D.lm → (h.setIfInBounds D.lm (.map (leafE es') D.c1))[b]? = h[b]? := fun b q => h_setN _ _ _ _ q
  refine ⟨by rw [hn _ n1]; exact r.top, h_setS _ _ _ (r.lt (.inr (.inl rfl))), by rw [hn _ n3.symm]; exact r.smap, fun l hl => ?_, r.nos.sublist hs, r.blks.sublist hs, r.borns.sublist hs, r.snos, r.lmsm, r.sborn, r.sborns, r.clk⟩
  have hl' := hs.subset hl
  refine ⟨by rw [hn _ (n4 l hl').2.1]; exact (r.leaf l hl').1, (r.leaf l hl').2⟩
theorem clear_c {h : Heap} {p : Nat} {D : StoreD} (a b : Nat) (r : SR h p D) (h1 : a % 4096 = 0) (h2 : b % 4096 = 0) (h3 : a < b) (h4 : b ≤ 274877906944) :
    Fn Tryz.prog 56 [ptr p 0, .int .u64 a, .int .u64 b] h fun x h' => ∃ D', Cl h h' p D D' a b := by
  have hmn : (if (274877906944 : Int) < b then (274877906944 : Int) else b) = b := by rw [if_neg (by omega)]
  have hd : decide ((b : Int) ≤ a) = false := decide_eq_false (by omega)
  refine Fn_c Tryz.func56 mixed c56 (by kernel_rfl) ?_; rw [r56]
  refine gs2 @hmn @hd ?_; (try with_reducible exact trivial)
  refine FnK.use (touch_c a b r h1 h2 h3 h4) ?_
  intro x1 h1' hx
  obtain ⟨D1, T⟩ := hx
  have R1 := T.rep
  have ht1 := R1.top
  have hp1 := R1.lt (.inl rfl)
  have hlm1 := R1.lt (.inr (.inl rfl))
  refine gs1 @ht1 ?_; (try with_reducible exact trivial)
  refine range_ent Tryz.underlying136 R1.lmap ?_
  refine gs0 ?_; (try with_reducible exact trivial)
  refine LoopK.use (fun k fr hh => ∃ (seen : Array Nat) (D2 : StoreD), (D1.es.filter fun l => !seen.contains l.born).length ≤ k ∧ D2 = { D1 with es := leftL a b seen D1.es } ∧ SR hh p D2 ∧ hh[h1'.size]? = some (.mapIter (some D1.lm) D1.c1 seen D1.c1) ∧ h1'.size < hh.size ∧
      (∀ x, x < h1'.size → x ≠ D1.lm → hh[x]? = h1'[x]?) ∧
      fr = ((((fr0.up 28 (ptr h1'.size 0)).up 2 (.int .u64 b)).up 1 (.int .u64 a)).up 0 (ptr p 0))) (D1.es.length) ?_ ?_
  · refine ⟨#[], D1, by simpa using List.length_filter_le _ _, by rw [leftL_nil], R1.ext (Keeps.push _ _ (Nat.le_refl _)), h_pushE _ _ _ rfl, by simp, fun x q _ => h_pushL _ _ _ q, rfl⟩
  · intro k fr hh hI
    obtain ⟨seen, D2, hk, eD, R2, hit, hsz, hold, hf⟩ := hI
    subst hf
    have hlm2 : D2.lm = D1.lm := by rw [eD]
    have hes2 : D2.es = leftL a b seen D1.es := by rw [eD]
    have hc2 : D2.c1 = D1.c1 := by rw [eD]
    have hmap : hh[D1.lm]? = some (.map (leafE D2.es) D1.c1) := by rw [← hlm2, ← hc2]; exact R2.lmap
    have ht2 := R2.top
    rw [hlm2] at ht2
    have hp2 := R2.lt (.inl rfl)
    refine gs0 ?_; (try with_reducible exact trivial)
    refine next_ent hit hmap (fun l hl => by have := (R2.leaf l hl).2.2.2.1; rw [hc2] at this; exact this) (fun hall => ?_) (fun l hl hns => ?_)
    · refine gs0 ?_; (try with_reducible exact trivial)
      have hes : D2.es = D1.es.filter fun l => !insideL a b l := by
        rw [hes2]
        apply List.filter_congr
        intro l hl
        cases hi : insideL a b l with
        | false => simp
        | true =>
          cases hs : seen.contains l.born with
          | true => rfl
          | false =>
            have : l ∈ D2.es := by rw [hes2]; exact List.mem_filter.2 ⟨hl, by rw [hi, hs]; rfl⟩
            have := hall l this
            simp at hs
            exact absurd this hs
      refine ⟨D2, R2, fun x => ?_, fun x f => ?_, by have := T.size; omega, fun x q1 q2 => ?_, ?_⟩
      · rw [byteAt_left h1 h2 R1.nos hes x, T.es]
      · rcases f with f | f | f | ⟨l, hl, f⟩
        · exact .inl f
        · exact .inr (.inl (by rw [f, hlm2, T.lm]))
        · refine .inr (.inr (.inl ?_))
          rw [f, eD]; exact T.sm
        · refine .inr (.inr (.inr ⟨l, ?_, f⟩))
          rw [← T.es]
          rw [hes2] at hl
          exact (List.mem_filter.1 hl).1
      · have := T.size
        rw [hold x (by omega) (fun e => q2 (.inr (.inl (by rw [e, T.lm])))), T.old x (fun e => q2 (.inl e)) (fun e => q2 (.inr (.inr (.inl e))))]
      · refine (T.sr.trans (Sr.same (D := D1) (D' := D2) (by rw [eD]) (by rw [eD]) (by rw [eD]))).le (by omega) fun m q => .inl q
    · have hl1 : l ∈ D1.es := by rw [hes2] at hl; exact (List.mem_filter.1 hl).1
      have hlf := R1.leaf l hl1
      have hne1 : ¬ D1.lm = h1'.size := by omega
      have hne2 : ¬ p = h1'.size := by have := R1.lt (b := p) (.inl rfl); omega
      have hit3 : (hh.setIfInBounds h1'.size (.mapIter (some D1.lm) D1.c1 (seen.push l.born) D1.c1))[h1'.size]? = some (.mapIter (some D1.lm) D1.c1 (seen.push l.born) D1.c1) := h_setS _ _ _ hsz
      have hmap3 : (hh.setIfInBounds h1'.size (.mapIter (some D1.lm) D1.c1 (seen.push l.born) D1.c1))[D1.lm]? = some (.map (leafE D2.es) D1.c1) := by rw [h_setN _ _ _ _ hne1]; exact hmap
      have hent := entry_ent (k := .u64) (kf := fun l : Leaf => (l.no : Int)) (vf := fun l => .pointer (some ⟨l.blk, 0, none⟩)) (bf := fun l => l.born) hit3 hmap3 hl R2.borns
      have R3 : SR (hh.setIfInBounds h1'.size (.mapIter (some D1.lm) D1.c1 (seen.push l.born) D1.c1)) p D2 := by
        refine R2.mono fun x f => h_setN _ _ _ _ ?_
        have : foot p D1 x := by
          rcases f with f | f | f | ⟨l', hl', f⟩
          · exact .inl f
          · exact .inr (.inl (by rw [f, hlm2]))
          · exact .inr (.inr (.inl (by rw [f, eD])))
          · rw [hes2] at hl'
            exact .inr (.inr (.inr ⟨l', (List.mem_filter.1 hl').1, f⟩))
        have := R1.lt this; omega
      have hkm : (D1.es.filter fun x => !(seen.push l.born).contains x.born).length < k := by
        refine Nat.lt_of_lt_of_le (filter_lt (fun x : Leaf => !seen.contains x.born) _ (fun x hx => ?_) (l := l) (by simpa using hns) (by simp) D1.es hl1) hk
        simp at hx ⊢
        exact hx.1
      have hfin : ∀ (D3 : StoreD) (hh3 : Heap), D3 = { D1 with es := leftL a b (seen.push l.born) D1.es } → SR hh3 p D3 → hh3[h1'.size]? = some (.mapIter (some D1.lm) D1.c1 (seen.push l.born) D1.c1) → h1'.size < hh3.size → (∀ x, x < h1'.size → x ≠ D1.lm → hh3[x]? = h1'[x]?) →
          ∃ k', k' < k ∧ ∃ (seen1 : Array Nat) (D2 : StoreD), (D1.es.filter fun l => !seen1.contains l.born).length ≤ k' ∧ D2 = { D1 with es := leftL a b seen1 D1.es } ∧ SR hh3 p D2 ∧ hh3[h1'.size]? = some (.mapIter (some D1.lm) D1.c1 seen1 D1.c1) ∧ h1'.size < hh3.size ∧
          (∀ x, x < h1'.size → x ≠ D1.lm → hh3[x]? = h1'[x]?) := fun D3 hh3 q1 q2 q3 q4 q5 => ⟨_, hkm, seen.push l.born, D3, Nat.le_refl _, q1, q2, q3, q4, q5⟩
      have hold3 : ∀ x, x < h1'.size → x ≠ D1.lm → (hh.setIfInBounds h1'.size (.mapIter (some D1.lm) D1.c1 (seen.push l.born) D1.c1))[x]? = h1'[x]? := fun x q1 q2 => by rw [h_setN _ _ _ _ (by omega)]; exact hold x q1 q2
      cases hi : insideL a b l with
      | false =>
        have hfin2 := hfin D2 _ (by rw [eD, leftL_out hl1 R1.borns hi]) R3 hit3 (by simpa using hsz) hold3
        rw [hit3] at hfin2
        simp only [h_szS] at hfin2
        have hi' : ¬ (a ≤ l.no * 4096 ∧ l.no * 4096 < b) := by simpa [insideL] using hi
        by_cases q : b ≤ l.no * 4096
        · have hd1 : decide ((b : Int) ≤ (l.no : Int) * 4096) = true := decide_eq_true (by omega)
          refine gs2 @hent @hd1 ?_; (try with_reducible exact trivial)
          exact hfin2
        · have hd1 : decide ((b : Int) ≤ (l.no : Int) * 4096) = false := decide_eq_false (by omega)
          have hd2 : decide ((l.no : Int) * 4096 + 4096 ≤ a) = true := decide_eq_true (by omega)
          refine gs3 @hent @hd1 @hd2 ?_; (try with_reducible exact trivial)
          exact hfin2
      | true =>
        have hi' : a ≤ l.no * 4096 ∧ l.no * 4096 < b := by simpa [insideL] using hi
        have hd1 : decide ((b : Int) ≤ (l.no : Int) * 4096) = false := decide_eq_false (by omega)
        have hd2 : decide ((l.no : Int) * 4096 + 4096 ≤ a) = false := decide_eq_false (by omega)
        have hd3 : decide ((a : Int) ≤ (l.no : Int) * 4096) = true := decide_eq_true (by omega)
        have hd4 : decide ((l.no : Int) * 4096 + 4096 ≤ b) = true := decide_eq_true (by omega)
        refine gs6 @hent @hd1 @hd2 @hd3 @hd4 @ht2 ?_; (try with_reducible exact trivial)
        obtain ⟨j, hj, ej⟩ := List.mem_iff_getElem.1 hl
        refine del_some (j := j) Tryz.underlying136 Tryz.underlying29 hmap3 hj (by rw [ej]) (fun x hx => ?_) ?_
        · have := List.pairwise_iff_getElem.1 R2.nos x j (by omega) hj hx
          rw [ej] at this; omega
        · refine gs0 ?_; (try with_reducible exact trivial)
          have hes : D2.es.eraseIdx j = leftL a b (seen.push l.born) D1.es := by
            have hj' : j < (leftL a b seen D1.es).length := by rw [← hes2]; exact hj
            have e1 : (leftL a b seen D1.es)[j] = l := by rw [← ej]; congr 1; exact hes2.symm
            have := leftL_in R1.borns hj' (by rw [e1]; exact hi)
            rw [e1] at this
            rw [hes2]; exact this
          have hR := R3.fewer (es' := D2.es.eraseIdx j) (List.eraseIdx_sublist _ _) _ rfl
          have eD3 : ({ D2 with es := D2.es.eraseIdx j } : StoreD) = { D1 with es := leftL a b (seen.push l.born) D1.es } := by rw [hes, eD]
          rw [eD3, hlm2, hc2] at hR
          have hX : ((hh.setIfInBounds h1'.size (.mapIter (some D1.lm) D1.c1 (seen.push l.born) D1.c1)).setIfInBounds D1.lm (.map (leafE (D2.es.eraseIdx j)) D1.c1))[h1'.size]? = some (.mapIter (some D1.lm) D1.c1 (seen.push l.born) D1.c1) := by
            rw [h_setN _ _ _ _ (by omega)]; exact hit3
          have hfin3 := hfin _ _ rfl hR hX (by simpa using hsz) (fun x q1 q2 => by rw [h_setN _ _ _ _ q2]; exact hold3 x q1 q2)
          rw [hX] at hfin3
          simp only [h_szS] at hfin3
          exact hfin3
theorem stamp_c {h : Heap} {p : Nat} {D : StoreD} (n : Nat) (r : SR h p D) : Fn Tryz.prog 129 [ptr p 0, .int .u64 n] h fun x h' => x = .int .u64 (stampV D n : Nat) ∧ h' = h := by
  have ht := r.top
  have hmx : ∀ s : Nat, (if (s : Int) < D.all then (D.all : Int) else s) = ((max s D.all : Nat) : Int) := fun s => max_int s D.all
  refine Fn_c Tryz.func129 mixed c129 (by kernel_rfl) ?_; rw [r129]
  refine gs1 @ht ?_; (try with_reducible exact trivial)
  rcases fnd_cases (kf := fun l : Stp => (l.no : Int)) (n : Int) D.ss with hn0 | ⟨j, hj, e1, e2⟩
  · refine obK.use _ (look_none Tryz.underlying137 Tryz.underlying29 ze29 r.smap hn0 false) ?_
    have e : stampAt D.ss n = 0 := stampAt_miss fun s hs e => hn0 s hs (by omega)
    have := hmx 0
    refine gs1 @ht ?_; (try with_reducible exact trivial)
    unfold stampV; rw [e]
    first | exact ⟨rfl, rfl⟩ | (congr 1; done) | (congr 1; split <;> omega)
  · refine obK.use _ (look_some Tryz.underlying137 Tryz.underlying29 r.smap hj e1 e2 false) ?_
    have e : stampAt D.ss n = D.ss[j].val := stampAt_hit hj (by omega) fun i hi => by have := e2 i hi; omega
    refine gs1 @ht ?_; (try with_reducible exact trivial)
    unfold stampV; rw [e]
    congr 1; split <;> omega
end Go.SX.G
