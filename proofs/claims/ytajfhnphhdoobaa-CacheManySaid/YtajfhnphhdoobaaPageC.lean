/- Pages of bytes: Write. No condition but on sizes. -/
import Derived.Test.YtajfhnphhdoobaaPageB
set_option linter.unusedVariables false
set_option linter.unusedSimpArgs false
namespace Go.SX.G
open Go Go.SX Go.Proofs
set_option maxRecDepth 100000
set_option maxHeartbeats 2000000
/-- bytes from 'lo' to 'hi' are those of 'B'. -/
structure Wr (h h' : Heap) (p : Nat) (D D' : StoreD) (lo hi : Nat) (B : Nat → Nat) : Prop where
  rep : SR h' p D'
  byte : ∀ a, byteAt D'.es a = if lo ≤ a ∧ a < hi ∧ a < 274877906944 then B a else byteAt D.es a
  ft : ∀ b, foot p D' b → foot p D b ∨ h.size ≤ b
  size : h.size ≤ h'.size
  old : ∀ b, b < h.size → ¬ foot p D b → h'[b]? = h[b]?
  all : D'.all = D.all
  clock : D.clock + (hi - lo) < 18446744073709551616 → D.clock ≤ D'.clock ∧ D'.clock ≤ D.clock + (hi - lo) ∧ ∀ m, (touched lo hi m → D.clock < stampAt D'.ss m ∧ stampAt D'.ss m ≤ D'.clock) ∧ (¬ touched lo hi m → stampAt D'.ss m = stampAt D.ss m)
theorem Wr.refl {h : Heap} {p : Nat} {D : StoreD} (r : SR h p D) (lo : Nat) (B : Nat → Nat) : Wr h h p D D lo lo B :=
  ⟨r, fun a => by rw [if_neg (by omega)], fun b f => .inl f, Nat.le_refl _, fun _ _ _ => rfl, rfl, fun _ => ⟨Nat.le_refl _, by omega, fun m => ⟨fun ⟨a, h1, h2, _⟩ => by omega, fun _ => rfl⟩⟩⟩
theorem Wr.far {h h1 : Heap} {p : Nat} {D D1 : StoreD} {lo mid hi : Nat} {B : Nat → Nat} (a : Wr h h1 p D D1 lo mid B) (hm : 274877906944 ≤ mid) (hh : mid ≤ hi) : Wr h h1 p D D1 lo hi B := by
  refine ⟨a.rep, fun x => ?_, a.ft, a.size, a.old, a.all, fun hc => ?_⟩
  · rw [a.byte]; split <;> split <;> first | rfl | omega
  · obtain ⟨c1, c2, c3⟩ := a.clock (by omega)
    refine ⟨c1, by omega, fun m => ⟨fun ⟨x, x1, x2, x3⟩ => (c3 m).1 ⟨x, x1, by omega, x3⟩, fun q => (c3 m).2 fun ⟨x, x1, x2, x3⟩ => q ⟨x, x1, by omega, x3⟩⟩⟩
theorem Wr.trans {h h1 h2 : Heap} {p : Nat} {D D1 D2 : StoreD} {lo mid hi : Nat} {B : Nat → Nat} (a : Wr h h1 p D D1 lo mid B) (b : Wr h1 h2 p D1 D2 mid hi B) (hl : lo ≤ mid) (hm : mid ≤ hi) : Wr h h2 p D D2 lo hi B := by
  refine ⟨b.rep, fun x => ?_, fun x f => ?_, Nat.le_trans a.size b.size, fun x hx hf => ?_, b.all.trans a.all, fun hc => ?_⟩
  · rw [b.byte, a.byte]; split <;> split <;> grind
  · have := a.size
    rcases b.ft x f with q | q
    · exact a.ft x q
    · right; omega
  · have := a.size
    rw [b.old x (by omega) fun q => ?_, a.old x hx hf]
    rcases a.ft x q with q | q
    · exact hf q
    · omega
  · obtain ⟨c1, c2, c3⟩ := a.clock (by omega)
    obtain ⟨d1, d2, d3⟩ := b.clock (by omega)
    refine ⟨by omega, by omega, fun m => ?_⟩
    by_cases t2 : touched mid hi m
    · have := (d3 m).1 t2
      refine ⟨fun _ => by omega, fun q => absurd ?_ q⟩
      obtain ⟨x, x1, x2, x3⟩ := t2
      exact ⟨x, by omega, x2, x3⟩
    · have e2 := (d3 m).2 t2
      by_cases t1 : touched lo mid m
      · have := (c3 m).1 t1
        refine ⟨fun _ => by omega, fun q => absurd ?_ q⟩
        obtain ⟨x, x1, x2, x3⟩ := t1
        exact ⟨x, x1, by omega, x3⟩
      · have e1 := (c3 m).2 t1
        refine ⟨fun ⟨x, x1, x2, x3⟩ => ?_, fun _ => e2.trans e1⟩
        rcases Nat.lt_or_ge x mid with q | q
        · exact absurd ⟨x, x1, q, x3⟩ t1
        · exact absurd ⟨x, q, x2, x3⟩ t2
/-- a piece into a leaf that is there, and the page is marked. -/
theorem wr_piece {h h1 h2 : Heap} {p : Nat} {D D1 D2 : StoreD} {addr k j : Nat} {ck : List Nat} {B : Nat → Nat} (r : SR h p D) (hk : 0 < k) (ht : addr + k ≤ 274877910000) (hat : addr % 4096 + k ≤ 4096) (hta : addr < 274877906944) (hj : j < D.es.length) (e : D.es[j].no = addr / 4096)
    (hck : ck.length = k) (hlt : ∀ x ∈ ck, x < 256) (hB : ∀ i, i < k → ck.getD i 0 = B (addr + i))
    (eh : h1 = h.setIfInBounds D.es[j].blk (.cells (flat encB (spl D.es[j].dat (addr % 4096) ck)).toArray 132 (0, 0)))
    (e1 : D1 = { D with es := D.es.set j { D.es[j] with dat := spl D.es[j].dat (addr % 4096) ck } }) (m : Marked h1 h2 p (addr / 4096) D1 D2) : Wr h h2 p D D2 addr (addr + k) B := by
  subst eh e1
  have hlf := r.leaf D.es[j] (List.getElem_mem hj)
  have hsp : addr % 4096 + ck.length ≤ D.es[j].dat.length := by rw [hlf.2.1]; omega
  have hfoot : ∀ b, foot p D2 b → foot p D b := by
    intro b f
    rcases f with f | f | f | ⟨l, hl, f⟩
    · exact .inl f
    · exact .inr (.inl (by rw [f, m.lm]))
    · exact .inr (.inr (.inl (by rw [f, m.sm])))
    · rw [m.es] at hl
      rcases List.mem_or_eq_of_mem_set hl with q | q
      · exact .inr (.inr (.inr ⟨l, q, f⟩))
      · refine .inr (.inr (.inr ⟨D.es[j], List.getElem_mem hj, ?_⟩))
        rw [f, q]
  refine ⟨m.rep, fun a => ?_, fun b f => .inl (hfoot b f), ?_, fun b hb hf => ?_, m.all, fun hc => ?_⟩
  · rw [m.es, byteAt_set { D.es[j] with dat := spl D.es[j].dat (addr % 4096) ck } hj rfl r.nos]
    simp only
    have hlt : a % 4096 < D.es[j].dat.length := by rw [hlf.2.1]; omega
    by_cases q : a / 4096 = D.es[j].no
    · rw [if_pos q, spl_get hsp _ hlt]
      by_cases q2 : addr ≤ a ∧ a < addr + k ∧ a < 274877906944
      · rw [if_pos q2, if_pos (by omega), hB _ (by omega)]
        congr 1; omega
      · rw [if_neg q2, if_neg (by omega)]
        have hb : ∀ i (hi : i < j), (D.es[i]'(by omega)).no ≠ a / 4096 := fun i hi => by
          have := List.pairwise_iff_getElem.1 r.nos i j (by omega) hj hi
          omega
        rw [byteAt_some hj q.symm hb]
    · rw [if_neg q, if_neg (by omega)]
  · rw [m.size]; simp
  · rw [m.old b (fun q => hf (.inl q)) (fun q => hf (.inr (.inr (.inl q)))), h_setN _ _ _ _ (fun q => hf (.inr (.inr (.inr ⟨_, List.getElem_mem hj, q⟩))))]
  · have h5 := m.clock
    simp only at h5
    rw [Nat.mod_eq_of_lt (by omega)] at h5
    refine ⟨by omega, by omega, fun x => ?_⟩
    have h6 := m.stamp x
    simp only at h6
    constructor
    · rintro ⟨a, a1, a2, a3, a4⟩
      rw [if_pos (by omega)] at h6
      omega
    · intro q
      rw [if_neg (fun w => q ⟨addr, by omega, by omega, by omega, w.symm⟩)] at h6
      exact h6
/-- the store with one leaf's bytes changed. -/
theorem SR.poke {h : Heap} {p : Nat} {D : StoreD} (r : SR h p D) {j : Nat} (hj : j < D.es.length) {dat : List Nat} (hl : dat.length = 4096) (hd : ∀ x ∈ dat, x < 256) :
    SR (h.setIfInBounds D.es[j].blk (.cells (flat encB dat).toArray 132 (0, 0))) p { D with es := D.es.set j { D.es[j] with dat := dat } } := by
  have hlf := r.leaf D.es[j] (List.getElem_mem hj)
  have hlt := getElem?_lt hlf.1
  obtain ⟨n1, n2, n3, n4⟩ := r.ne
  have n5 := n4 _ (List.getElem_mem hj)
  have hs : ∀ b, b ≠ D.es[j].blk → (h.setIfInBounds D.es[j].blk (.cells (flat encB dat).toArray 132 (0, 0)))[b]? = h[b]? := fun b hb => h_setN _ _ _ _ hb
  refine ⟨by rw [hs _ n5.1.symm]; exact r.top, ?_, by rw [hs _ n5.2.2.symm]; exact r.smap, ?_, pairwise_set _ hj _ rfl r.nos, pairwise_set _ hj _ rfl r.blks, pairwise_set _ hj _ rfl r.borns, r.snos, r.lmsm, r.sborn, r.sborns, r.clk⟩
  · rw [hs _ n5.2.1.symm, r.lmap]
    congr 2
    simp only [leafE, entA]
    congr 1
    apply List.ext_getElem?
    intro i
    simp only [List.getElem?_map, List.getElem?_set]
    split
    · rename_i q; subst q; simp [hj, ent]
    · rfl
  · intro l hl'
    rcases List.mem_iff_getElem.1 hl' with ⟨i, hi, rfl⟩
    simp only [List.length_set] at hi
    rw [List.getElem_set]
    split
    · rename_i q
      subst q
      exact ⟨h_setS _ _ _ hlt, hl, hlf.2.2.1, hlf.2.2.2.1, hd⟩
    · rename_i q
      have h6 := r.leaf D.es[i] (List.getElem_mem hi)
      refine ⟨?_, h6.2⟩
      rw [hs _ fun w => ?_]
      · exact h6.1
      · rcases Nat.lt_or_gt_of_ne q with z | z
        · exact List.pairwise_iff_getElem.1 r.blks j i hj hi z w.symm
        · exact List.pairwise_iff_getElem.1 r.blks i j hi hj z w
/-- the store with one leaf more. -/
theorem SR.grow {h : Heap} {p : Nat} {D : StoreD} (r : SR h p D) {n : Nat} (hn : ∀ l ∈ D.es, l.no ≠ n) (hn2 : n < 67108864) :
    SR ((h.setIfInBounds D.lm (.map (leafE (D.es ++ [⟨n, h.size, D.c1, List.replicate 4096 0⟩])) (D.c1 + 1))).push (.cells (repV 4096 (.int .u8 0)).toArray 132 (0, 0))) p
      { D with es := D.es ++ [⟨n, h.size, D.c1, List.replicate 4096 0⟩], c1 := D.c1 + 1 } := by
  have hsw := h_setPL h (.cells (repV 4096 (.int .u8 0)).toArray 132 (0, 0)) (.map (leafE (D.es ++ [⟨n, h.size, D.c1, List.replicate 4096 0⟩])) (D.c1 + 1)) D.lm (r.lt (.inr (.inl rfl)))
  rw [← hsw]
  obtain ⟨n1, n2, n3, n4⟩ := r.ne
  have hlm := r.lt (.inr (.inl rfl))
  have hs : ∀ b, b < h.size → b ≠ D.lm → ((h.push (.cells (repV 4096 (.int .u8 0)).toArray 132 (0, 0))).setIfInBounds D.lm (.map (leafE (D.es ++ [⟨n, h.size, D.c1, List.replicate 4096 0⟩])) (D.c1 + 1)))[b]? = h[b]? := fun b hb hne => by
    rw [h_setN _ _ _ _ hne, h_pushL _ _ _ hb]
  refine ⟨by rw [hs _ (r.lt (.inl rfl)) n1]; exact r.top, h_setS _ _ _ (by simp; omega), by rw [hs _ (r.lt (.inr (.inr (.inl rfl)))) n3.symm]; exact r.smap, ?_, pairwise_snoc _ _ hn r.nos, pairwise_snoc _ _ (fun l hl => ?_) r.blks, pairwise_snoc _ _ (fun l hl => ?_) r.borns, r.snos, r.lmsm, r.sborn, r.sborns, r.clk⟩
  · intro l hl
    rcases List.mem_append.1 hl with h1 | h1
    · have h2 := r.leaf l h1
      refine ⟨?_, h2.2.1, h2.2.2.1, ?_, h2.2.2.2.2⟩
      · rw [hs _ (getElem?_lt h2.1) (n4 l h1).2.1]; exact h2.1
      · show l.born < D.c1 + 1
        have := h2.2.2.2.1; omega
    · simp only [List.mem_singleton] at h1
      subst h1
      refine ⟨?_, by simp, hn2, Nat.lt_succ_self _, fun x hx => ?_⟩
      · rw [h_setN _ _ _ _ (by show ¬ h.size = D.lm; omega), h_pushE _ _ _ rfl, encB_rep]; rfl
      · have := List.eq_of_mem_replicate hx; omega
  · have := getElem?_lt (r.leaf l hl).1
    show l.blk ≠ h.size
    omega
  · have := (r.leaf l hl).2.2.2.1
    show l.born ≠ D.c1
    omega
theorem wr_grow {h h1 : Heap} {p n lo : Nat} {D D1 : StoreD} {B : Nat → Nat} (r : SR h p D) (hn : ∀ l ∈ D.es, l.no ≠ n) (hn2 : n < 67108864)
    (eh : h1 = (h.setIfInBounds D.lm (.map (leafE (D.es ++ [⟨n, h.size, D.c1, List.replicate 4096 0⟩])) (D.c1 + 1))).push (.cells (repV 4096 (.int .u8 0)).toArray 132 (0, 0)))
    (eD : D1 = { D with es := D.es ++ [⟨n, h.size, D.c1, List.replicate 4096 0⟩], c1 := D.c1 + 1 }) : Wr h h1 p D D1 lo lo B := by
  subst eh eD
  refine ⟨r.grow hn hn2, fun a => ?_, fun b f => ?_, by simp, fun b hb hf => ?_, rfl, fun _ => ⟨Nat.le_refl _, by simp, fun m => ⟨fun ⟨a, h1, h2, _⟩ => by omega, fun _ => rfl⟩⟩⟩
  · rw [if_neg (by omega), byteAt_push _ hn]
    simp only
    split
    · rename_i q
      rw [byteAt_none fun l hl => by have := hn l hl; omega]
      simp only [List.getD_eq_getElem?_getD, List.getElem?_replicate]
      split <;> rfl
    · rfl
  · rcases f with f | f | f | ⟨l, hl, f⟩
    · exact .inl (.inl f)
    · exact .inl (.inr (.inl f))
    · exact .inl (.inr (.inr (.inl f)))
    · rcases List.mem_append.1 hl with q | q
      · exact .inl (.inr (.inr (.inr ⟨l, q, f⟩)))
      · simp only [List.mem_singleton] at q
        right; rw [f, q]; exact Nat.le_refl _
  · rw [h_pushL _ _ _ (by simpa using hb), h_setN _ _ _ _ (fun q => hf (.inr (.inl q)))]
end Go.SX.G
