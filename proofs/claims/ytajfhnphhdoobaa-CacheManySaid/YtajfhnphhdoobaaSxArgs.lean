/- The law's arguments, as the row hands them over, in the words of the walks. No program. -/
import Derived.Test.YtajfhnphhdoobaaSxHeap
import Derived.Test.YtajfhnphhdoobaaSxSimp
import Derived.WalkKit
import Derived.OpenShut
import Derived.Carry
import Derived.ChangeOld
set_option linter.unusedVariables false
set_option linter.unusedSimpArgs false
namespace Go.SX
open Go.RowKit Go.ChangeShapes Go.WideShapes
variable {H : Type} {enc : TypeId × Value → H} {P : Program} {W : World}
def encK (k : IntKind) (z : Int) : List Value := [.int k z]
theorem encK_len (k : IntKind) (z : Int) : (encK k z).length = 1 := rfl
theorem encK_flat (k : IntKind) (zs : List Int) : flat (encK k) zs = zs.map (Value.int k) := by
  induction zs with
  | nil => rfl
  | cons z zs ih => rw [flat_cons, ih]; rfl
theorem cellsAt {a : Addr} {f : Nat → Value} {n : Nat} (ha : a.spot = none) (hc : ∀ i, i < n → W.cell? (a.add i) = some (f i)) (hb : ∃ c e z, W.heap[a.block]? = some (.cells c e z) ∧ a.off ≤ c.size) :
    ∃ c e z, W.heap[a.block]? = some (.cells c e z) ∧ a.off + n ≤ c.size ∧ (c.toList.drop a.off).take n = (List.range n).map f := by
  obtain ⟨c, e, z, hb, ho⟩ := hb
  obtain ⟨b, o, sp⟩ := a
  simp only at ha hb ho
  subst ha
  have hcc : ∀ i, i < n → c[o + i]? = some (f i) := by
    intro i hi
    have := hc i hi
    rw [Addr_add_none] at this
    simpa [World.cell?, hb] using this
  refine ⟨c, e, z, hb, ?_, ?_⟩
  · rcases Nat.eq_zero_or_pos n with q | q
    · subst q; exact ho
    · have := hcc (n - 1) (by omega)
      have := (Array.getElem?_eq_some_iff.1 this).1
      show o + n ≤ c.size
      omega
  · apply List.ext_getElem?
    intro i
    rw [List.getElem?_take]
    split
    · rename_i q
      rw [List.getElem?_drop, Array.getElem?_toList, hcc i q, List.getElem?_map, List.getElem?_range q]; rfl
    · rename_i q
      rw [List.getElem?_eq_none (by simpa using q)]
theorem rowAt_le {fits : TypeId → Bool} {d e count off n : Nat} (h : rowAt P fits d e count off n = true) : off ≤ count * P.cellsOf e := by
  cases d with
  | zero => simp [rowAt] at h
  | succ d =>
    simp only [rowAt] at h
    split at h
    · cases h
    · rename_i hs
      simp only [Bool.or_eq_true, Bool.and_eq_true, beq_iff_eq, decide_eq_true_eq] at h
      have h1 := Nat.div_add_mod off (P.cellsOf e)
      have h2 := Nat.mod_lt off (Nat.pos_of_ne_zero hs)
      rcases h with ⟨⟨h3, h4⟩, _⟩ | ⟨h3, _⟩
      · have : P.cellsOf e * (off / P.cellsOf e) ≤ P.cellsOf e * count := Nat.mul_le_mul_left _ (by omega)
        rw [Nat.mul_comm count]; omega
      · have : P.cellsOf e * (off / P.cellsOf e + 1) ≤ P.cellsOf e * count := Nat.mul_le_mul_left _ (by omega)
        rw [Nat.mul_add, Nat.mul_one] at this
        rw [Nat.mul_comm count]; omega
theorem liesAt_le : ∀ {d e count off u n : Nat}, liesAt P d e count off u n = true → off ≤ count * P.cellsOf e
  | 0, e, count, off, u, n, h => by simp [liesAt] at h
  | d + 1, e, count, off, u, n, h => by
    simp only [liesAt, Bool.or_eq_true] at h
    rcases h with h | h
    · exact rowAt_le h
    · split at h
      · exact liesAt_le h
      · cases h
theorem has_block {r : Reach} {base n : Nat} {a : Addr} {e : TypeId} (h : W.has P r base a e n) : a.spot = none ∧ ∃ c t z, W.heap[a.block]? = some (.cells c t z) ∧ liesAt P P.depth t (c.size / P.cellsOf t) a.off e n = true ∧ a.off ≤ c.size := by
  obtain ⟨_, h2, row, cells, h3, h4⟩ := h
  refine ⟨h2, ?_⟩
  unfold World.shape? at h3
  split at h3
  · rename_i c t z hb
    simp only [Option.some.injEq, Prod.mk.injEq] at h3
    obtain ⟨rfl, rfl⟩ := h3
    exact ⟨c, _, z, hb, h4, Nat.le_trans (liesAt_le h4) (Nat.div_mul_le_self _ _)⟩
  · cases h3
theorem open_vs {base : Nat} {t e : TypeId} {k : IntKind} {v : Value} {d : DataW H} {ps : List MemPlace} (ht : P.underlying t = some (.slice e)) (he : P.underlying e = some (.int k)) (hc : P.cellsOf e = 1) (hval : Value.okWide P W .any base t v)
    (h : DataW.Trod enc P W 0 (fun _ => true) true t v d ps) : ∃ zs : List Int, Vs W.heap v (encK k) 1 zs ∧ ∀ n ∈ zs, (Lit.int k n).wf = true := by
  obtain ⟨a, len, cap, rfl⟩ := okWide_slice ht hval
  obtain ⟨fuel, hf⟩ := h
  rcases open_ints ht he hc hf with ⟨hcs, _⟩ | ⟨x, l, c, zs, hcs, _, hl, hm, hz, _, hcell, hwz⟩
  · simp [Value.cells] at hcs
    obtain ⟨rfl, rfl, rfl⟩ := hcs
    exact ⟨[], Vs.nil _, fun n hn => by cases hn⟩
  · simp [Value.cells] at hcs
    obtain ⟨rfl, rfl, rfl⟩ := hcs
    simp only [if_true] at hz
    have hh : W.has P .any base x e cap := by
      simp only [Value.okWide, ht, Cell.okWide, Cell.ok] at hval
      exact hval.2.2
    obtain ⟨hs, c0, t0, z0, hb0, _, ho0⟩ := has_block hh
    obtain ⟨b, o, sp⟩ := x
    simp only at hs hb0 ho0
    subst hs
    obtain ⟨c1, t1, z1, hb1, ho1, hL⟩ := cellsAt (a := ⟨b, o, none⟩) (n := len) (f := fun i => .int k (zs.getD i 0)) rfl (fun i hi => hcell i (by omega)) ⟨c0, t0, z0, hb0, ho0⟩
    simp only at hb1 ho1 hL
    have hlen : (zs.take len).length = len := by rw [List.length_take]; omega
    refine ⟨zs.take len, ⟨by rw [flat_len (encK_len k)], .inr ⟨b, o, cap, c1, t1, z1, by rw [hlen], by omega, hb1, by omega, ?_⟩⟩, fun n hn => hwz n (List.mem_of_mem_take hn)⟩
    rw [hlen, Nat.mul_one, hL, encK_flat]
    apply List.ext_getElem
    · simp; omega
    · intro i h1 h2
      simp only [List.length_map, List.length_range] at h1
      simp [List.getElem?_eq_getElem (show i < zs.length by omega)]
/-- words without a sign as numbers. -/
theorem nats_back : ∀ {zs : List Int}, (∀ n ∈ zs, 0 ≤ n) → (zs.map Int.toNat).map (fun n : Nat => (n : Int)) = zs
  | [], _ => rfl
  | z :: zs, h => by
    rw [List.map_cons, List.map_cons, nats_back fun n hn => h n (List.mem_cons_of_mem _ hn)]
    congr 1
    exact Int.toNat_of_nonneg (h z (List.mem_cons_self ..))
theorem open_nats {base : Nat} {t e : TypeId} {k : IntKind} {v : Value} {d : DataW H} {ps : List MemPlace} (lim : Nat) (hk : ∀ z, (Lit.int k z).wf = true → 0 ≤ z ∧ z < lim) (ht : P.underlying t = some (.slice e)) (he : P.underlying e = some (.int k)) (hc : P.cellsOf e = 1) (hval : Value.okWide P W .any base t v)
    (h : DataW.Trod enc P W 0 (fun _ => true) true t v d ps) : ∃ ns : List Nat, Vs W.heap v (fun n : Nat => encK k (n : Int)) 1 ns ∧ ∀ n ∈ ns, n < lim := by
  obtain ⟨zs, hv, hw⟩ := open_vs ht he hc hval h
  have hb : (zs.map Int.toNat).map (fun n : Nat => (n : Int)) = zs := nats_back fun n hn => (hk n (hw n hn)).1
  refine ⟨zs.map Int.toNat, ?_, fun n hn => ?_⟩
  · have hf : flat (fun n : Nat => encK k (n : Int)) (zs.map Int.toNat) = flat (encK k) zs := by
      have h1 : ∀ ns : List Nat, flat (fun n : Nat => encK k (n : Int)) ns = flat (encK k) (ns.map fun n : Nat => (n : Int)) := by
        intro ns
        simp only [flat, List.flatMap_map]
      rw [h1, hb]
    unfold Vs at hv ⊢
    rw [hf, List.length_map]; exact hv
  · obtain ⟨z, hz, rfl⟩ := List.mem_map.1 hn
    have := hk z (hw z hz)
    omega
theorem wf_u8 {n : Int} (h : (Lit.int .u8 n).wf = true) : 0 ≤ n ∧ n < (256 : Nat) := by
  simp [Lit.wf, IntKind.min, IntKind.max, IntKind.signed, IntKind.bits] at h; omega
theorem wf_u16 {n : Int} (h : (Lit.int .u16 n).wf = true) : 0 ≤ n ∧ n < (65536 : Nat) := by
  simp [Lit.wf, IntKind.min, IntKind.max, IntKind.signed, IntKind.bits] at h; omega
theorem wf_u32 {n : Int} (h : (Lit.int .u32 n).wf = true) : 0 ≤ n ∧ n < (4294967296 : Nat) := by
  simp [Lit.wf, IntKind.min, IntKind.max, IntKind.signed, IntKind.bits] at h; omega
theorem wf_u64' {n : Int} (h : (Lit.int .u64 n).wf = true) : 0 ≤ n ∧ n < (18446744073709551616 : Nat) := by
  simp [Lit.wf, IntKind.min, IntKind.max, IntKind.signed, IntKind.bits] at h; omega
theorem nat_of {k : IntKind} {lim : Nat} {z : Int} (hk : ∀ z, (Lit.int k z).wf = true → 0 ≤ z ∧ z < lim) (h : (Lit.int k z).wf = true) : ∃ n : Nat, z = (n : Int) ∧ n < lim := by
  have := hk z h
  exact ⟨z.toNat, by omega, by omega⟩
end Go.SX
