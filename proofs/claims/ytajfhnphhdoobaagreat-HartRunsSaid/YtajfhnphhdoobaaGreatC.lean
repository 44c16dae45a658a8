/- An instruction is fetched from a space: its bits, or the place that may not be done. No condition but on sizes. A cache: what is read at a place, stamps, New, Len, Clear. No condition but on sizes. A cache: stamps, New, Len, Clear. No condition but on sizes. A cache: Fetch, of none, and of one that is on. No condition but on sizes. -/
import Derived.Test.YtajfhnphhdoobaaGreatMem
import Derived.Test.YtajfhnphhdoobaaGreatPlainB
import Derived.Test.YtajfhnphhdoobaaGreatDC
set_option linter.unusedVariables false
set_option linter.unusedSimpArgs false
namespace Go.SX.G
open Go Go.SX Go.Proofs
set_option maxRecDepth 100000
set_option maxHeartbeats 2000000
theorem half_none {h : Heap} {s : Nat} {M : MemD} (a : Nat) (r : MR h s M) (ha : a < 18446744073709551616) (F : firstF M.rs a 2 4 = none) :
    Fn Tryz.prog 125 [ptr s 0, .int .u64 a] h fun x h' => x = .tuple #[.int .u32 ((memAt M a + 256 * memAt M (a + 1) : Nat) : Int), .agg #[.int .i64 0, .int .u64 0]] ∧ Keeps h.size h h' := by
  have K0 : ∀ o, Keeps h.size h (h.push o) := fun o => Keeps.push h o (Nat.le_refl _)
  have b0 : memAt M a < 256 := byteAt_lt r.sr a
  have b1 : memAt M (a + 1) < 256 := byteAt_lt r.sr (a + 1)
  refine Fn_c Tryz.func125 mixed c125 (by kernel_rfl) ?_; rw [r125]
  refine gs0 ?_; (try with_reducible exact trivial)
  refine FnK.use (mfirst_c a 2 4 (r.ext (K0 _)) ha (by omega) (by omega)) ?_
  intro x h1 ⟨o, e1, F2, K1⟩
  have F3 := F2.eqF
  rw [F] at F3
  subst F3
  have K2 := (K0 _).of_ext K1 (Nat.le_refl _)
  have hb : h1[h.size]? = some (.cells #[.int .i64 0, .int .u64 0] 41 (0, 0)) := by rw [K1.old _ (by simp)]; refine gs0 ?_; (try with_reducible exact trivial)
  have hb2 := getElem?_lt hb
  rw [e1, placeV_none]
  have R1 := r.ext K2
  have ht1 := R1.top
  refine gs2 @hb @ht1 ?_; (try with_reducible exact trivial)
  refine FnK.use (read_c a 2 R1.sr ha (by omega) (by omega)) ?_
  intro v2 h2 ⟨S2, K3⟩
  rw [peekL_get] at S2
  refine gs0 ?_; (try with_reducible exact trivial)
  refine FnK.val (wget_c 2 (by omega) (by omega) S2.vs (peekL_len _ _ _) (fun b hb => ?_)) ?_
  · simp only [peekL, List.mem_map] at hb
    obtain ⟨i, _, rfl⟩ := hb
    exact byteAt_lt r.sr _
  have hb3 := K3.at hb hb2
  have hb4 := getElem?_lt hb3
  have hw2 : IntKind.u32.wrap ((le (peekL M a 2) : Nat) : Int) = ((memAt M a + 256 * memAt M (a + 1) : Nat) : Int) := by
    rw [le_two, nat_wrap32 _ (by omega)]
  refine gs2 @hb3 @hw2 ?_; (try with_reducible exact trivial)
  exact (K2.of_ext K3 (Nat.le_refl _)).set' (Nat.le_refl _)
theorem half_some {h : Heap} {s : Nat} {M : MemD} (a b : Nat) (r : MR h s M) (ha : a < 18446744073709551616) (F : firstF M.rs a 2 4 = some b) :
    Fn Tryz.prog 125 [ptr s 0, .int .u64 a] h fun x h' => x = .tuple #[.int .u32 0, .agg #[.int .i64 3, .int .u64 b]] ∧ Keeps h.size h h' := by
  have K0 : ∀ o, Keeps h.size h (h.push o) := fun o => Keeps.push h o (Nat.le_refl _)
  refine Fn_c Tryz.func125 mixed c125 (by kernel_rfl) ?_; rw [r125]
  refine gs0 ?_; (try with_reducible exact trivial)
  refine FnK.use (mfirst_c a 2 4 (r.ext (K0 _)) ha (by omega) (by omega)) ?_
  intro x h1 ⟨o, e1, F2, K1⟩
  have F3 := F2.eqF
  rw [F] at F3
  subst F3
  have K2 := (K0 _).of_ext K1 (Nat.le_refl _)
  have hb : h1[h.size]? = some (.cells #[.int .i64 0, .int .u64 0] 41 (0, 0)) := by rw [K1.old _ (by simp)]; refine gs0 ?_; (try with_reducible exact trivial)
  have hb2 := getElem?_lt hb
  rw [e1, placeV_some]
  refine gs1 @hb ?_; (try with_reducible exact trivial)
  exact K2.set' (Nat.le_refl _)
/-- what 'Fetch' answers. -/
def fetchV : Nat × Option Nat → Value
  | (_, some b) => .tuple #[.int .u32 0, .agg #[.int .i64 3, .int .u64 b]]
  | (w, none) => .tuple #[.int .u32 w, .agg #[.int .i64 0, .int .u64 0]]
theorem mfetch_c {h : Heap} {s : Nat} {M : MemD} (a : Nat) (r : MR h s M) (ha : a < 18446744073709551616) :
    Fn Tryz.prog 99 [ptr s 0, .int .u64 a] h fun x h' => x = fetchV (fetchF M.rs (memAt M) a) ∧ Keeps h.size h h' := by
  have K0 : ∀ o, Keeps h.size h (h.push o) := fun o => Keeps.push h o (Nat.le_refl _)
  unfold fetchF
  by_cases q0 : a % 2 = 0
  · have d0 : ((a : Int) % 2) = 0 := by omega
    rw [if_neg (by omega)]
    cases F : firstF M.rs a 2 4 with
    | some b =>
      simp only []
      refine Fn_c Tryz.func99 mixed c99 (by kernel_rfl) ?_; rw [r99]
      refine gs1 @d0 ?_; (try with_reducible exact trivial)
      refine FnK.use (half_some a b (r.ext (K0 _)) ha F) ?_
      intro x h1 ⟨e1, K1⟩
      have K2 := (K0 _).of_ext K1 (Nat.le_refl _)
      have hb : h1[h.size]? = some (.cells #[.int .i64 0, .int .u64 0] 41 (0, 0)) := by rw [K1.old _ (by simp)]; refine gs0 ?_; (try with_reducible exact trivial)
      have hb2 := getElem?_lt hb
      rw [e1]
      refine gs1 @hb ?_; (try with_reducible exact trivial)
      exact ⟨rfl, ((K2.set' (Nat.le_refl _)).push' (Nat.le_refl _))⟩
    | none =>
      simp only []
      obtain ⟨lo, hlo⟩ : ∃ lo, lo = memAt M a + 256 * memAt M (a + 1) := ⟨_, rfl⟩
      have b0 : memAt M a < 256 := byteAt_lt r.sr a
      have b1 : memAt M (a + 1) < 256 := byteAt_lt r.sr (a + 1)
      have l0 : lo < 65536 := by omega
      have a3 := and3_u32 lo (by omega)
      rw [← hlo]
      by_cases q3 : lo % 4 = 3
      · rw [if_neg (by omega)]
        rw [q3] at a3
        have far := firstF_far r.wf F (by omega) ha (by omega)
        have ad : adr a 2 = a + 2 := by unfold adr; omega
        have w2 : IntKind.u64.wrap ((a : Int) + 2) = ((a + 2 : Nat) : Int) := by rw [wrap_u64]; omega
        rw [ad]
        cases F2 : firstF M.rs (a + 2) 2 4 with
        | some b =>
          simp only []
          refine Fn_c Tryz.func99 mixed c99 (by kernel_rfl) ?_; rw [r99]
          refine gs1 @d0 ?_; (try with_reducible exact trivial)
          refine FnK.use (half_none a (r.ext (K0 _)) ha F) ?_
          intro x h1 ⟨e1, K1⟩
          have K2 := (K0 _).of_ext K1 (Nat.le_refl _)
          have hb : h1[h.size]? = some (.cells #[.int .i64 0, .int .u64 0] 41 (0, 0)) := by rw [K1.old _ (by simp)]; refine gs0 ?_; (try with_reducible exact trivial)
          have hb2 := getElem?_lt hb
          rw [e1, ← hlo]
          refine gs3 @hb @a3 @w2 ?_; (try with_reducible exact trivial)
          refine FnK.use (half_some (a + 2) b (r.ext (K2.push' (Nat.le_refl _))) (by omega) F2) ?_
          intro x h3 ⟨e3, K3⟩
          have K4 := (K2.push' (Nat.le_refl _)).of_ext K3 (Nat.le_refl _)
          rw [e3]
          have sz := K1.size
          have hc : h3[h1.size]? = some (.cells #[.int .i64 0, .int .u64 0] 41 (0, 0)) := by rw [K3.old _ (by simp)]; refine gs0 ?_; (try with_reducible exact trivial)
          have hc2 := getElem?_lt hc
          have hd : h3[h.size]? = some (.cells #[.int .i64 0, .int .u64 0] 41 (0, 0)) := by rw [K3.old _ (by simp; omega), h_pushL _ _ _ hb2]; exact hb
          have hd2 := getElem?_lt hd
          refine gs2 @hc @hd ?_; (try with_reducible exact trivial)
          refine ⟨rfl, ?_⟩
          simp at sz
          repeat (first | exact K4 | refine Keeps.set' ?_ (by first | exact Nat.le_refl _ | omega) | refine Keeps.push' ?_ (by first | exact Nat.le_refl _ | omega))
        | none =>
          simp only []
          obtain ⟨hi, hhi⟩ : ∃ hi, hi = memAt M (a + 2) + 256 * memAt M (a + 3) := ⟨_, rfl⟩
          have b2 : memAt M (a + 2) < 256 := byteAt_lt r.sr (a + 2)
          have b3 : memAt M (a + 3) < 256 := byteAt_lt r.sr (a + 3)
          have j := join_u32 lo hi l0 (by omega)
          rw [← hhi]
          refine Fn_c Tryz.func99 mixed c99 (by kernel_rfl) ?_; rw [r99]
          refine gs1 @d0 ?_; (try with_reducible exact trivial)
          refine FnK.use (half_none a (r.ext (K0 _)) ha F) ?_
          intro x h1 ⟨e1, K1⟩
          have K2 := (K0 _).of_ext K1 (Nat.le_refl _)
          have hb : h1[h.size]? = some (.cells #[.int .i64 0, .int .u64 0] 41 (0, 0)) := by rw [K1.old _ (by simp)]; refine gs0 ?_; (try with_reducible exact trivial)
          have hb2 := getElem?_lt hb
          rw [e1, ← hlo]
          refine gs3 @hb @a3 @w2 ?_; (try with_reducible exact trivial)
          refine FnK.use (half_none (a + 2) (r.ext (K2.push' (Nat.le_refl _))) (by omega) F2) ?_
          intro x h3 ⟨e3, K3⟩
          have K4 := (K2.push' (Nat.le_refl _)).of_ext K3 (Nat.le_refl _)
          rw [e3, show a + 2 + 1 = a + 3 by omega, ← hhi]
          have sz := K1.size
          have hc : h3[h1.size]? = some (.cells #[.int .i64 0, .int .u64 0] 41 (0, 0)) := by rw [K3.old _ (by simp)]; refine gs0 ?_; (try with_reducible exact trivial)
          have hc2 := getElem?_lt hc
          have hd : h3[h.size]? = some (.cells #[.int .i64 0, .int .u64 0] 41 (0, 0)) := by rw [K3.old _ (by simp; omega), h_pushL _ _ _ hb2]; exact hb
          have hd2 := getElem?_lt hd
          refine gs3 @hc @hd @j ?_; (try with_reducible exact trivial)
          refine ⟨rfl, ?_⟩
          simp at sz
          refine Keeps.set' (Keeps.set' K4 (by omega)) (Nat.le_refl _)
      · rw [if_pos q3]
        have d3 : (((lo % 4 : Nat) : Int) = 3) = False := eq_false (by omega)
        refine Fn_c Tryz.func99 mixed c99 (by kernel_rfl) ?_; rw [r99]
        refine gs1 @d0 ?_; (try with_reducible exact trivial)
        refine FnK.use (half_none a (r.ext (K0 _)) ha F) ?_
        intro x h1 ⟨e1, K1⟩
        have K2 := (K0 _).of_ext K1 (Nat.le_refl _)
        have hb : h1[h.size]? = some (.cells #[.int .i64 0, .int .u64 0] 41 (0, 0)) := by rw [K1.old _ (by simp)]; refine gs0 ?_; (try with_reducible exact trivial)
        have hb2 := getElem?_lt hb
        rw [e1, ← hlo]
        refine gs3 @hb @a3 @d3 ?_; (try with_reducible exact trivial)
        exact ⟨rfl, (K2.set' (Nat.le_refl _)).push' (Nat.le_refl _)⟩
  · have d0 : (((a : Int) % 2) = 0) = False := eq_false (by omega)
    rw [if_pos (by omega)]
    refine Fn_c Tryz.func99 mixed c99 (by kernel_rfl) ?_; rw [r99]
    refine gs1 @d0 ?_; (try with_reducible exact trivial)
    exact ⟨rfl, Keeps.push _ _ (Nat.le_refl _)⟩
end Go.SX.G
namespace Go.SX.G
open Go Go.SX Go.Proofs
set_option maxRecDepth 100000
set_option maxHeartbeats 2000000
theorem clear_map {P : Program} {h : Heap} {t r c : Nat} {es : Array MapEntry} {K : Value → Heap → Prop} (ht : (P.underlying t).isSome = true) (hr : h[r]? = some (.map es c)) (K1 : K (.tuple #[]) (h.setIfInBounds r (.map #[] c))) : @clearK P h t (.map (some r)) ⟨K⟩ := by
  unfold clearK clearW
  refine ⟨ht, ?_⟩
  simp only [hr]
  exact K1
theorem fetchF_lt {rs : List Reg} {B : Nat → Nat} {a w : Nat} (hB : ∀ x, B x < 256) (h : fetchF rs B a = (w, none)) : w < 4294967296 := by
  have h0 := hB a
  have h1 := hB (a + 1)
  have h2 := hB (a + 2)
  have h3 := hB (a + 3)
  unfold fetchF at h
  split at h
  · simp at h
  · split at h
    · simp at h
    · split at h
      · simp at h; omega
      · split at h
        · simp at h
        · simp at h; omega
theorem cread_c {h : Heap} {s : Nat} {M : MemD} (a : Nat) (r : MR h s M) (ha : a < 18446744073709551616) :
    Fn Tryz.prog 59 [ptr s 0, .int .u64 a] h fun x h' => x = .tuple #[(readF M.rs (memAt M) a).1.v, (readF M.rs (memAt M) a).2.v] ∧ Keeps h.size h h' := by
  obtain ⟨w, o, hw⟩ : ∃ w o, fetchF M.rs (memAt M) a = (w, o) := ⟨_, _, rfl⟩
  have K0 : ∀ o, Keeps h.size h (h.push o) := fun o => Keeps.push h o (Nat.le_refl _)
  unfold readF
  rw [hw]
  cases o with
  | some b =>
    refine Fn_c Tryz.func59 mixed c59 (by kernel_rfl) ?_; rw [r59]
    refine gs0 ?_; (try with_reducible exact trivial)
    refine FnK.use (mfetch_c a (r.ext ((K0 _).push' (Nat.le_refl _))) ha) ?_
    intro x h1 ⟨e1, K1⟩
    have K2 := ((K0 _).push' (Nat.le_refl _)).of_ext K1 (Nat.le_refl _)
    have b0 : h1[h.size]? = some (.cells #[.int .i64 0, .int .i64 0, .int .i64 0, .int .i64 0, .int .i64 0, .int .i64 0, .int .i64 0] 47 (0, 0)) := by (rw [K1.old _ (by simp <;> omega)]; refine gs0 ?_; (try with_reducible exact trivial))
    have b1 : h1[h.size + 1]? = some (.cells #[.int .i64 0, .int .i64 0, .int .u64 0] 49 (0, 0)) := by (rw [K1.old _ (by simp <;> omega)]; refine gs0 ?_; (try with_reducible exact trivial))
    have l0 := getElem?_lt b0
    have l1 := getElem?_lt b1
    rw [e1, hw]
    unfold fetchV
    refine gs5 @b0 @b1 InstR.v.eq_1 StopR.v.eq_1 zI.eq_1 ?_; (try with_reducible exact trivial)
    first | done | (refine ⟨rfl, ?_⟩; (repeat (first | refine Keeps.set' ?_ (by first | exact Nat.le_refl _ | omega) | refine Keeps.push' ?_ (by first | exact Nat.le_refl _ | omega))); exact K2) | (constructor <;> ((repeat (first | refine Keeps.set' ?_ (by first | exact Nat.le_refl _ | omega) | refine Keeps.push' ?_ (by first | exact Nat.le_refl _ | omega))); exact K2)) | ((repeat (first | refine Keeps.set' ?_ (by first | exact Nat.le_refl _ | omega) | refine Keeps.push' ?_ (by first | exact Nat.le_refl _ | omega))); exact K2)
  | none =>
    have hl := fetchF_lt (fun x => byteAt_lt r.sr x) hw
    have hn : rngI w 4294967296 := by unfold rngI; omega
    by_cases q : (decodeL w).op = 0
    · simp only [if_pos q]
      refine Fn_c Tryz.func59 mixed c59 (by kernel_rfl) ?_; rw [r59]
      refine gs0 ?_; (try with_reducible exact trivial)
      refine FnK.use (mfetch_c a (r.ext ((K0 _).push' (Nat.le_refl _))) ha) ?_
      intro x h1 ⟨e1, K1⟩
      have K2 := ((K0 _).push' (Nat.le_refl _)).of_ext K1 (Nat.le_refl _)
      have b0 : h1[h.size]? = some (.cells #[.int .i64 0, .int .i64 0, .int .i64 0, .int .i64 0, .int .i64 0, .int .i64 0, .int .i64 0] 47 (0, 0)) := by (rw [K1.old _ (by simp <;> omega)]; refine gs0 ?_; (try with_reducible exact trivial))
      have b1 : h1[h.size + 1]? = some (.cells #[.int .i64 0, .int .i64 0, .int .u64 0] 49 (0, 0)) := by (rw [K1.old _ (by simp <;> omega)]; refine gs0 ?_; (try with_reducible exact trivial))
      have l0 := getElem?_lt b0
      have l1 := getElem?_lt b1
      rw [e1, hw]
      unfold fetchV
      refine gs2 @b0 @b1 ?_; (try with_reducible exact trivial)
      refine FnK.use (cdecode_c w hn _) ?_
      intro x h2 ⟨e2, K3⟩
      have b2 := K3.at (by rw [h_pushL _ _ _ l0]; exact b0) (by simp; omega)
      have b3 := K3.at (by rw [h_pushL _ _ _ l1]; exact b1) (by simp; omega)
      have l2 := getElem?_lt b2
      have l3 := getElem?_lt b3
      have K4 := (K2.push' (Nat.le_refl _)).of_ext K3 (Nat.le_refl _)
      rw [e2]
      unfold decV
      rw [if_pos q]
      refine gs6 @b2 @b3 InstR.v.eq_1 StopR.v.eq_1 zI.eq_1 sOk.eq_1 ?_; (try with_reducible exact trivial)
      first | done | (refine ⟨rfl, ?_⟩; (repeat (first | refine Keeps.set' ?_ (by first | exact Nat.le_refl _ | omega) | refine Keeps.push' ?_ (by first | exact Nat.le_refl _ | omega))); exact K4) | (constructor <;> ((repeat (first | refine Keeps.set' ?_ (by first | exact Nat.le_refl _ | omega) | refine Keeps.push' ?_ (by first | exact Nat.le_refl _ | omega))); exact K4)) | ((repeat (first | refine Keeps.set' ?_ (by first | exact Nat.le_refl _ | omega) | refine Keeps.push' ?_ (by first | exact Nat.le_refl _ | omega))); exact K4)
    · simp only [if_neg q]
      refine Fn_c Tryz.func59 mixed c59 (by kernel_rfl) ?_; rw [r59]
      refine gs0 ?_; (try with_reducible exact trivial)
      refine FnK.use (mfetch_c a (r.ext ((K0 _).push' (Nat.le_refl _))) ha) ?_
      intro x h1 ⟨e1, K1⟩
      have K2 := ((K0 _).push' (Nat.le_refl _)).of_ext K1 (Nat.le_refl _)
      have b0 : h1[h.size]? = some (.cells #[.int .i64 0, .int .i64 0, .int .i64 0, .int .i64 0, .int .i64 0, .int .i64 0, .int .i64 0] 47 (0, 0)) := by (rw [K1.old _ (by simp <;> omega)]; refine gs0 ?_; (try with_reducible exact trivial))
      have b1 : h1[h.size + 1]? = some (.cells #[.int .i64 0, .int .i64 0, .int .u64 0] 49 (0, 0)) := by (rw [K1.old _ (by simp <;> omega)]; refine gs0 ?_; (try with_reducible exact trivial))
      have l0 := getElem?_lt b0
      have l1 := getElem?_lt b1
      rw [e1, hw]
      unfold fetchV
      refine gs2 @b0 @b1 ?_; (try with_reducible exact trivial)
      refine FnK.use (cdecode_c w hn _) ?_
      intro x h2 ⟨e2, K3⟩
      have b2 := K3.at (by rw [h_pushL _ _ _ l0]; exact b0) (by simp; omega)
      have b3 := K3.at (by rw [h_pushL _ _ _ l1]; exact b1) (by simp; omega)
      have l2 := getElem?_lt b2
      have l3 := getElem?_lt b3
      have K4 := (K2.push' (Nat.le_refl _)).of_ext K3 (Nat.le_refl _)
      rw [e2]
      unfold decV
      rw [if_neg q]
      refine gs6 @b2 @b3 InstR.v.eq_1 StopR.v.eq_1 zI.eq_1 sOk.eq_1 ?_; (try with_reducible exact trivial)
      first | done | (refine ⟨rfl, ?_⟩; (repeat (first | refine Keeps.set' ?_ (by first | exact Nat.le_refl _ | omega) | refine Keeps.push' ?_ (by first | exact Nat.le_refl _ | omega))); exact K4) | (constructor <;> ((repeat (first | refine Keeps.set' ?_ (by first | exact Nat.le_refl _ | omega) | refine Keeps.push' ?_ (by first | exact Nat.le_refl _ | omega))); exact K4)) | ((repeat (first | refine Keeps.set' ?_ (by first | exact Nat.le_refl _ | omega) | refine Keeps.push' ?_ (by first | exact Nat.le_refl _ | omega))); exact K4)
end Go.SX.G
namespace Go.SX.G
open Go Go.SX Go.Proofs
set_option maxRecDepth 100000
set_option maxHeartbeats 2000000
theorem mstamp_c {h : Heap} {s : Nat} {M : MemD} (n : Nat) (r : MR h s M) : Fn Tryz.prog 101 [ptr s 0, .int .u64 n] h fun x h' => x = .int .u64 (stampV M.D n : Nat) ∧ h' = h := by
  have ht := r.top
  refine Fn_c Tryz.func101 mixed c101 (by kernel_rfl) ?_; rw [r101]
  refine gs1 @ht ?_; (try with_reducible exact trivial)
  refine FnK.val (stamp_c n r.sr) ?_
  refine gs0 ?_; (try with_reducible exact trivial)
theorem stamps_c {h : Heap} {s : Nat} {M : MemD} (a : Nat) (z : Int) (r : MR h s M) (ha : a < 274877906944) (hz : z = 2 ∨ z = 4) :
    Fn Tryz.prog 60 [ptr s 0, .int .u64 a, .int .i64 z] h fun x h' => x = .tuple #[.int .u64 (stampV M.D (a / 4096) : Nat), .int .u64 (stampV M.D (lastP a z) : Nat)] ∧ h' = h := by
  have e1 : ((a : Int) / 4096) = ((a / 4096 : Nat) : Int) := by omega
  have e2 : ((a : Int) + z - 1) / 4096 = ((lastP a z : Nat) : Int) := by
    unfold lastP
    rcases hz with rfl | rfl
    · rw [show (2 : Int).toNat = 2 from rfl]; omega
    · rw [show (4 : Int).toNat = 4 from rfl]; omega
  refine Fn_c Tryz.func60 mixed c60 (by kernel_rfl) ?_; rw [r60]
  refine gs1 @e1 ?_; (try with_reducible exact trivial)
  refine FnK.val (mstamp_c (a / 4096) r) ?_
  refine gs1 @e2 ?_; (try with_reducible exact trivial)
  refine FnK.val (mstamp_c (lastP a z) r) ?_
  refine gs0 ?_; (try with_reducible exact trivial)
/-- a cache that is on: its cells. -/
structure CR (h : Heap) (c m n : Nat) (sp : Value) (es : List CE) : Prop where
  top : h[c]? = some (.cells #[.bool true, .map (some m), sp] 102 (0, 0))
  map : h[m]? = some (.map (entA .u64 (fun e : CE => (e.pc : Int)) CE.v CE.born es) n)
  ne : c ≠ m
  le : es.length ≤ 4096
  keys : es.Pairwise fun x y => x.pc ≠ y.pc
theorem CR.mono {h h' : Heap} {c m n : Nat} {sp : Value} {es : List CE} (r : CR h c m n sp es) (h1 : h'[c]? = h[c]?) (h2 : h'[m]? = h[m]?) : CR h' c m n sp es := ⟨by rw [h1]; exact r.top, by rw [h2]; exact r.map, r.ne, r.le, r.keys⟩
theorem CR.lt {h : Heap} {c m n : Nat} {sp : Value} {es : List CE} (r : CR h c m n sp es) : c < h.size ∧ m < h.size := ⟨getElem?_lt r.top, getElem?_lt r.map⟩
theorem cclear_c {h : Heap} {c m n : Nat} {sp : Value} {es : List CE} (r : CR h c m n sp es) : Fn Tryz.prog 24 [ptr c 0] h fun x h' => CR h' c m n sp [] ∧ h'.size = h.size ∧ ∀ b, b ≠ m → h'[b]? = h[b]? := by
  have ht := r.top
  have hm := r.map
  have hl := r.lt
  refine Fn_c Tryz.func24 mixed c24 (by kernel_rfl) ?_; rw [r24]
  refine gs1 @ht ?_; (try with_reducible exact trivial)
  refine clear_map (by rw [Tryz.underlying100]; rfl) hm ?_
  refine gs0 ?_; (try with_reducible exact trivial)
  refine ⟨⟨by rw [h_setN _ _ _ _ r.ne]; exact ht, h_setS _ _ _ hl.2, r.ne, by simp, List.Pairwise.nil⟩, fun b q => h_setN _ _ _ _ q⟩
end Go.SX.G
namespace Go.SX.G
open Go Go.SX Go.Proofs
set_option maxRecDepth 100000
set_option maxHeartbeats 40000000
theorem ne_np (x y : Operand) (b : Nat) : binV Tryz.prog .neq 24 x y (.pointer none) (ptr b 0) = some (.bool true) := by simp [binV, quietEq, eqIn, Tryz.underlying24]
theorem and_dup {p : Prop} (h : p) : p ∧ p := ⟨h, h⟩
theorem three_ways (A B : Prop) : (A ∧ B) ∨ ¬ A ∨ (A ∧ ¬ B) := by
  by_cases a : A
  · by_cases b : B
    · exact .inl ⟨a, b⟩
    · exact .inr (.inr ⟨a, b⟩)
  · exact .inr (.inl a)
theorem keys_gone {es : List CE} {j a : Nat} (hp : es.Pairwise fun x y => x.pc ≠ y.pc) (hj : j < es.length) (e : (es[j].pc : Int) = a) : ∀ x ∈ es.eraseIdx j, (x.pc : Int) ≠ a := by
  intro x hx q
  obtain ⟨i, hi, e'⟩ := List.mem_eraseIdx_iff_getElem.1 hx
  obtain ⟨hl, e''⟩ := e'
  rw [List.pairwise_iff_getElem] at hp
  rcases Nat.lt_trichotomy i j with z | z | z
  · exact hp i j hi hj z (by rw [e'']; omega)
  · exact hl z
  · exact hp j i hj hi z (by rw [e'']; omega)
theorem readF_kind {rs : List Reg} {B : Nat → Nat} {a : Nat} (h : (readF rs B a).2.kind = 0) : (readF rs B a).2 = sOk := by
  unfold readF at h ⊢
  split at h
  · exact absurd h (by show ¬ ((4 : Int) = 0); decide)
  · split at h
    · exact absurd h (by show ¬ ((3 : Int) = 0); decide)
    · rename_i q; rw [if_neg q]
theorem cfetch_on {h : Heap} {s c m n : Nat} {M : MemD} {sp : Value} {es : List CE} (a : Nat) (r : MR h s M) (ha : a < 18446744073709551616) (C : CR h c m n sp es) (hsp : sp = .pointer none ∨ ∃ b cs e, sp = ptr b 0 ∧ h[b]? = some (.cells cs e (0, 0))) (hok : sp = ptr s 0 → ∀ e ∈ es, e.ok M) (hc : ¬ mfoot s M c) (hm : ¬ mfoot s M m) :
    Fn Tryz.prog 26 [ptr c 0, ptr s 0, .int .u64 a] h fun x h' => x = .tuple #[(readF M.rs (memAt M) a).1.v, (readF M.rs (memAt M) a).2.v] ∧ ∃ n' es', CR h' c m n' (ptr s 0) es' ∧ (∀ e ∈ es', e.ok M) ∧ h.size ≤ h'.size ∧ ∀ b, b < h.size → b ≠ c → b ≠ m → h'[b]? = h[b]? := by
  have ht := C.top
  have hmp := C.map
  obtain ⟨lc, lm⟩ := C.lt
  have ls := getElem?_lt r.top
  have hcm := C.ne
  have K0 : Keeps h.size h ((h.push (.cells #[.int .i64 0, .int .i64 0, .int .i64 0, .int .i64 0, .int .i64 0, .int .i64 0, .int .i64 0] 47)).push (.cells #[.int .i64 0, .int .i64 0, .int .u64 0] 49)) := (Keeps.push _ _ (Nat.le_refl _)).push' (Nat.le_refl _)
  obtain ⟨H0, e0⟩ : ∃ H0, H0 = (h.push (.cells #[.int .i64 0, .int .i64 0, .int .i64 0, .int .i64 0, .int .i64 0, .int .i64 0, .int .i64 0] 47)).push (.cells #[.int .i64 0, .int .i64 0, .int .u64 0] 49) := ⟨_, rfl⟩
  have z0 : H0.size = h.size + 2 := by rw [e0]; simp
  have b0 : H0[h.size]? = some (.cells #[.int .i64 0, .int .i64 0, .int .i64 0, .int .i64 0, .int .i64 0, .int .i64 0, .int .i64 0] 47 (0, 0)) := by rw [e0]; refine gs0 ?_; (try with_reducible exact trivial)
  have b1 : H0[h.size + 1]? = some (.cells #[.int .i64 0, .int .i64 0, .int .u64 0] 49 (0, 0)) := by rw [e0]; refine gs0 ?_; (try with_reducible exact trivial)
  rw [← e0] at K0
  have C0 : CR H0 c m n sp es := C.mono (K0.old _ lc) (K0.old _ lm)
  have r0 := r.ext K0
  by_cases qsp : sp = ptr s 0
  subst qsp
  have pe : ∀ hh : Heap, ptrE Tryz.prog hh 24 (ptr s 0) (ptr s 0) = some true := fun hh => by rw [ptrE_same Tryz.underlying24 sz84 (by decide)]; rfl
  refine Fn_c Tryz.func26 mixed c26 (by kernel_rfl) ?_; rw [r26]
  refine gs2 @ht @pe ?_; (try with_reducible exact trivial)
  rw [← e0]
  obtain ⟨H, eH⟩ : ∃ H, H = H0 := ⟨_, rfl⟩
  rw [← eH]
  have oH : ∀ b, b ≠ c → b ≠ m → H[b]? = H0[b]? := fun b q1 q2 => by rw [eH]
  obtain ⟨es1, CH, ok1⟩ : ∃ es1, CR H c m n (ptr s 0) es1 ∧ ∀ e ∈ es1, e.ok M := ⟨es, by rw [eH]; exact C0, hok rfl⟩
  have zH : H.size = h.size + 2 := by rw [eH]; omega
  have htH := CH.top
  have hmH := CH.map
  have rH : MR H s M := r0.mono fun b f => oH b (fun q => hc (q ▸ f)) fun q => hm (q ▸ f)
  have b0H : H[h.size]? = some (.cells #[.int .i64 0, .int .i64 0, .int .i64 0, .int .i64 0, .int .i64 0, .int .i64 0, .int .i64 0] 47 (0, 0)) := by rw [oH _ (by omega) (by omega)]; exact b0
  have b1H : H[h.size + 1]? = some (.cells #[.int .i64 0, .int .i64 0, .int .u64 0] 49 (0, 0)) := by rw [oH _ (by omega) (by omega)]; exact b1
  have oldH : ∀ b, b < h.size → b ≠ c → b ≠ m → H[b]? = h[b]? := fun b hb q1 q2 => by rw [oH b q1 q2, K0.old b hb]
  have lmH : m < H.size := by omega
  rcases (fnd_cases (kf := fun e : CE => (e.pc : Int)) (a : Int) es1).symm with ⟨j, hj, e1, e2⟩ | hn0
  obtain ⟨E, hE⟩ : ∃ E, E = es1[j] := ⟨_, rfl⟩
  refine obK.use _ (look_some Tryz.underlying100 Tryz.underlying29 hmH hj e1 e2 true) ?_
  have e1o := e1
  rw [← hE] at e1 ⊢
  have okE := ok1 E (by rw [hE]; exact List.getElem_mem hj)
  have pE : E.pc = a := by omega
  have aE : a < 274877906944 := by have := okE.pc; omega
  unfold CE.v
  refine gs1 @htH ?_; (try with_reducible exact trivial)
  refine FnK.val (stamps_c a E.i.size (rH.ext (Keeps.push _ _ (Nat.le_refl _))) aE okE.sz) ?_
  have nowE := okE.now
  rw [pE] at nowE
  obtain ⟨sf, hsf⟩ : ∃ sf, sf = stampV M.D (a / 4096) := ⟨_, rfl⟩
  obtain ⟨sl, hsl⟩ : ∃ sl, sl = stampV M.D (lastP a E.i.size) := ⟨_, rfl⟩
  rw [← hsf, ← hsl] at nowE ⊢
  rcases three_ways (sf = E.f) (sl = E.l) with ⟨qf, ql⟩ | qf | ⟨qf, ql⟩
  · have t1 : ((sf : Int) = (E.f : Int)) = True := eq_true (by omega)
    have t2 : ((sl : Int) = (E.l : Int)) = True := eq_true (by omega)
    refine gs5 @htH @t1 @t2 @b0H @b1H ?_; (try with_reducible exact trivial)
    rw [nowE qf.symm ql.symm]
    refine ⟨?_, ?_⟩
    · first | rfl | (unfold InstR.v StopR.v sOk; rfl)
    refine ⟨n, es1, ?_, ok1, ?_, ?_⟩
    · exact CH.mono (by rw [h_pushL _ _ _ (by simp; omega), h_setN _ _ _ _ (by omega), h_setN _ _ _ _ (by omega)]) (by rw [h_pushL _ _ _ (by simp; omega), h_setN _ _ _ _ (by omega), h_setN _ _ _ _ (by omega)])
    · first | omega | (simp; omega)
    · intro b q1 q2 q3
      rw [h_pushL _ _ _ (by simp; omega), h_setN _ _ _ _ (by omega), h_setN _ _ _ _ (by omega)]
      exact oldH b q1 q2 q3
  have t1 : ((sf : Int) = (E.f : Int)) = False := eq_false (by omega)
  refine gs2 @htH @t1 ?_; (try with_reducible exact trivial)
  refine del_some Tryz.underlying100 Tryz.underlying29 (by rw [h_pushL _ _ _ lmH]; exact hmH) hj e1o e2 ?_
  refine gs0 ?_; (try with_reducible exact trivial)
  obtain ⟨H3, e3⟩ : ∃ H3, H3 = (H.setIfInBounds m (.map (entA .u64 (fun e : CE => (e.pc : Int)) CE.v CE.born (es1.eraseIdx j)) n)).push (.cells #[.int .i64 E.i.op, .int .i64 E.i.rd, .int .i64 E.i.rs1, .int .i64 E.i.rs2, .int .i64 E.i.imm, .int .i64 E.i.order, .int .i64 E.i.size, .int .u64 E.f, .int .u64 E.l] 107) := ⟨_, rfl⟩
  rw [← e3]
  have o3 : ∀ b, b < h.size + 2 → b ≠ m → H3[b]? = H[b]? := fun b q1 q2 => by rw [e3, h_pushL _ _ _ (by simp; omega), h_setN _ _ _ _ q2]
  obtain ⟨es2, C3, ok3, kn⟩ : ∃ es2, CR H3 c m n (ptr s 0) es2 ∧ (∀ e ∈ es2, e.ok M) ∧ ∀ x ∈ es2, (x.pc : Int) ≠ a := ⟨es1.eraseIdx j, ⟨by rw [o3 c (by omega) hcm]; exact CH.top, by rw [e3, h_pushL _ _ _ (by simp; omega)]; exact h_setS _ _ _ lmH, hcm, Nat.le_trans (List.length_eraseIdx_le _ _) CH.le, CH.keys.sublist (List.eraseIdx_sublist _ _)⟩, fun x hx => ok1 x (List.mem_of_mem_eraseIdx hx), keys_gone CH.keys hj e1o⟩
  have z3 : H3.size = h.size + 3 := by rw [e3]; simp; omega
  rotate_left
  have t1 : ((sf : Int) = (E.f : Int)) = True := eq_true (by omega)
  have t2 : ((sl : Int) = (E.l : Int)) = False := eq_false (by omega)
  refine gs3 @htH @t1 @t2 ?_; (try with_reducible exact trivial)
  refine del_some Tryz.underlying100 Tryz.underlying29 (by rw [h_pushL _ _ _ lmH]; exact hmH) hj e1o e2 ?_
  refine gs0 ?_; (try with_reducible exact trivial)
  obtain ⟨H3, e3⟩ : ∃ H3, H3 = (H.setIfInBounds m (.map (entA .u64 (fun e : CE => (e.pc : Int)) CE.v CE.born (es1.eraseIdx j)) n)).push (.cells #[.int .i64 E.i.op, .int .i64 E.i.rd, .int .i64 E.i.rs1, .int .i64 E.i.rs2, .int .i64 E.i.imm, .int .i64 E.i.order, .int .i64 E.i.size, .int .u64 E.f, .int .u64 E.l] 107) := ⟨_, rfl⟩
  rw [← e3]
  have o3 : ∀ b, b < h.size + 2 → b ≠ m → H3[b]? = H[b]? := fun b q1 q2 => by rw [e3, h_pushL _ _ _ (by simp; omega), h_setN _ _ _ _ q2]
  obtain ⟨es2, C3, ok3, kn⟩ : ∃ es2, CR H3 c m n (ptr s 0) es2 ∧ (∀ e ∈ es2, e.ok M) ∧ ∀ x ∈ es2, (x.pc : Int) ≠ a := ⟨es1.eraseIdx j, ⟨by rw [o3 c (by omega) hcm]; exact CH.top, by rw [e3, h_pushL _ _ _ (by simp; omega)]; exact h_setS _ _ _ lmH, hcm, Nat.le_trans (List.length_eraseIdx_le _ _) CH.le, CH.keys.sublist (List.eraseIdx_sublist _ _)⟩, fun x hx => ok1 x (List.mem_of_mem_eraseIdx hx), keys_gone CH.keys hj e1o⟩
  have z3 : H3.size = h.size + 3 := by rw [e3]; simp; omega
  rotate_left
  refine obK.use _ (look_none Tryz.underlying100 Tryz.underlying29 ze107 hmH hn0 true) ?_
  refine gs1 @htH ?_; (try with_reducible exact trivial)
  obtain ⟨H3, e3⟩ : ∃ H3, H3 = H.push (.cells #[.int .i64 0, .int .i64 0, .int .i64 0, .int .i64 0, .int .i64 0, .int .i64 0, .int .i64 0, .int .u64 0, .int .u64 0] 107) := ⟨_, rfl⟩
  rw [← e3]
  have o3 : ∀ b, b < h.size + 2 → b ≠ m → H3[b]? = H[b]? := fun b q1 q2 => by rw [e3, h_pushL _ _ _ (by omega)]
  obtain ⟨es2, C3, ok3, kn⟩ : ∃ es2, CR H3 c m n (ptr s 0) es2 ∧ (∀ e ∈ es2, e.ok M) ∧ ∀ x ∈ es2, (x.pc : Int) ≠ a := ⟨es1, CH.mono (by rw [e3, h_pushL _ _ _ (by omega)]) (by rw [e3, h_pushL _ _ _ (by omega)]), ok1, hn0⟩
  have z3 : H3.size = h.size + 3 := by rw [e3]; simp; omega
  rotate_left
  have pe : ∀ x y, orE (binV Tryz.prog .neq 24 x y sp (ptr s 0)) (ptrC Tryz.prog ((h.push (.cells #[.int .i64 0, .int .i64 0, .int .i64 0, .int .i64 0, .int .i64 0, .int .i64 0, .int .i64 0] 47)).push (.cells #[.int .i64 0, .int .i64 0, .int .u64 0] 49)) .neq 24 sp (ptr s 0)) = some (.bool true) := fun x y => by
    rcases hsp with e | ⟨t, tc, te, e, htb⟩
    · rw [e, o_np]; exact ne_np x y s
    · have q : s ≠ t := fun q => qsp (by rw [e, q])
      have pe : ptrE Tryz.prog H0 24 (ptr t 0) (ptr s 0) = some false := ptrE_diff Tryz.underlying24 sz84 (by decide) (by rw [K0.old _ (getElem?_lt htb)]; exact htb) r0.top (Ne.symm q)
      rw [e0] at pe
      rw [e, o_ppn, pe]; rfl
  refine Fn_c Tryz.func26 mixed c26 (by kernel_rfl) ?_; rw [r26]
  refine gs2 @ht @pe ?_; (try with_reducible exact trivial)
  rw [← e0]
  refine FnK.use (cclear_c C0) ?_
  intro x h1 ⟨C1, z1, o1⟩
  have ht1 := C1.top
  have lc1 := getElem?_lt ht1
  refine gs1 @ht1 ?_; (try with_reducible exact trivial)
  obtain ⟨H, eH⟩ : ∃ H, H = h1.setIfInBounds c (.cells #[.bool true, .map (some m), ptr s 0] 102 (0, 0)) := ⟨_, rfl⟩
  rw [← eH]
  have oH : ∀ b, b ≠ c → b ≠ m → H[b]? = H0[b]? := fun b q1 q2 => by rw [eH, h_setN _ _ _ _ q1, o1 b q2]
  obtain ⟨es1, CH, ok1, hn0⟩ : ∃ es1, CR H c m n (ptr s 0) es1 ∧ (∀ e ∈ es1, e.ok M) ∧ ∀ x ∈ es1, (x.pc : Int) ≠ a := ⟨[], ⟨by rw [eH]; exact h_setS _ _ _ lc1, by rw [eH, h_setN _ _ _ _ hcm.symm]; exact C1.map, hcm, by simp, List.Pairwise.nil⟩, (fun e q => by cases q), (fun e q => by cases q)⟩
  have zH : H.size = h.size + 2 := by rw [eH]; simp; omega
  have htH := CH.top
  have hmH := CH.map
  have rH : MR H s M := r0.mono fun b f => oH b (fun q => hc (q ▸ f)) fun q => hm (q ▸ f)
  have b0H : H[h.size]? = some (.cells #[.int .i64 0, .int .i64 0, .int .i64 0, .int .i64 0, .int .i64 0, .int .i64 0, .int .i64 0] 47 (0, 0)) := by rw [oH _ (by omega) (by omega)]; exact b0
  have b1H : H[h.size + 1]? = some (.cells #[.int .i64 0, .int .i64 0, .int .u64 0] 49 (0, 0)) := by rw [oH _ (by omega) (by omega)]; exact b1
  have oldH : ∀ b, b < h.size → b ≠ c → b ≠ m → H[b]? = h[b]? := fun b hb q1 q2 => by rw [oH b q1 q2, K0.old b hb]
  have lmH : m < H.size := by omega
  refine obK.use _ (look_none Tryz.underlying100 Tryz.underlying29 ze107 hmH hn0 true) ?_
  refine gs1 @htH ?_; (try with_reducible exact trivial)
  obtain ⟨H3, e3⟩ : ∃ H3, H3 = H.push (.cells #[.int .i64 0, .int .i64 0, .int .i64 0, .int .i64 0, .int .i64 0, .int .i64 0, .int .i64 0, .int .u64 0, .int .u64 0] 107) := ⟨_, rfl⟩
  rw [← e3]
  have o3 : ∀ b, b < h.size + 2 → b ≠ m → H3[b]? = H[b]? := fun b q1 q2 => by rw [e3, h_pushL _ _ _ (by omega)]
  obtain ⟨es2, C3, ok3, kn⟩ : ∃ es2, CR H3 c m n (ptr s 0) es2 ∧ (∀ e ∈ es2, e.ok M) ∧ ∀ x ∈ es2, (x.pc : Int) ≠ a := ⟨es1, CH.mono (by rw [e3, h_pushL _ _ _ (by omega)]) (by rw [e3, h_pushL _ _ _ (by omega)]), ok1, hn0⟩
  have z3 : H3.size = h.size + 3 := by rw [e3]; simp; omega
  rotate_left
  all_goals
    have ht3 := C3.top
    have hm3 := C3.map
    have r3 : MR H3 s M := rH.mono fun b f => o3 b (by have := r.lt f; omega) fun q => hm (q ▸ f)
    have b03 : H3[h.size]? = some (.cells #[.int .i64 0, .int .i64 0, .int .i64 0, .int .i64 0, .int .i64 0, .int .i64 0, .int .i64 0] 47 (0, 0)) := by rw [o3 _ (by omega) (by omega)]; exact b0H
    have b13 : H3[h.size + 1]? = some (.cells #[.int .i64 0, .int .i64 0, .int .u64 0] 49 (0, 0)) := by rw [o3 _ (by omega) (by omega)]; exact b1H
    have old3 : ∀ b, b < h.size → b ≠ c → b ≠ m → H3[b]? = h[b]? := fun b hb q1 q2 => by rw [o3 b (by omega) q2, oldH b hb q1 q2]
    refine FnK.use (cread_c a r3 ha) ?_
    intro x h4 ⟨e4, K4⟩
    rw [e4]
    have k4 := readF_kind (rs := M.rs) (B := memAt M) (a := a)
    have k5 := readF_ok (rs := M.rs) (B := memAt M) (a := a) (i := (readF M.rs (memAt M) a).1) r.wf ha
    obtain ⟨R1, hR1⟩ : ∃ R1, R1 = (readF M.rs (memAt M) a).1 := ⟨_, rfl⟩
    obtain ⟨R2, hR2⟩ : ∃ R2, R2 = (readF M.rs (memAt M) a).2 := ⟨_, rfl⟩
    have hR : readF M.rs (memAt M) a = (R1, R2) := by rw [hR1, hR2]
    rw [hR] at k4 k5 ⊢
    have C4 := C3.mono (K4.old c (by omega)) (K4.old m (by omega))
    have b04 := K4.at b03 (by omega)
    have b14 := K4.at b13 (by omega)
    have l4 := K4.size
    have ht4 := C4.top
    have hm4 := C4.map
    have r4 := r3.ext K4
    have old4 : ∀ b, b < h.size → b ≠ c → b ≠ m → h4[b]? = h[b]? := fun b hb q1 q2 => by rw [K4.old b (by omega), old3 b hb q1 q2]
    by_cases qk : R2.kind = 0
    rotate_left
    · have tk : (R2.kind = 0) = False := eq_false qk
      refine gs5 @b04 @b14 InstR.v.eq_1 StopR.v.eq_1 @tk ?_; (try with_reducible exact trivial)
      try refine and_dup ?_
      refine ⟨n, es2, C4.mono (by repeat rw [h_setN _ _ _ _ (by omega)]) (by repeat rw [h_setN _ _ _ _ (by omega)]), ok3, by omega, fun b q1 q2 q3 => ?_⟩
      repeat rw [h_setN _ _ _ _ (by omega)]
      exact old4 b q1 q2 q3
    have eS := k4 qk
    subst eS
    obtain ⟨p1, p2, p3, _⟩ := k5 rfl
    have p2' : R1.size = 2 ∨ R1.size = 4 := p2
    have aE : a < 274877906944 := by omega
    clear p2 p3 k4 k5
    have lenE : ((entA .u64 (fun e : CE => (e.pc : Int)) CE.v CE.born es2).size : Int) = (es2.length : Int) := by simp [entA]
    obtain ⟨H5, e5⟩ : ∃ H5, H5 = (h4.setIfInBounds h.size (.cells #[.int .i64 R1.op, .int .i64 R1.rd, .int .i64 R1.rs1, .int .i64 R1.rs2, .int .i64 R1.imm, .int .i64 R1.order, .int .i64 R1.size] 47 (0, 0))).setIfInBounds (h.size + 1) (.cells #[.int .i64 0, .int .i64 0, .int .u64 0] 49 (0, 0)) := ⟨_, rfl⟩
    have o5 : ∀ b, b < h.size → H5[b]? = h4[b]? := fun b q => by rw [e5, h_setN _ _ _ _ (by omega), h_setN _ _ _ _ (by omega)]
    have b05 : H5[h.size]? = some (.cells #[.int .i64 R1.op, .int .i64 R1.rd, .int .i64 R1.rs1, .int .i64 R1.rs2, .int .i64 R1.imm, .int .i64 R1.order, .int .i64 R1.size] 47 (0, 0)) := by rw [e5, h_setN _ _ _ _ (by omega)]; exact h_setS _ _ _ (by omega)
    have b15 : H5[h.size + 1]? = some (.cells #[.int .i64 0, .int .i64 0, .int .u64 0] 49 (0, 0)) := by rw [e5]; exact h_setS _ _ _ (by simp; omega)
    have C5 := C4.mono (o5 c (by omega)) (o5 m (by omega))
    have z5 : H5.size = h4.size := by rw [e5]; simp
    by_cases ql : 4096 ≤ es2.length
    have dl : decide ((4096 : Int) ≤ (es2.length : Int)) = true := decide_eq_true (by omega)
    refine gs9 @b04 @b14 InstR.v.eq_1 StopR.v.eq_1 sOk.eq_1 @ht4 @hm4 @lenE @dl ?_; (try with_reducible exact trivial)
    rw [← e5]
    refine FnK.use (cclear_c C5) ?_
    intro x H6 ⟨C6, z6, o6⟩
    obtain ⟨es4, C7, ok7, kn7, le7⟩ : ∃ es4, CR H6 c m n (ptr s 0) es4 ∧ (∀ e ∈ es4, e.ok M) ∧ (∀ x ∈ es4, (x.pc : Int) ≠ a) ∧ es4.length < 4096 := ⟨[], C6, (fun e q => by cases q), (fun e q => by cases q), by simp⟩
    have ht6 := C7.top
    refine gs1 @ht6 ?_; (try with_reducible exact trivial)
    rotate_left
    have dl : decide ((4096 : Int) ≤ (es2.length : Int)) = false := decide_eq_false (by omega)
    refine gs9 @b04 @b14 InstR.v.eq_1 StopR.v.eq_1 sOk.eq_1 @ht4 @hm4 @lenE @dl ?_; (try with_reducible exact trivial)
    obtain ⟨H6, e6⟩ : ∃ H6, H6 = H5 := ⟨_, rfl⟩
    rw [← e5, ← e6]
    have o6 : ∀ b, b ≠ m → H6[b]? = H5[b]? := fun b _ => by rw [e6]
    have z6 : H6.size = H5.size := by rw [e6]
    obtain ⟨es4, C7, ok7, kn7, le7⟩ : ∃ es4, CR H6 c m n (ptr s 0) es4 ∧ (∀ e ∈ es4, e.ok M) ∧ (∀ x ∈ es4, (x.pc : Int) ≠ a) ∧ es4.length < 4096 := ⟨es2, by rw [e6]; exact C5, ok3, kn, by omega⟩
    rotate_left
  all_goals
    have ht6 := C7.top
    have hm6 := C7.map
    have b06 : H6[h.size]? = some (.cells #[.int .i64 R1.op, .int .i64 R1.rd, .int .i64 R1.rs1, .int .i64 R1.rs2, .int .i64 R1.imm, .int .i64 R1.order, .int .i64 R1.size] 47 (0, 0)) := by rw [o6 _ (by omega)]; exact b05
    have b16 : H6[h.size + 1]? = some (.cells #[.int .i64 0, .int .i64 0, .int .u64 0] 49 (0, 0)) := by rw [o6 _ (by omega)]; exact b15
    have r6 : MR H6 s M := r4.mono fun b f => by rw [o6 b (fun q => hm (q ▸ f)), o5 b (by have := r.lt f; omega)]
    try refine gs3 @b06 @b16 @ht6 ?_; (try with_reducible exact trivial)
    refine FnK.val (stamps_c a R1.size r6 aE p2') ?_
    refine gs3 @b06 @b16 @ht6 ?_; (try with_reducible exact trivial)
    refine mup_none Tryz.underlying100 Tryz.underlying29 hm6 kn7 ⟨a, R1, stampV M.D (a / 4096), stampV M.D (lastP a R1.size), n⟩ rfl ?_
    refine gs3 @b06 @b16 @ht6 ?_; (try with_reducible exact trivial)
    refine ⟨rfl, n + 1, es4 ++ [⟨a, R1, stampV M.D (a / 4096), stampV M.D (lastP a R1.size), n⟩], ⟨?_, ?_, hcm, by simp; omega, ?_⟩, ?_, by omega, ?_⟩
    · rw [h_setN _ _ _ _ (by omega), h_setN _ _ _ _ (by omega), h_setN _ _ _ _ hcm]; exact ht6
    · rw [h_setN _ _ _ _ (by omega), h_setN _ _ _ _ (by omega)]; exact h_setS _ _ _ (by omega)
    · exact List.pairwise_append.2 ⟨C7.keys, List.pairwise_singleton _ _, fun x hx y hy => by rw [List.mem_singleton.1 hy]; have := kn7 x hx; show x.pc ≠ a; omega⟩
    · intro e he
      rcases List.mem_append.1 he with z | z
      · exact ok7 e z
      · rw [List.mem_singleton.1 z]
        exact ⟨aE, p2', Nat.le_refl _, Nat.le_refl _, fun _ _ => hR⟩
    · intro b q1 q2 q3
      rw [h_setN _ _ _ _ (by omega), h_setN _ _ _ _ (by omega), h_setN _ _ _ _ q3, o6 b q3, o5 b q1, old4 b q1 q2 q3]
end Go.SX.G
