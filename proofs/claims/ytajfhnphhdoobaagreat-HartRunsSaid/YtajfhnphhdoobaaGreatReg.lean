/- Regions: what each function of the package does, over heaps. No condition but on sizes. Regions, the library's functions on their slices. No condition but on sizes. Regions: small functions, what looks for one. No condition but on sizes. Regions: what looks for one. No condition but on sizes. Regions: what the package's functions do. No condition but on sizes. Regions: Map, Unmap, Protect, Free, Room, All, Pages, Copy. No condition but on sizes. -/
import Derived.Test.YtajfhnphhdoobaaGreatGen
import Derived.Test.YtajfhnphhdoobaaGreatPlainA
import Derived.Test.YtajfhnphhdoobaaGreatSxP
set_option linter.unusedVariables false
set_option linter.unusedSimpArgs false
namespace Go.SX.G
open Go Go.SX Go.Proofs
set_option maxRecDepth 100000
set_option maxHeartbeats 1000000
theorem elR : ElT Tryz.prog 93 96 3 24 (.agg #[.int .u64 0, .int .u64 0, .int .i64 0]) := ⟨sl93, by96, by decide, ze96, rfl, by rw [Tryz.underlying93]; rfl⟩
theorem without_c {h : Heap} {v : Value} {rs : List Reg} (s e : Nat) (hv : Vs h v encR 3 rs) (hl : rs.length ≤ 1000000000) :
    Fn Tryz.prog 98 [v, .int .u64 s, .int .u64 e] h fun r h' => Ss h' h.size r 96 encR 3 (woL s e rs) ∧ Keeps h.size h h' := by
  obtain ⟨a, cap, e1, hcap⟩ := hv.shape
  subst e1
  refine Fn_c Tryz.func98 mixed c98 (by kernel_rfl) ?_; rw [r98]
  refine gs0 ?_; (try with_reducible exact trivial)
  refine LoopK.use (fun k fr h1 => ∃ i vo, i + k = rs.length ∧ Keeps h.size h h1 ∧ Ss h1 h.size vo 96 encR 3 (woL s e (rs.take i)) ∧
      fr = ((((((fr0.up 12 (.int .i64 i)).up 11 (.int .i64 rs.length)).up 10 (.slice a rs.length cap)).up 7 vo).up 2 (.int .u64 e)).up 1 (.int .u64 s))) rs.length ?_ ?_
  · exact ⟨0, _, by omega, Keeps.refl' , Ss.nil _ _ _, rfl⟩
  · intro k fr h1 hI
    obtain ⟨i, vo, hk, K1, S1, hf⟩ := hI
    subst hf
    by_cases hi : i < rs.length
    · obtain ⟨b, o, cap', e1, hcap', hb⟩ := hv.open hi
      cases e1
      obtain ⟨r, hr⟩ : ∃ r, r = rs[i] := ⟨_, rfl⟩
      have hE : cellsO (o + i * 3) 3 h[b]? = some [.int .u64 r.s, .int .u64 r.e, .int .i64 r.p] := by rw [hr]; exact hv.elem encR_len hi
      have hE' := K1.old b hb
      have hlt : decide ((i : Int) < rs.length) = true := decide_eq_true (by omega)
      have hsz := K1.size
      refine gs3 @hE' @hE @hlt ?_; (try with_reducible exact trivial)
      have hw : woL s e (rs.take (i + 1)) = woL s e (rs.take i) ++ wo1 s e r := by rw [take_snoc _ _ hi, woL_snoc, ← hr]
      have hl1 := woL_len s e (rs.take i)
      rw [List.length_take] at hl1
      have S0 := S1
      have S1 := Ss.push S1 (.cells #[.int .u64 r.s, .int .u64 r.e, .int .i64 r.p] 96)
      have K1 := K1.push' (o := .cells #[.int .u64 r.s, .int .u64 r.e, .int .i64 r.p] 96) (Nat.le_refl _)
      repeat' first | intro _ | refine And.intro ?_ ?_
      · refine app_push r elR encR_len S1 (by simp) rfl rfl (by omega) K1.1 ?_
        intro v' h' S' K' F' B'
        refine gs0 ?_; (try with_reducible exact trivial)
        have hw1 : wo1 s e r = [r] := by unfold wo1; grind
        rw [← hw1, ← hw] at S'
        exact ⟨k - 1, by omega, i + 1, v', by omega, K1.trans K', S', rfl⟩
      · refine app_push r elR encR_len S1 (by simp) rfl rfl (by omega) K1.1 ?_
        intro v' h' S' K' F' B'
        refine gs0 ?_; (try with_reducible exact trivial)
        have hw1 : wo1 s e r = [r] := by unfold wo1; grind
        rw [← hw1, ← hw] at S'
        exact ⟨k - 1, by omega, i + 1, v', by omega, K1.trans K', S', rfl⟩
      · refine app_push ⟨r.s, s, r.p⟩ elR encR_len S1 (by simp) rfl rfl (by omega) K1.1 ?_
        intro v' h' S' K' F' B'
        have hr1 : h'[h1.size]? = some (.cells #[.int .u64 r.s, .int .u64 r.e, .int .i64 r.p] 96) := by
          rw [F' _ (by simp) (fun e => by have := S0.blk e; omega)]; simp
        have hs2 := K'.size
        rw [Array.size_push] at hs2
        refine gs1 @hr1 ?_; (try with_reducible exact trivial)
        refine ⟨fun q => ?_, fun q => ?_⟩
        · refine app_push ⟨e, r.e, r.p⟩ elR encR_len S' rfl rfl rfl (by simp; omega) (by omega) ?_
          intro v2 h2 S2 K2 F2 B2
          refine gs0 ?_; (try with_reducible exact trivial)
          have hw1 : wo1 s e r = [⟨r.s, s, r.p⟩, ⟨e, r.e, r.p⟩] := by unfold wo1; grind
          rw [List.append_assoc, List.cons_append, List.nil_append, ← hw1, ← hw] at S2
          exact ⟨k - 1, by omega, i + 1, v2, by omega, (K1.trans K').trans K2, S2, rfl⟩
        · have hw1 : wo1 s e r = [⟨r.s, s, r.p⟩] := by unfold wo1; grind
          rw [← hw1, ← hw] at S'
          exact ⟨k - 1, by omega, i + 1, v', by omega, K1.trans K', S', rfl⟩
      · refine app_push ⟨e, r.e, r.p⟩ elR encR_len S1 (by simp) rfl rfl (by omega) K1.1 ?_
        intro v' h' S' K' F' B'
        refine gs0 ?_; (try with_reducible exact trivial)
        have hw1 : wo1 s e r = [⟨e, r.e, r.p⟩] := by unfold wo1; grind
        rw [← hw1, ← hw] at S'
        exact ⟨k - 1, by omega, i + 1, v', by omega, K1.trans K', S', rfl⟩
      · have hw1 : wo1 s e r = [] := by unfold wo1; grind
        rw [hw1, List.append_nil] at hw
        rw [← hw] at S1
        exact ⟨k - 1, by omega, i + 1, vo, by omega, K1, S1, rfl⟩
    · have e1 : i = rs.length := by omega
      subst e1
      rw [List.take_length] at S1
      refine gs0 ?_; (try with_reducible exact trivial)
      exact ⟨S1, K1⟩
theorem joined_c {h : Heap} {v : Value} {rs : List Reg} (hv : Vs h v encR 3 rs) (hl : rs.length ≤ 4000000000) :
    Fn Tryz.prog 122 [v] h fun r h' => Ss h' h.size r 96 encR 3 (joL rs) ∧ Keeps h.size h h' := by
  obtain ⟨a, cap, e1, hcap⟩ := hv.shape
  subst e1
  refine Fn_c Tryz.func122 mixed c122 (by kernel_rfl) ?_; rw [r122]
  refine gs0 ?_; (try with_reducible exact trivial)
  refine LoopK.use (fun k fr h1 => ∃ i vo, i + k = rs.length ∧ Keeps h.size h h1 ∧ Ss h1 h.size vo 96 encR 3 (joL (rs.take i)) ∧
      fr = ((((fr0.up 9 (.int .i64 i)).up 8 (.int .i64 rs.length)).up 7 (.slice a rs.length cap)).up 3 vo)) rs.length ?_ ?_
  · exact ⟨0, _, by omega, Keeps.refl' , Ss.nil _ _ _, rfl⟩
  · intro k fr h1 hI
    obtain ⟨i, vo, hk, K1, S1, hf⟩ := hI
    subst hf
    by_cases hi : i < rs.length
    · obtain ⟨b, o, cap', e1, hcap', hb⟩ := hv.open hi
      cases e1
      obtain ⟨r, hr⟩ : ∃ r, r = rs[i] := ⟨_, rfl⟩
      have hE : cellsO (o + i * 3) 3 h[b]? = some [.int .u64 r.s, .int .u64 r.e, .int .i64 r.p] := by rw [hr]; exact hv.elem encR_len hi
      have hE' := K1.old b hb
      have hlt : decide ((i : Int) < rs.length) = true := decide_eq_true (by omega)
      have hsz := K1.size
      have hw : joL (rs.take (i + 1)) = jo1 (joL (rs.take i)) r := by rw [take_snoc _ _ hi, joL_snoc, ← hr]
      have hl1 := joL_len (rs.take i)
      rw [List.length_take] at hl1
      have S0 := S1
      have S1 := Ss.push S1 (.cells #[.int .u64 r.s, .int .u64 r.e, .int .i64 r.p] 96)
      have K0 := K1
      have K1 := K1.push' (o := .cells #[.int .u64 r.s, .int .u64 r.e, .int .i64 r.p] 96) (Nat.le_refl _)
      obtain ⟨ao, co, e2, hco⟩ := S1.vs.shape
      rcases List.eq_nil_or_concat (joL (rs.take i)) with hn | ⟨out, q, hn⟩
      · rw [hn] at S1 S0 hw e2
        subst e2
        refine gs3 @hE' @hE @hlt ?_; (try with_reducible exact trivial)
        refine app_push r elR encR_len S1 (by simp) rfl rfl (by simp) K1.1 ?_
        intro v' h' S' K' F' B'
        refine gs0 ?_; (try with_reducible exact trivial)
        have hw1 : jo1 [] r = [r] := rfl
        rw [hw1] at hw
        rw [List.nil_append, ← hw] at S'
        exact ⟨k - 1, by omega, i + 1, v', by omega, K1.trans K', S', rfl⟩
      · rw [List.concat_eq_append] at hn
        rw [hn] at S1 S0 hw hl1
        have hln : (out ++ [q]).length = out.length + 1 := by simp
        obtain ⟨b2, cap2, e3, hcap2, hlo2, hb2⟩ := S0.open (i := out.length) (by omega)
        rw [hln] at e3 hl1 hcap2
        subst e3
        have hq : (out ++ [q])[out.length]'(by omega) = q := by simp
        have hQ0 := S0.vs.field encR_len (i := out.length) (j := 0) (by omega) (by omega)
        have hQ1 := S0.vs.field encR_len (i := out.length) (j := 1) (by omega) (by omega)
        have hQ2 := S0.vs.field encR_len (i := out.length) (j := 2) (by omega) (by omega)
        rw [hq] at hQ0 hQ1 hQ2
        have hQ1 : cellO (out.length * 3 + 1) h1[b2]? = some (.int .u64 q.e) := by simpa [encR] using hQ1
        have hQ2 : cellO (out.length * 3 + 2) h1[b2]? = some (.int .i64 q.p) := by simpa [encR] using hQ2
        have e4 : (((out.length + 1 : Nat) : Int) - 1) = (out.length : Int) := by omega
        have e5 : ((out.length : Int) < ((out.length + 1 : Nat) : Int)) = True := eq_true (by omega)
        have e6 : ((0 : Int) < ((out.length + 1 : Nat) : Int)) = True := eq_true (by omega)
        refine gs8 @hE' @hE @hlt @hQ1 @hQ2 @e4 @e5 @e6 ?_; (try with_reducible exact trivial)
        have hap : ∀ {K : Value → Heap → Prop}, jo1 (out ++ [q]) r = out ++ [q] ++ [r] → (∀ v' h', Ss h' h.size v' 96 encR 3 (joL (rs.take (i + 1))) → Keeps h.size h h' → K v' h') →
            @appK Tryz.prog ((h1.push (.cells #[.int .u64 r.s, .int .u64 r.e, .int .i64 r.p] 96)).push (.cells #[.int .u64 r.s, .int .u64 r.e, .int .i64 r.p] 96)) 93 93
              (.slice (some ⟨b2, 0, none⟩) (out.length + 1) cap2) (.slice (some ⟨h1.size + 1, 0, none⟩) 1 1) ⟨K⟩ := by
          intro K hj hk
          refine app_push r elR encR_len S1 (by simp) rfl rfl (by omega) K1.1 ?_
          intro v' h' S' K' F' B'
          rw [← hj, ← hw] at S'
          exact hk v' h' S' (K1.trans K')
        refine ⟨fun q1 => ⟨fun q2 => ?_, fun q2 => ?_⟩, fun q1 => ?_⟩
        · obtain ⟨h', hw', S', sz', K', F'⟩ := S1.store encR_len (i := out.length) (j := 1) (vs := [.int .u64 r.e]) ⟨q.s, r.e, q.p⟩ (by omega) (by simp) (by rw [hq]; rfl) rfl
          rw [h_pushL _ _ _ hb2, Nat.zero_add] at hw'
          refine obK.use _ hw' ?_
          refine gs0 ?_; (try with_reducible exact trivial)
          have hj : jo1 (out ++ [q]) r = (out ++ [q]).set out.length ⟨q.s, r.e, q.p⟩ := by
            have w1 : q.e = r.s := by omega
            have w2 : q.p = r.p := by omega
            simp [jo1, w1, w2]
          rw [← hj, ← hw] at S'
          exact ⟨k - 1, by omega, i + 1, _, by omega, K1.trans K', S', rfl⟩
        · refine hap (by have w2 : ¬ q.p = r.p := by omega
                         simp [jo1, w2]) ?_
          intro v' h' S' K'
          refine gs0 ?_; (try with_reducible exact trivial)
          exact ⟨k - 1, by omega, i + 1, _, by omega, K', S', rfl⟩
        · refine hap (by have w2 : ¬ q.e = r.s := by omega
                         simp [jo1, w2]) ?_
          intro v' h' S' K'
          refine gs0 ?_; (try with_reducible exact trivial)
          exact ⟨k - 1, by omega, i + 1, _, by omega, K', S', rfl⟩
    · have e1 : i = rs.length := by omega
      subst e1
      rw [List.take_length] at S1
      refine gs0 ?_; (try with_reducible exact trivial)
      exact ⟨S1, K1⟩
end Go.SX.G
namespace Go.SX.G
open Go Go.SX Go.Proofs
set_option maxRecDepth 100000
set_option maxHeartbeats 1000000
theorem insert_c {h : Heap} {lo bw : Nat} {v : Value} {rs : List Reg} {r : Reg} {i : Nat} (hv : Ss h lo v 96 encR 3 rs) (hlo : lo ≤ h.size) (hw : h[bw]? = some (.cells #[.int .u64 r.s, .int .u64 r.e, .int .i64 r.p] 96 (0, 0))) (hne : blk v ≠ some bw)
    (hi : i ≤ rs.length) (hl : rs.length ≤ 4000000000) :
    Fn Tryz.prog 124 [v, .int .i64 i, .slice (some ⟨bw, 0, none⟩) 1 1] h fun x h' => Ss h' lo x 96 encR 3 (rs.take i ++ [r] ++ rs.drop i) ∧ Keeps lo h h' := by
  obtain ⟨a, cap, e1, hcap⟩ := hv.vs.shape
  subst e1
  have hbw := getElem?_lt hw
  refine Fn_c Tryz.func124 mixed c124 (by kernel_rfl) ?_; rw [r124]
  by_cases hin : i = rs.length
  · subst hin
    refine gs0 ?_; (try with_reducible exact trivial)
    refine app_one (x := r) elR encR_len hv hw rfl rfl (by omega) hlo ?_
    intro v' h' S' K' F' B'
    refine gs0 ?_; (try with_reducible exact trivial)
    refine ⟨?_, K'⟩
    rw [List.take_length, List.drop_length, List.append_nil]
    exact S'
  · have hin' : i < rs.length := by omega
    obtain ⟨b, cap', e1, hcap', hlb, hb⟩ := hv.open hin'
    cases e1
    have hd1 : ((i : Int) = rs.length) = False := eq_false (by omega)
    by_cases hroom : cap < rs.length + 1
    · have hd2 : ((cap : Int) < rs.length + 1) = True := eq_true (by omega)
      refine gs2 @hd1 @hd2 ?_; (try with_reducible exact trivial)
      refine app_make (old := flat encR (rs.take i)) elR (by rw [Tryz.underlying3]; rfl) (by omega) (by omega) ?_ (by omega) ?_
      · have := hv.vs.src (k := i) hi
        rw [flat_take encR_len] at this
        simpa [srcCells] using this
      · intro cap2 hcap2
        have ec : i + ((rs.length : Int) + 1 - i).toNat = rs.length + 1 := by omega
        rw [ec]
        refine gs0 ?_; (try with_reducible exact trivial)
        have hdl : (flat encR (rs.drop i)).length = (rs.length - i) * 3 := by rw [flat_len encR_len, List.length_drop]
        have htl : (flat encR (rs.take i)).length = i * 3 := by rw [flat_len encR_len, List.length_take, Nat.min_eq_left hi]
        have hzl := zeros_len (z := .agg #[.int .u64 0, .int .u64 0, .int .i64 0]) (size := 3) rfl (cap2 - i)
        refine copy_into (cs := encR r) sl93 rfl rfl ?_ (h_pushE _ _ _ rfl) rfl ?_ ?_
        · have e1 : min 1 (rs.length + 1 - i) = 1 := by omega
          rw [e1]
          simp only [srcCells, cells?]
          rw [h_pushL _ _ _ hbw, hw]; rfl
        · simp only [List.size_toArray, List.length_append]; rw [htl, hzl, encR_len]; omega
        refine gs0 ?_; (try with_reducible exact trivial)
        refine copy_into (cs := flat encR (rs.drop i)) sl93 rfl rfl ?_ (h_pushE _ _ _ rfl) ?_ ?_ ?_
        · have e1 : min (rs.length - i) (rs.length + 1 - (i + 1)) = rs.length - i := by omega
          rw [e1]
          have := hv.vs.srcDrop (i := i) hi (rs.length) cap
          rw [flat_drop encR_len, Nat.zero_add] at this
          simpa [srcCells, cells?, h_pushL _ _ _ hb, h_setPE] using this
        · exact flat_all encR_one _
        · simp only [List.size_toArray, setL_len, List.length_append]; rw [htl, hzl, hdl]; omega
        refine gs0 ?_; (try with_reducible exact trivial)
        refine ⟨?_, Keeps.push _ _ hlo⟩
        have hl2 : (rs.take i ++ [r] ++ rs.drop i).length = rs.length + 1 := by simp; omega
        have hz := ins_new (flat encR (rs.take i)) (flat encR (rs.drop i)) (zeros (.agg #[.int .u64 0, .int .u64 0, .int .i64 0]) (cap2 - i)) (encR r) (by rw [hdl, hzl, encR_len]; omega)
        rw [htl, encR_len] at hz
        rw [Nat.add_mul, Nat.one_mul, hz]
        refine Ss.mk encR_len _ (h_pushE _ _ _ rfl) (by rw [flat_app, flat_app]; congr 1) (by rw [hl2]) (by omega) ?_ hlo
        simp only [List.length_append, List.length_drop, hzl, hdl, htl, encR_len]; omega
    · have hd2 : ((cap : Int) < rs.length + 1) = False := eq_false (by omega)
      refine gs2 @hd1 @hd2 ?_; (try with_reducible exact trivial)
      have hroom' : rs.length + 1 ≤ cap := by omega
      rcases hv.2 with ⟨h0, _⟩ | ⟨b', cap', hv', hc', hlb', rest, hB, hr⟩
      · cases h0
      cases hv'
      have hr2 := hr
      rw [flat_len encR_len] at hr2
      refine FnK.val (overlaps_Fn Tryz.func145 (by kernel_rfl) (by kernel_rfl) (by kernel_rfl) (tS := 93) (tR := 4) (by kernel_rfl) Tryz.underlying93 sz96 (fun e => hne (by rw [e]; rfl)) hw hB ?_) ?_
      · simp [flat_len encR_len]; omega
      refine gs0 ?_; (try with_reducible exact trivial)
      refine copy_into (cs := flat encR (rs.drop i)) sl93 rfl rfl ?_ hB ?_ ?_ ?_
      · have e1 : min (rs.length + 1 - i) (rs.length + 1 - (i + 1)) = rs.length - i := by omega
        rw [e1]
        have := hv.vs.srcDrop (i := i) hi (rs.length + 1 - i) (cap - i)
        rw [flat_drop encR_len, Nat.zero_add] at this
        exact this
      · exact flat_all encR_one _
      · simp only [List.size_toArray, List.length_append, flat_len encR_len, List.length_drop]; omega
      refine gs0 ?_; (try with_reducible exact trivial)
      have hbs : (h.setIfInBounds b (.cells (setL (flat encR rs ++ rest) ((i + 1) * 3) (flat encR (rs.drop i))).toArray 96))[b]? = some (.cells (setL (flat encR rs ++ rest) ((i + 1) * 3) (flat encR (rs.drop i))).toArray 96 (0, 0)) := h_setS _ _ _ hb
      refine copy_into (cs := encR r) sl93 rfl rfl ?_ hbs rfl ?_ ?_
      · have e1 : min 1 (rs.length + 1 - i) = 1 := by omega
        rw [e1]
        simp only [srcCells, cells?]
        rw [h_setN _ _ _ _ (fun e => hne (by rw [e]; rfl)), hw]; rfl
      · simp only [List.size_toArray, setL_len, List.length_append, flat_len encR_len, encR_len]; omega
      refine gs0 ?_; (try with_reducible exact trivial)
      refine ⟨?_, Keeps.set _ hlb⟩
      have hdl : (flat encR (rs.drop i)).length = (rs.length - i) * 3 := by rw [flat_len encR_len, List.length_drop]
      have htl : (flat encR (rs.take i)).length = i * 3 := by rw [flat_len encR_len, List.length_take, Nat.min_eq_left hi]
      have hal : (flat encR rs).length = rs.length * 3 := flat_len encR_len rs
      have hz := ins_room (flat encR (rs.take i)) (flat encR (rs.drop i)) rest (encR r) (by rw [encR_len]; omega)
      rw [htl, encR_len, ← flat_app, List.take_append_drop] at hz
      rw [Nat.add_mul, Nat.one_mul, hz]
      refine Ss.mk encR_len _ (h_setS _ _ _ hb) (by rw [flat_app, flat_app]; congr 1) (by simp; omega) (by omega) ?_ hlb
      simp only [List.length_append, List.length_drop, hdl, htl, encR_len]; omega
end Go.SX.G
namespace Go.SX.G
open Go Go.SX Go.Proofs
set_option maxRecDepth 100000
set_option maxHeartbeats 1000000
/-- a list of regions at a block; 'bl': where its slice lies. -/
def LR (h : Heap) (l : Nat) (bl : Option Nat) (rs : List Reg) : Prop := ∃ v, h[l]? = some (.cells #[v] 135 (0, 0)) ∧ blk v = bl ∧ Vs h v encR 3 rs
theorem LR.lt {h : Heap} {l : Nat} {bl : Option Nat} {rs : List Reg} (k : LR h l bl rs) : l < h.size := by obtain ⟨v, h1, _⟩ := k; exact getElem?_lt h1
theorem LR.blt {h : Heap} {l b : Nat} {bl : Option Nat} {rs : List Reg} (k : LR h l bl rs) (e : bl = some b) : b < h.size := by obtain ⟨v, h1, h2, h3⟩ := k; exact h3.blk_lt (h2.trans e)
theorem LR.mono {h h' : Heap} {l : Nat} {bl : Option Nat} {rs : List Reg} (k : LR h l bl rs) (h1 : h'[l]? = h[l]?) (h2 : ∀ b, bl = some b → h'[b]? = h[b]?) : LR h' l bl rs := by
  obtain ⟨v, e1, e2, e3⟩ := k
  exact ⟨v, h1.trans e1, e2, e3.mono fun b hb => h2 b (e2.symm.trans hb)⟩
theorem LR.ext {h h' : Heap} {l : Nat} {bl : Option Nat} {rs : List Reg} (k : LR h l bl rs) (q : Keeps h.size h h') : LR h' l bl rs := k.mono (q.old _ k.lt) fun b e => q.old _ (k.blt e)
/-- what an operation that sets a list's regions comes to. -/
inductive Took (h h' : Heap) (l : Nat) (x : Value) (rs : List Reg) : Prop
  | no (n : 256 < rs.length) (e : x = .int .i64 12) (k : Keeps h.size h h')
  | yes (n : rs.length ≤ 256) (e : x = .int .i64 0) (bl : Option Nat) (r : LR h' l bl rs) (fresh : ∀ b, bl = some b → h.size ≤ b) (size : h.size ≤ h'.size) (old : ∀ b, b < h.size → b ≠ l → h'[b]? = h[b]?)
theorem rnew_c (h : Heap) : Fn Tryz.prog 39 [] h fun v h' => v = ptr h.size 0 ∧ h' = h.push (.cells #[.slice none 0 0] 135 (0, 0)) := by
  refine Fn_c Tryz.func39 mixed c39 (by kernel_rfl) ?_; rw [r39]
  refine gs0 ?_; (try with_reducible exact trivial)
theorem span_c (h : Heap) (s e : Nat) : Fn Tryz.prog 90 [.int .u64 s, .int .u64 e] h fun v h' => v = .bool (spanB s e) ∧ h' = h := by
  refine Fn_c Tryz.func90 mixed c90 (by kernel_rfl) ?_; rw [r90]
  refine gs0 ?_; (try with_reducible exact trivial)
  unfold spanB
  repeat' first | intro _ | refine And.intro ?_ ?_
  all_goals first | rfl | (congr 1; symm; first | (apply decide_eq_true; omega) | (apply decide_eq_false; omega) | (congr 1; apply propext; omega))
theorem prots_c (h : Heap) (p : Int) : Fn Tryz.prog 91 [.int .i64 p] h fun v h' => v = .bool (decide (0 ≤ p ∧ p ≤ 7)) ∧ h' = h := by
  refine Fn_c Tryz.func91 mixed c91 (by kernel_rfl) ?_; rw [r91]
  refine gs0 ?_; (try with_reducible exact trivial)
  repeat' first | intro _ | refine And.intro ?_ ?_
  all_goals first | rfl | (congr 1; symm; first | (apply decide_eq_true; omega) | (apply decide_eq_false; omega) | (congr 1; apply propext; omega))
theorem clone_c {h : Heap} {v : Value} {rs : List Reg} (hv : Vs h v encR 3 rs) (hl : rs.length ≤ 4000000000) :
    Fn Tryz.prog 120 [v] h fun x h' => Vs h' x encR 3 rs ∧ (∀ b, blk x = some b → h.size ≤ b) ∧ Keeps h.size h h' := by
  rcases hv.2 with ⟨e1, h0⟩ | ⟨b, o, cap, c, e, f, e1, hc, hB, hr, hL⟩
  · subst e1
    refine Fn_c Tryz.func120 mixed c120 (by kernel_rfl) ?_; rw [r120]
    refine gs0 ?_; (try with_reducible exact trivial)
    exact ⟨hv, fun b hb => (by cases hb), Keeps.refl'⟩
  · subst e1
    refine Fn_c Tryz.func120 mixed c120 (by kernel_rfl) ?_; rw [r120]
    refine gs0 ?_; (try with_reducible exact trivial)
    have hs : Vs (h.push (.cells #[] 96)) (.slice (some ⟨b, o, none⟩) rs.length cap) encR 3 rs := hv.ext (Keeps.push _ _ (Nat.le_refl _))
    refine app_sl (L := []) (m := 0) (n := rs.length) (lo := h.size) (new := flat encR rs) elR ⟨rfl, .inr ⟨h.size, 0, rfl, Nat.le_refl _, Nat.le_refl _, [], h_pushE _ _ _ rfl, Nat.le_refl _⟩⟩ rfl ?_ (flat_len encR_len rs) (flat_all encR_one rs) (by omega) rfl (by simp) ?_
    · have := Vw.srcAll hs
      exact this
    · intro v' h' hs' hg
      refine gs0 ?_; (try with_reducible exact trivial)
      rw [Nat.zero_add, List.nil_append] at hs'
      refine ⟨hs'.vw, fun b' hb' => ?_, (Keeps.push _ _ (Nat.le_refl _)).trans (hg.keeps (lo := h.size) (fun b hb => ?_) (by simp))⟩
      · exact (hs'.blk_lt hb').1
      · simp [blk] at hb; omega
theorem take_c {h : Heap} {l : Nat} {bl0 : Option Nat} {v : Value} {rs rs0 : List Reg} (hl : LR h l bl0 rs0) (hv : Vs h v encR 3 rs) (hn : rs.length ≤ 4000000000) :
    Fn Tryz.prog 93 [ptr l 0, v] h fun x h' => Took h h' l x (joL rs) := by
  obtain ⟨v0, hl0, _⟩ := hl
  have hlt := getElem?_lt hl0
  refine Fn_c Tryz.func93 mixed c93 (by kernel_rfl) ?_; rw [r93]
  refine gs0 ?_; (try with_reducible exact trivial)
  refine FnK.use (joined_c hv hn) ?_
  intro v1 h1 ⟨S1, K1⟩
  obtain ⟨a, cap, e1, hcap⟩ := S1.vs.shape
  subst e1
  have hl1 := K1.at hl0 hlt
  have hlt1 := getElem?_lt hl1
  refine gs1 @hl1 ?_; (try with_reducible exact trivial)
  refine ⟨fun q => ?_, fun q => ?_⟩
  · exact .no (by omega) rfl K1
  · refine .yes (by omega) rfl _ ⟨_, h_setS _ _ _ hlt1, rfl, ?_⟩ (fun b hb => (S1.blk hb).1) (by simp; exact K1.size) fun b hb hne => ?_
    · refine S1.vs.mono fun b hb => ?_
      have := S1.blk hb
      exact h_setN _ _ _ _ (by omega)
    · rw [h_setN _ _ _ _ hne, K1.old b hb]
end Go.SX.G
namespace Go.SX.G
open Go Go.SX Go.Proofs
set_option maxRecDepth 100000
set_option maxHeartbeats 1000000
theorem indexFunc_c {h : Heap} {v : Value} {rs : List Reg} {g : Nat} {cap : Array Value} (p : Reg → Bool) (hv : Vs h v encR 3 rs) (hl : rs.length ≤ 4000000000)
    (hg : ∀ r ∈ rs, ∀ h1, Keeps h.size h h1 → Fn Tryz.prog g ([.agg #[.int .u64 r.s, .int .u64 r.e, .int .i64 r.p]] ++ cap.toList) h1 fun x h' => x = .bool (p r) ∧ Keeps h1.size h1 h') :
    Fn Tryz.prog 81 [v, .func (.func g) #[] cap] h fun x h' => x = .int .i64 (idxOf p rs) ∧ Keeps h.size h h' := by
  obtain ⟨a, cap', e1, hcap⟩ := hv.shape
  subst e1
  refine Fn_c Tryz.func81 mixed c81 (by kernel_rfl) ?_; rw [r81]
  refine gs0 ?_; (try with_reducible exact trivial)
  refine LoopK.use (fun k fr h1 => ∃ i, i + k = rs.length ∧ Keeps h.size h h1 ∧ (∀ j (hj : j < rs.length), j < i → p rs[j] = false) ∧
      fr = ((((fr0.up 8 (.int .i64 i)).up 7 (.int .i64 rs.length)).up 1 (.func (.func g) #[] cap)).up 0 (.slice a rs.length cap'))) rs.length ?_ ?_
  · exact ⟨0, by omega, Keeps.refl' , fun j _ h => by omega, rfl⟩
  · intro k fr h1 hI
    obtain ⟨i, hk, K1, hb, hf⟩ := hI
    subst hf
    by_cases hi : i < rs.length
    · obtain ⟨b, o, cap2, e1, hcap2, hbl⟩ := hv.open hi
      cases e1
      obtain ⟨r, hr⟩ : ∃ r, r = rs[i] := ⟨_, rfl⟩
      have hE : cellsO (o + i * 3) 3 h[b]? = some [.int .u64 r.s, .int .u64 r.e, .int .i64 r.p] := by rw [hr]; exact hv.elem encR_len hi
      have hE' := K1.old b hbl
      have hlt : decide ((i : Int) < rs.length) = true := decide_eq_true (by omega)
      have hgr := hg r (by rw [hr]; exact List.getElem_mem hi) h1 K1
      refine gs3 @hE' @hE @hlt ?_; (try with_reducible exact trivial)
      refine FnK.use hgr ?_
      intro x h2 hx
      obtain ⟨e1, K2⟩ := hx
      rw [e1]
      have K3 := K1.of_ext K2 (Nat.le_refl _)
      cases hp : p r with
      | true =>
        refine gs0 ?_; (try with_reducible exact trivial)
        rw [hr] at hp
        rw [idxOf_hit hi hp fun j hj => hb j (by omega) hj]
        exact ⟨rfl, K3⟩
      | false =>
        refine gs0 ?_; (try with_reducible exact trivial)
        rw [hr] at hp
        refine ⟨k - 1, by omega, i + 1, by omega, K3, fun j hj hji => ?_, rfl⟩
        by_cases hji' : j = i
        · subst hji'; exact hp
        · exact hb j hj (by omega)
    · have e1 : i = rs.length := by omega
      subst e1
      refine gs0 ?_; (try with_reducible exact trivial)
      rw [idxOf_none fun j hj => hb j hj hj]
      exact ⟨rfl, K1⟩
theorem at1_c {h : Heap} {bc a : Nat} {f : Nat × Nat} {t : Nat} (r : Reg) (hb : h[bc]? = some (.cells #[.int .u64 a] t f)) :
    Fn Tryz.prog 82 [.agg #[.int .u64 r.s, .int .u64 r.e, .int .i64 r.p], ptr bc 0] h fun x h' => x = .bool (inR a r) ∧ Keeps h.size h h' := by
  have hlt := getElem?_lt hb
  have kp : ∀ o, Keeps h.size h (h.push o) := fun o => Keeps.push h o (Nat.le_refl _)
  refine Fn_c Tryz.func82 mixed c82 (by kernel_rfl) ?_; rw [r82]
  refine gs1 @hb ?_; (try with_reducible exact trivial)
  unfold inR
  repeat' first | intro _ | refine And.intro ?_ ?_
  all_goals first | exact kp _ | (congr 1; symm; first | (apply decide_eq_true; omega) | (apply decide_eq_false; omega) | (congr 1; apply propext; omega))
theorem at_c {h : Heap} {l : Nat} {bl : Option Nat} {rs : List Reg} (a : Nat) (hl : LR h l bl rs) (hn : rs.length ≤ 4000000000) :
    Fn Tryz.prog 46 [ptr l 0, .int .u64 a] h fun x h' => x = atV (atL rs a) ∧ Keeps h.size h h' := by
  obtain ⟨v, hl0, _, hv⟩ := hl
  have hlt := getElem?_lt hl0
  refine Fn_c Tryz.func46 mixed c46 (by kernel_rfl) ?_; rw [r46]
  refine gs1 @hl0 ?_; (try with_reducible exact trivial)
  have K1 : Keeps h.size h ((h.push (.cells #[.int .u64 a] 29)).push (.cells #[.int .u64 0, .int .u64 0, .int .i64 0] 96)) := (Keeps.push' (Keeps.push _ _ (Nat.le_refl _)) (Nat.le_refl _))
  refine FnK.use (indexFunc_c (inR a) (hv.ext K1) hn ?_) ?_
  · intro r hr h1 K2
    refine at1_c (t := 29) (f := (0, 0)) r ?_
    rw [K2.old _ (by simp; omega)]
    refine gs0 ?_; (try with_reducible exact trivial)
  · intro x h2 hx
    obtain ⟨e1, K2⟩ := hx
    rw [e1]
    have K3 := K1.trans (K2.le (by simp; omega))
    have hl2 := K3.at hl0 hlt
    have hz2 : h2[h.size + 1]? = some (.cells #[.int .u64 0, .int .u64 0, .int .i64 0] 96 (0, 0)) := by
      rw [K2.old _ (by simp)]; refine gs0 ?_; (try with_reducible exact trivial)
    have hzlt := getElem?_lt hz2
    by_cases hneg : idxOf (inR a) rs < 0
    · have hd : decide (idxOf (inR a) rs < 0) = true := decide_eq_true hneg
      refine gs2 @hd @hz2 ?_; (try with_reducible exact trivial)
      unfold atL
      rw [idxOf_neg hneg]
      exact ⟨rfl, K3.set' (by omega)⟩
    · have hd : decide (idxOf (inR a) rs < 0) = false := decide_eq_false hneg
      obtain ⟨i, hi'⟩ := Int.eq_ofNat_of_zero_le (show 0 ≤ idxOf (inR a) rs by omega)
      obtain ⟨hi, hf⟩ := idxOf_get hi'
      rw [hi'] at hd ⊢
      have hv2 := hv.keeps K3 fun b hb => hv.blk_lt hb
      obtain ⟨b, o, cap2, e2, hcap2, hbl⟩ := hv.open hi
      subst e2
      have hE : cellsO (o + i * 3) 3 h2[b]? = some [.int .u64 rs[i].s, .int .u64 rs[i].e, .int .i64 rs[i].p] := hv2.elem encR_len hi
      refine gs4 @hd @hz2 @hl2 @hE ?_; (try with_reducible exact trivial)
      unfold atL
      rw [hf]
      exact ⟨rfl, K3.set' (by omega)⟩
end Go.SX.G
namespace Go.SX.G
open Go Go.SX Go.Proofs
set_option maxRecDepth 100000
set_option maxHeartbeats 1000000
theorem with1_c {h : Heap} {bc : Nat} {f : Nat × Nat} {t : Nat} (q r : Reg) (hb : h[bc]? = some (.cells #[.int .u64 r.s, .int .u64 r.e, .int .i64 r.p] t f)) :
    Fn Tryz.prog 123 [.agg #[.int .u64 q.s, .int .u64 q.e, .int .i64 q.p], ptr bc 0] h fun x h' => x = .bool (decide (r.s < q.s)) ∧ Keeps h.size h h' := by
  have hlt := getElem?_lt hb
  have kp : ∀ o, Keeps h.size h (h.push o) := fun o => Keeps.push h o (Nat.le_refl _)
  refine Fn_c Tryz.func123 mixed c123 (by kernel_rfl) ?_; rw [r123]
  refine gs1 @hb ?_; (try with_reducible exact trivial)
  refine ⟨?_, kp _⟩
  congr 2; apply propext; omega
theorem free1_c {h : Heap} {b1 b2 s e : Nat} {f1 f2 : Nat × Nat} {t1 t2 : Nat} (q : Reg) (hb1 : h[b1]? = some (.cells #[.int .u64 e] t1 f1)) (hb2 : h[b2]? = some (.cells #[.int .u64 s] t2 f2)) :
    Fn Tryz.prog 119 [.agg #[.int .u64 q.s, .int .u64 q.e, .int .i64 q.p], ptr b1 0, ptr b2 0] h fun x h' => x = .bool (decide (q.s < e ∧ s < q.e)) ∧ Keeps h.size h h' := by
  have hlt1 := getElem?_lt hb1
  have hlt2 := getElem?_lt hb2
  have kp : ∀ o, Keeps h.size h (h.push o) := fun o => Keeps.push h o (Nat.le_refl _)
  refine Fn_c Tryz.func119 mixed c119 (by kernel_rfl) ?_; rw [r119]
  refine gs2 @hb1 @hb2 ?_; (try with_reducible exact trivial)
  repeat' first | intro _ | refine And.intro ?_ ?_
  all_goals first | exact kp _ | (congr 1; symm; first | (apply decide_eq_true; omega) | (apply decide_eq_false; omega) | (congr 1; apply propext; omega))
theorem with_c {h : Heap} {v : Value} {rs : List Reg} (r : Reg) (hv : Vs h v encR 3 rs) (hn : rs.length ≤ 1000000000) :
    Fn Tryz.prog 94 [v, .agg #[.int .u64 r.s, .int .u64 r.e, .int .i64 r.p]] h fun x h' => Ss h' h.size x 96 encR 3 (wiL rs r) ∧ Keeps h.size h h' := by
  have K0 : Keeps h.size h (h.push (.cells #[.int .u64 r.s, .int .u64 r.e, .int .i64 r.p] 96)) := Keeps.push h _ (Nat.le_refl _)
  refine Fn_c Tryz.func94 mixed c94 (by kernel_rfl) ?_; rw [r94]
  refine gs0 ?_; (try with_reducible exact trivial)
  refine FnK.use (without_c r.s r.e (hv.ext K0) hn) ?_
  intro v1 h1 ⟨S1, K1⟩
  have hwl := woL_len r.s r.e rs
  have hbx : h1[h.size]? = some (.cells #[.int .u64 r.s, .int .u64 r.e, .int .i64 r.p] 96 (0, 0)) := by rw [K1.old _ (by simp)]; refine gs0 ?_; (try with_reducible exact trivial)
  refine gs0 ?_; (try with_reducible exact trivial)
  refine FnK.use (indexFunc_c (fun q => decide (r.s < q.s)) S1.vs (by omega) ?_) ?_
  · intro q hq h2 K2
    exact with1_c (t := 96) (f := (0, 0)) q r (K2.at hbx (getElem?_lt hbx))
  intro x h2 hx
  obtain ⟨e1, K2⟩ := hx
  have K3 : Keeps (h.size + 1) (h.push (.cells #[.int .u64 r.s, .int .u64 r.e, .int .i64 r.p] 96)) h2 := by
    have := K1.trans (K2.le K1.1)
    rwa [Array.size_push] at this
  have hbx2 := K2.at hbx (getElem?_lt hbx)
  have S2 := S1.ext K2
  have hlt2 := getElem?_lt hbx2
  have fin : ∀ {K : Value → Heap → Prop}, (∀ x h', (Ss h' h.size x 96 encR 3 (wiL rs r) ∧ Keeps h.size h h') → K x h') →
      @FnK Tryz.prog 124 [v1, .int .i64 ((insAt (woL r.s r.e rs) r : Nat) : Int), .slice (some ⟨h2.size, 0, none⟩) 1 1] (h2.push (.cells #[.int .u64 r.s, .int .u64 r.e, .int .i64 r.p] 96)) ⟨K⟩ := by
    intro K hK
    refine FnK.use (insert_c (lo := h.size) (r := r) ((S2.push _).le (by simp)) (by simp; have := K3.1; simp at this; omega) (h_pushE _ _ _ rfl) (fun e => by have := (S2.blk e).2; omega) List.findIdx_le_length (by omega)) ?_
    intro y h3 ⟨S3, K4⟩
    refine hK y h3 ⟨S3, (K0.trans (K3.le (by omega))).trans ((Keeps.push h2 _ ?_).trans K4)⟩
    have := K3.1; simp at this; omega
  rw [e1]
  rcases idxOf_ins (fun q => decide (r.s < q.s)) (woL r.s r.e rs) with ⟨hneg, hi⟩ | ⟨hneg, hi, hi2⟩
  · have hd : decide (idxOf (fun q => decide (r.s < q.s)) (woL r.s r.e rs) < 0) = true := decide_eq_true hneg
    obtain ⟨a, cap, e2, hcap⟩ := S2.vs.shape
    subst e2
    refine gs2 @hd @hbx2 ?_; (try with_reducible exact trivial)
    have e3 : insAt (woL r.s r.e rs) r = (woL r.s r.e rs).length := hi
    rw [← e3]
    rw [← e3] at fin
    refine fin ?_
    intro x h3 hh
    refine gs0 ?_; (try with_reducible exact trivial)
    exact hh
  · have hd : decide (idxOf (fun q => decide (r.s < q.s)) (woL r.s r.e rs) < 0) = false := decide_eq_false hneg
    refine gs2 @hd @hbx2 ?_; (try with_reducible exact trivial)
    rw [hi]
    refine fin ?_
    intro x h3 hh
    refine gs0 ?_; (try with_reducible exact trivial)
    exact hh
end Go.SX.G
namespace Go.SX.G
open Go Go.SX Go.Proofs
set_option maxRecDepth 100000
set_option maxHeartbeats 1000000
theorem Took.widen {h0 h h' : Heap} {l : Nat} {x : Value} {rs : List Reg} (k : Keeps h0.size h0 h) (hl : l < h0.size) (t : Took h h' l x rs) : Took h0 h' l x rs := by
  cases t with
  | no n e q => exact .no n e (k.of_ext q (Nat.le_refl _))
  | yes n e bl r fresh size old =>
    have := k.size
    exact .yes n e bl r (fun b hb => by have := fresh b hb; omega) (by omega) fun b hb hne => (old b (by omega) hne).trans (k.old b hb)
theorem rmap_c {h : Heap} {l : Nat} {bl : Option Nat} {rs : List Reg} (s e p : Nat) (hl : LR h l bl rs) (hn : rs.length ≤ 1000000) (hs : spanB s e = true) (hp : p ≤ 7) :
    Fn Tryz.prog 79 [ptr l 0, .int .u64 s, .int .u64 e, .int .i64 p] h fun x h' => Took h h' l x (joL (wiL rs ⟨s, e, p⟩)) := by
  have hll := hl.lt
  obtain ⟨v, hl0, hbl, hv⟩ := id hl
  have hwl : (wiL rs ⟨s, e, p⟩).length ≤ 2 * rs.length + 1 := by
    have := woL_len s e rs
    simp only [wiL, List.length_append, List.length_take, List.length_drop, List.length_cons, List.length_nil]; omega
  have hpr : decide ((0 : Int) ≤ p ∧ (p : Int) ≤ 7) = true := decide_eq_true (by omega)
  refine Fn_c Tryz.func79 mixed c79 (by kernel_rfl) ?_; rw [r79]
  refine gs0 ?_; (try with_reducible exact trivial)
  refine FnK.val (span_c h s e) ?_
  rw [hs]
  refine gs0 ?_; (try with_reducible exact trivial)
  refine FnK.val (prots_c h p) ?_
  rw [hpr]
  refine gs1 @hl0 ?_; (try with_reducible exact trivial)
  refine FnK.use (with_c ⟨s, e, p⟩ hv (by omega)) ?_
  intro v1 h1 ⟨S1, K1⟩
  refine gs0 ?_; (try with_reducible exact trivial)
  refine FnK.use (take_c (hl.ext K1) S1.vs (by omega)) ?_
  intro x h2 hx
  refine gs0 ?_; (try with_reducible exact trivial)
  exact hx.widen K1 hll
theorem containsFunc_c {h : Heap} {v : Value} {rs : List Reg} {g : Nat} {cap : Array Value} (p : Reg → Bool) (hv : Vs h v encR 3 rs) (hl : rs.length ≤ 4000000000)
    (hg : ∀ r ∈ rs, ∀ h1, Keeps h.size h h1 → Fn Tryz.prog g ([.agg #[.int .u64 r.s, .int .u64 r.e, .int .i64 r.p]] ++ cap.toList) h1 fun x h' => x = .bool (p r) ∧ Keeps h1.size h1 h') :
    Fn Tryz.prog 118 [v, .func (.func g) #[] cap] h fun x h' => x = .bool (rs.any p) ∧ Keeps h.size h h' := by
  refine Fn_c Tryz.func118 mixed c118 (by kernel_rfl) ?_; rw [r118]
  refine gs0 ?_; (try with_reducible exact trivial)
  refine FnK.use (indexFunc_c p hv hl hg) ?_
  intro x h1 hx
  obtain ⟨e1, K1⟩ := hx
  rw [e1]
  refine gs0 ?_; (try with_reducible exact trivial)
  refine ⟨?_, K1⟩
  congr 1
  rcases idxOf_ins p rs with ⟨hneg, hi⟩ | ⟨hneg, hi, hi2⟩
  · rw [decide_eq_false (by omega)]
    symm
    rw [List.any_eq_false]
    exact fun x hx => by simpa using List.findIdx_eq_length.1 hi x hx
  · rw [decide_eq_true (by omega)]
    symm
    rw [List.any_eq_true]
    exact ⟨rs[rs.findIdx p], List.getElem_mem hi2, List.findIdx_getElem⟩
def freeB (rs : List Reg) (s e : Nat) : Bool := spanB s e && !(rs.any fun q => decide (q.s < e ∧ s < q.e))
theorem free_c {h : Heap} {l : Nat} {bl : Option Nat} {rs : List Reg} (s e : Nat) (hl : LR h l bl rs) (hn : rs.length ≤ 1000000) :
    Fn Tryz.prog 75 [ptr l 0, .int .u64 s, .int .u64 e] h fun x h' => x = .bool (freeB rs s e) ∧ Keeps h.size h h' := by
  obtain ⟨v, hl0, hbl, hv⟩ := id hl
  have hlt := hl.lt
  have K1 : Keeps h.size h ((h.push (.cells #[.int .u64 s] 29)).push (.cells #[.int .u64 e] 29)) := (Keeps.push' (Keeps.push _ _ (Nat.le_refl _)) (Nat.le_refl _))
  refine Fn_c Tryz.func75 mixed c75 (by kernel_rfl) ?_; rw [r75]
  refine gs0 ?_; (try with_reducible exact trivial)
  refine FnK.val (span_c _ s e) ?_
  unfold freeB
  cases hs : spanB s e with
  | false =>
    refine gs0 ?_; (try with_reducible exact trivial)
    exact ⟨by simp, K1⟩
  | true =>
    refine gs1 @hl0 ?_; (try with_reducible exact trivial)
    refine FnK.use (containsFunc_c (fun q => decide (q.s < e ∧ s < q.e)) (hv.ext K1) (by omega) ?_) ?_
    · intro r hr h1 K2
      refine free1_c (t1 := 29) (f1 := (0, 0)) (t2 := 29) (f2 := (0, 0)) r ?_ ?_
      · rw [K2.old _ (by simp)]; refine gs0 ?_; (try with_reducible exact trivial)
      · rw [K2.old _ (by simp; omega)]; refine gs0 ?_; (try with_reducible exact trivial)
    · intro x h2 hx
      obtain ⟨e1, K2⟩ := hx
      rw [e1]
      refine gs0 ?_; (try with_reducible exact trivial)
      exact K1.trans (K2.le (by simp; omega))
theorem rcopy_c {h : Heap} {l : Nat} {bl : Option Nat} {rs : List Reg} (hl : LR h l bl rs) (hn : rs.length ≤ 1000000) :
    Fn Tryz.prog 78 [ptr l 0] h fun x h' => ∃ l' bl', x = ptr l' 0 ∧ LR h' l' bl' rs ∧ h.size ≤ l' ∧ (∀ b, bl' = some b → h.size ≤ b ∧ b ≠ l') ∧ Keeps h.size h h' := by
  obtain ⟨v, hl0, hbl, hv⟩ := id hl
  have hlt := hl.lt
  refine Fn_c Tryz.func78 mixed c78 (by kernel_rfl) ?_; rw [r78]
  refine gs1 @hl0 ?_; (try with_reducible exact trivial)
  refine FnK.use (clone_c hv (by omega)) ?_
  intro x h1 hx
  obtain ⟨V1, F1, K1⟩ := hx
  obtain ⟨a, cap, e1, hcap⟩ := V1.shape
  subst e1
  refine gs0 ?_; (try with_reducible exact trivial)
  refine ⟨h1.size, _, rfl, ⟨_, h_pushE _ _ _ rfl, rfl, V1.ext (Keeps.push _ _ (Nat.le_refl _))⟩, K1.size, fun b hb => ⟨F1 b hb, fun e => ?_⟩, K1.push' (Nat.le_refl _)⟩
  have := V1.blk_lt hb; omega
theorem rpages_c {h : Heap} {l : Nat} {bl : Option Nat} {rs : List Reg} (hl : LR h l bl rs) (hn : rs.length ≤ 1000000) (hw : ∀ r ∈ rs, r.s ≤ r.e ∧ r.e ≤ 274877906944) :
    Fn Tryz.prog 80 [ptr l 0] h fun x h' => x = .int .i64 (pagesL rs) ∧ Keeps h.size h h' := by
  obtain ⟨v, hl0, hbl, hv⟩ := id hl
  have hlt := hl.lt
  obtain ⟨a, cap', e1, hcap⟩ := hv.shape
  subst e1
  have hpg : ∀ i, i ≤ rs.length → pagesL (rs.take i) ≤ i * 67108864 := by
    intro i
    induction i with
    | zero => intro _; simp [pagesL]
    | succ i ih =>
      intro hi
      have h1 := ih (by omega)
      have h2 := hw rs[i] (List.getElem_mem (by omega))
      rw [take_snoc _ _ (by omega)]
      simp only [pagesL, List.map_append, List.sum_append, List.map_cons, List.map_nil, List.sum_cons, List.sum_nil] at h1 ⊢
      omega
  refine Fn_c Tryz.func80 mixed c80 (by kernel_rfl) ?_; rw [r80]
  refine gs1 @hl0 ?_; (try with_reducible exact trivial)
  refine LoopK.use (fun k fr h1 => ∃ i, i + k = rs.length ∧ Keeps h.size h h1 ∧
      fr = ((((fr0.up 13 (.int .i64 i)).up 12 (.int .i64 rs.length)).up 11 (.slice a rs.length cap')).up 3 (.int .u64 (pagesL (rs.take i))))) rs.length ?_ ?_
  · exact ⟨0, by omega, Keeps.refl', rfl⟩
  · intro k fr h1 hI
    obtain ⟨i, hk, K1, hf⟩ := hI
    subst hf
    by_cases hi : i < rs.length
    · obtain ⟨b, o, cap2, e1, hcap2, hbl2⟩ := hv.open hi
      cases e1
      obtain ⟨r, hr⟩ : ∃ r, r = rs[i] := ⟨_, rfl⟩
      have hE : cellsO (o + i * 3) 3 h[b]? = some [.int .u64 r.s, .int .u64 r.e, .int .i64 r.p] := by rw [hr]; exact hv.elem encR_len hi
      have hE' := K1.old b hbl2
      have hlt' : decide ((i : Int) < rs.length) = true := decide_eq_true (by omega)
      have hrw := hw r (by rw [hr]; exact List.getElem_mem hi)
      have h5 := hpg i (by omega)
      refine gs3 @hE' @hE @hlt' ?_; (try with_reducible exact trivial)
      refine ⟨k - 1, by omega, i + 1, by omega, K1.push' (Nat.le_refl _), ?_⟩
      have e2 : ((pagesL (rs.take (i + 1)) : Nat) : Int) = (pagesL (rs.take i) : Nat) + ((r.e : Int) - r.s) / 4096 := by
        rw [take_snoc _ _ hi, ← hr]
        simp only [pagesL, List.map_append, List.sum_append, List.map_cons, List.map_nil, List.sum_cons, List.sum_nil]
        omega
      rw [e2]; rfl
    · have e1 : i = rs.length := by omega
      subst e1
      have h5 := hpg rs.length (Nat.le_refl _)
      rw [List.take_length] at h5
      refine gs1 @List.take_length.{0} ?_; (try with_reducible exact trivial)
      exact K1
theorem room_c {h : Heap} {l : Nat} {bl : Option Nat} {rs : List Reg} (n b : Nat) (hl : LR h l bl rs) (hn : rs.length ≤ 1000000) (w : wfR rs) (hsz : n ≤ 274877906944) (hb : b ≤ 274877906944) :
    Fn Tryz.prog 76 [ptr l 0, .int .u64 n, .int .u64 b] h fun x h' => x = placeV (roomL rs.reverse (b / 4096 * 4096) (upP n)) ∧ h' = h := by
  obtain ⟨v, hl0, hbl, hv⟩ := id hl
  have hlt := hl.lt
  obtain ⟨a, cap', e1, hcap⟩ := hv.shape
  subst e1
  have hd : decide ((274877906944 : Int) < n) = false := decide_eq_false (by omega)
  have hup : (if ((n : Int) + 4096 - 1) / 4096 < 1 then (1 : Int) else ((n : Int) + 4096 - 1) / 4096) * 4096 = ((upP n : Nat) : Int) := by
    unfold upP; split <;> omega
  have hup2 : upP n ≤ 274877910000 := by unfold upP; omega
  refine Fn_c Tryz.func76 mixed c76 (by kernel_rfl) ?_; rw [r76]
  refine gs3 @hl0 @hd @hup ?_; (try with_reducible exact trivial)
  refine LoopK.use (fun k fr h1 => h1 = h ∧ ((k = 0 ∧ roomL rs.reverse (b / 4096 * 4096) (upP n) = none ∧ ∃ e : Nat, fr = ((((fr0.up 9 (.int .i64 (-1))).up 8 (.int .u64 e)).up 1 (.int .u64 (upP n))).up 0 (ptr l 0))) ∨
      ∃ (i e : Nat), k = i + 1 ∧ i ≤ rs.length ∧ e ≤ 274877906944 ∧ roomL (rs.take i).reverse e (upP n) = roomL rs.reverse (b / 4096 * 4096) (upP n) ∧
      fr = ((((fr0.up 9 (.int .i64 i)).up 8 (.int .u64 e)).up 1 (.int .u64 (upP n))).up 0 (ptr l 0)))) (rs.length + 1) ?_ ?_
  · exact ⟨rfl, .inr ⟨rs.length, b / 4096 * 4096, rfl, Nat.le_refl _, by omega, by rw [List.take_length], rfl⟩⟩
  · intro k fr h1 hI
    obtain ⟨hh, hI⟩ := hI
    have hh := hh.symm
    subst hh
    rcases hI with ⟨hk, hr, e, hf⟩ | ⟨i, e, hk, hi, he, hr, hf⟩
    · subst hf
      refine gs0 ?_; (try with_reducible exact trivial)
      rw [hr]; rfl
    · subst hf
      have hd0 : decide ((0 : Int) ≤ i) = true := decide_eq_true (by omega)
      cases i with
      | zero =>
        rw [List.take_zero, List.reverse_nil] at hr
        rw [← hr]
        simp only [roomL]
        refine gs1 @hd0 ?_; (try with_reducible exact trivial)
        refine ⟨fun q1 => ?_, fun q1 => ?_⟩
        refine gs2 @hd0 @hl0 ?_; (try with_reducible exact trivial)
        refine ⟨fun q2 => ?_, fun q2 => ?_⟩
        · refine gs0 ?_; (try with_reducible exact trivial)
          have : ((e : Int) - (upP n : Nat)) = ((e - upP n : Nat) : Int) := by omega
          simp only [placeV]
          rw [this]
        · rw [if_neg (by omega)]
          exact ⟨0, by omega, .inl ⟨rfl, rfl, e, rfl⟩⟩
        · rw [if_neg (by omega)]
          exact ⟨0, by omega, .inl ⟨rfl, rfl, e, rfl⟩⟩
      | succ i =>
        have e4 : (((i + 1 : Nat) : Int) - 1) = (i : Int) := by omega
        have hi' : i < rs.length := by omega
        obtain ⟨b2, o, cap2, e1, hcap2, hbl2⟩ := hv.open hi'
        cases e1
        obtain ⟨r, hr0⟩ : ∃ r, r = rs[i] := ⟨_, rfl⟩
        have hw := w.each r (by rw [hr0]; exact List.getElem_mem hi')
        have hE0 : cellO (o + i * 3) h[b2]? = some (.int .u64 r.s) := by rw [hr0]; exact hv.field encR_len hi' (j := 0) (by omega)
        have hE1 : cellO (o + i * 3 + 1) h[b2]? = some (.int .u64 r.e) := by rw [hr0]; exact hv.field encR_len hi' (j := 1) (by omega)
        have hr1 : (rs.take (i + 1)).reverse = r :: (rs.take i).reverse := by rw [take_snoc _ _ hi', List.reverse_append, ← hr0]; rfl
        rw [hr1] at hr
        rw [← hr]
        simp only [roomL]
        have hmx : (if (4096 : Int) < r.e then (r.e : Int) else 4096) = r.e := by split <;> omega
        have hmn : (if (r.s : Int) < e then (r.s : Int) else e) = ((min e r.s : Nat) : Int) := min_int e r.s
        have hpos : ((0 : Int) < ((i + 1 : Nat) : Int)) = True := eq_true (by omega)
        refine gs8 @hd0 @hl0 @hE0 @hE1 @e4 @hmx @hmn @hpos ?_; (try with_reducible exact trivial)
        refine ⟨fun q1 => ?_, fun q1 => ?_⟩
        refine gs7 @hd0 @hl0 @hE0 @hE1 @e4 @hmn @hpos ?_; (try with_reducible exact trivial)
        refine ⟨fun q2 => ?_, fun q2 => ?_⟩
        · refine gs0 ?_; (try with_reducible exact trivial)
          have : ((e : Int) - (upP n : Nat)) = ((e - upP n : Nat) : Int) := by omega
          simp only [placeV]
          rw [this]
        · rw [if_neg (by omega)]
          exact ⟨i + 1, by omega, .inr ⟨i, min e r.s, rfl, by omega, by omega, by rfl, rfl⟩⟩
        · rw [if_neg (by omega)]
          exact ⟨i + 1, by omega, .inr ⟨i, min e r.s, rfl, by omega, by omega, by rfl, rfl⟩⟩
end Go.SX.G
