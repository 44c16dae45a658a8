/- The reference's space, page by page: how it is laid. No condition but on sizes. -/
import Derived.Test.YtajfhnphhdoobaaGreatMem
set_option linter.unusedVariables false
set_option linter.unusedSimpArgs false
namespace Go.SX.G
open Go Go.SX Go.Proofs
set_option maxRecDepth 100000
set_option maxHeartbeats 1000000
/-- a page of the reference: its number, what it may, the block of its bytes. -/
structure Pg where
  no : Nat
  prot : Nat
  blk : Nat
def encPg (p : Pg) : List Value := [.int .u64 p.no, .int .i64 p.prot, .slice (some ⟨p.blk, 0, none⟩) 4096 4096]
theorem encPg_len (p : Pg) : (encPg p).length = 3 := rfl
theorem elPg : ElT Tryz.prog 85 92 3 40 (.agg #[.int .u64 0, .int .i64 0, .slice none 0 0]) := ⟨sl85, by92, by decide, ze92, rfl, by rw [Tryz.underlying85]; rfl⟩
/-- all of them, when the span lies behind them. -/
theorem pwithout_c {h : Heap} {v : Value} {ps : List Pg} (s e sp : Nat) (m b f : Value) (ht : h[sp]? = some (.cells #[v, m, b, f] 87 (0, 0))) (hv : Vs h v encPg 3 ps) (hl : ps.length ≤ 1000000) (hs : ∀ p ∈ ps, p.no < 100000000 ∧ p.no * 4096 < s) :
    Fn Tryz.prog 44 [ptr sp 0, .int .u64 s, .int .u64 e] h fun r h' => Ss h' h.size r 92 encPg 3 ps ∧ Keeps h.size h h' := by
  obtain ⟨a, cap, e1, hcap⟩ := hv.shape
  subst e1
  have hsp := getElem?_lt ht
  refine Fn_c Tryz.func44 mixed c44 (by kernel_rfl) ?_; rw [r44]
  refine gs1 @ht ?_; (try with_reducible exact trivial)
  obtain ⟨I, hI⟩ : ∃ I : Nat → Fr → Heap → Prop, I = fun k fr h1 => ∃ i vo, i + k = ps.length ∧ Keeps h.size h h1 ∧ Ss h1 h.size vo 92 encPg 3 (ps.take i) ∧
      fr = (((((fr0.up 8 (.int .i64 i)).up 7 vo).up 2 (.int .u64 e)).up 1 (.int .u64 s)).up 0 (ptr sp 0)) := ⟨_, rfl⟩
  refine LoopK.use I ps.length (by rw [hI]; exact ⟨0, _, by omega, Keeps.refl', Ss.nil _ _ _, rfl⟩) ?_
  intro k fr h1 hK
  rw [hI] at hK
  obtain ⟨i, vo, hk, K1, S1, hf⟩ := hK
  subst hf
  have ht1 := K1.at ht hsp
  by_cases hi : i < ps.length
  · obtain ⟨b, o, cap', e1, hcap', hb⟩ := hv.open hi
    cases e1
    obtain ⟨r, hr⟩ : ∃ r, r = ps[i] := ⟨_, rfl⟩
    have hE : cellsO (o + i * 3) 3 h[b]? = some [.int .u64 r.no, .int .i64 r.prot, .slice (some ⟨r.blk, 0, none⟩) 4096 4096] := by rw [hr]; exact hv.elem encPg_len hi
    have hE0 : cellO (o + i * 3) h[b]? = some (.int .u64 r.no) := by rw [hr]; exact hv.field encPg_len hi (j := 0) (by omega)
    have hE' := K1.old b hb
    have hrs := hs r (by rw [hr]; exact List.getElem_mem hi)
    have hlt : decide ((i : Int) < ps.length) = true := decide_eq_true (by omega)
    have hw : IntKind.u64.wrap ((r.no : Int) * 4096) = ((r.no * 4096 : Nat) : Int) := by rw [wrap_u64]; omega
    have hd : decide (((r.no * 4096 : Nat) : Int) < s) = true := decide_eq_true (by omega)
    have hsz := K1.size
    refine gs7 @ht1 @hE' @hE @hE0 @hlt @hw @hd ?_; (try with_reducible exact trivial)
    refine app_push r elPg encPg_len S1 rfl rfl rfl (by rw [List.length_take]; omega) K1.1 ?_
    intro v' h' S' K' F' B'
    refine gs0 ?_; (try with_reducible exact trivial)
    refine ⟨k - 1, by omega, ?_⟩
    rw [hI]
    rw [hr, ← take_snoc _ _ hi] at S'
    exact ⟨i + 1, v', by omega, K1.trans K', S', rfl⟩
  · have e1 : i = ps.length := by omega
    subst e1
    refine gs1 @ht1 ?_; (try with_reducible exact trivial)
    rw [List.take_length] at S1
    exact ⟨S1, K1⟩
/-- regions are at most as many as pages. -/
theorem pregions_c {h : Heap} {v : Value} {ps : List Pg} (hv : Vs h v encPg 3 ps) (hl : ps.length ≤ 1000000) (hs : ∀ p ∈ ps, p.no < 100000000) :
    Fn Tryz.prog 45 [v] h fun r h' => (∃ rs : List Reg, rs.length ≤ ps.length ∧ Ss h' h.size r 96 encR 3 rs) ∧ Keeps h.size h h' := by
  obtain ⟨a, cap, e1, hcap⟩ := hv.shape
  subst e1
  refine Fn_c Tryz.func45 mixed c45 (by kernel_rfl) ?_; rw [r45]
  refine gs0 ?_; (try with_reducible exact trivial)
  obtain ⟨I, hI⟩ : ∃ I : Nat → Fr → Heap → Prop, I = fun k fr h1 => ∃ (i : Nat) (vo : Value) (rs : List Reg), i + k = ps.length ∧ rs.length ≤ i ∧ Keeps h.size h h1 ∧ Ss h1 h.size vo 96 encR 3 rs ∧
      fr = (((fr0.up 4 (.int .i64 i)).up 3 vo).up 0 (.slice a ps.length cap)) := ⟨_, rfl⟩
  refine LoopK.use I ps.length (by rw [hI]; exact ⟨0, _, [], by omega, by simp, Keeps.refl', Ss.nil _ _ _, rfl⟩) ?_
  intro k fr h1 hK
  rw [hI] at hK
  obtain ⟨i, vo, rs, hk, hrl, K1, S1, hf⟩ := hK
  subst hf
  by_cases hi : i < ps.length
  · obtain ⟨b, o, cap', e1, hcap', hb⟩ := hv.open hi
    cases e1
    obtain ⟨r, hr⟩ : ∃ r, r = ps[i] := ⟨_, rfl⟩
    have hE0 : cellO (o + i * 3) h[b]? = some (.int .u64 r.no) := by rw [hr]; exact hv.field encPg_len hi (j := 0) (by omega)
    have hE1 : cellO (o + i * 3 + 1) h[b]? = some (.int .i64 r.prot) := by rw [hr]; exact hv.field encPg_len hi (j := 1) (by omega)
    have hE' := K1.old b hb
    have hrs := hs r (by rw [hr]; exact List.getElem_mem hi)
    have hlt : decide ((i : Int) < ps.length) = true := decide_eq_true (by omega)
    have hw : IntKind.u64.wrap ((r.no : Int) * 4096) = ((r.no * 4096 : Nat) : Int) := by rw [wrap_u64]; omega
    have hw2 : IntKind.u64.wrap (((r.no * 4096 : Nat) : Int) + 4096) = ((r.no * 4096 + 4096 : Nat) : Int) := by rw [wrap_u64]; omega
    have hsz := K1.size
    have hap : ∀ {K : Value → Heap → Prop}, (∀ v' h', Ss h' h.size v' 96 encR 3 (rs ++ [⟨r.no * 4096, r.no * 4096 + 4096, r.prot⟩]) → Keeps h.size h h' → K v' h') →
        @appK Tryz.prog (h1.push (.cells #[.int .u64 (r.no * 4096 : Nat), .int .u64 (r.no * 4096 + 4096 : Nat), .int .i64 r.prot] 96)) 93 93 vo (.slice (some ⟨h1.size, 0, none⟩) 1 1) ⟨K⟩ := by
      intro K hk
      refine app_push ⟨r.no * 4096, r.no * 4096 + 4096, r.prot⟩ elR encR_len S1 rfl rfl rfl (by omega) K1.1 ?_
      intro v' h' S' K' F' B'
      exact hk v' h' S' (K1.trans K')
    rcases List.eq_nil_or_concat rs with hn | ⟨out, q, hn⟩
    · obtain ⟨ao, co, e2, hco⟩ := S1.vs.shape
      rw [hn] at e2
      subst e2
      refine gs6 @hE' @hE0 @hE1 @hlt @hw @hw2 ?_; (try with_reducible exact trivial)
      refine hap ?_
      intro v' h' S' K'
      refine gs0 ?_; (try with_reducible exact trivial)
      refine ⟨k - 1, by omega, ?_⟩
      rw [hI]
      exact ⟨i + 1, v', _, by omega, by simp; omega, K', S', rfl⟩
    · rw [List.concat_eq_append] at hn
      subst hn
      have hln : (out ++ [q]).length = out.length + 1 := by simp
      obtain ⟨b2, cap2, e3, hcap2, hlo2, hb2⟩ := S1.open (i := out.length) (by omega)
      rw [hln] at e3 hcap2 hrl
      subst e3
      have hq : (out ++ [q])[out.length]'(by omega) = q := by simp
      have hQ1 := S1.vs.field encR_len (i := out.length) (j := 1) (by omega) (by omega)
      have hQ2 := S1.vs.field encR_len (i := out.length) (j := 2) (by omega) (by omega)
      rw [hq] at hQ1 hQ2
      have hQ1 : cellO (out.length * 3 + 1) h1[b2]? = some (.int .u64 q.e) := by simpa [encR] using hQ1
      have hQ2 : cellO (out.length * 3 + 2) h1[b2]? = some (.int .i64 q.p) := by simpa [encR] using hQ2
      have e4 : (((out.length + 1 : Nat) : Int) - 1) = (out.length : Int) := by omega
      have e5 : ((out.length : Int) < ((out.length + 1 : Nat) : Int)) = True := eq_true (by omega)
      have e6 : ((0 : Int) < ((out.length + 1 : Nat) : Int)) = True := eq_true (by omega)
      refine gs11 @hE' @hE0 @hE1 @hlt @hw @hw2 @hQ1 @hQ2 @e4 @e5 @e6 ?_; (try with_reducible exact trivial)
      refine ⟨fun q1 => ⟨fun q2 => ?_, fun q2 => ?_⟩, fun q1 => ?_⟩
      · obtain ⟨h', hw', S', sz', K', F'⟩ := S1.store encR_len (i := out.length) (j := 1) (vs := [.int .u64 (r.no * 4096 + 4096 : Nat)]) ⟨q.s, r.no * 4096 + 4096, q.p⟩ (by omega) (by simp) (by rw [hq]; rfl) rfl
        rw [Nat.zero_add] at hw'
        refine obK.use _ hw' ?_
        refine gs0 ?_; (try with_reducible exact trivial)
        refine ⟨k - 1, by omega, ?_⟩
        rw [hI]
        exact ⟨i + 1, _, _, by omega, by simp; omega, K1.trans K', S', rfl⟩
      · refine hap ?_
        intro v' h' S' K'
        refine gs0 ?_; (try with_reducible exact trivial)
        refine ⟨k - 1, by omega, ?_⟩
        rw [hI]
        exact ⟨i + 1, v', _, by omega, by simp; omega, K', S', rfl⟩
      · refine hap ?_
        intro v' h' S' K'
        refine gs0 ?_; (try with_reducible exact trivial)
        refine ⟨k - 1, by omega, ?_⟩
        rw [hI]
        exact ⟨i + 1, v', _, by omega, by simp; omega, K', S', rfl⟩
  · have e1 : i = ps.length := by omega
    subst e1
    refine gs0 ?_; (try with_reducible exact trivial)
    exact ⟨⟨rs, hrl, S1⟩, K1⟩
end Go.SX.G
