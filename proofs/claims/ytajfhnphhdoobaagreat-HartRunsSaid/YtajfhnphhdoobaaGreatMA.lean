/- The reference's space of HartNone: how it is laid, and what is put into it. No condition. The machines of a law: what is put into the reference's pages. No condition. The machines of a law: made. No condition. HartKeeps, the walk. No condition. -/
import Derived.Test.YtajfhnphhdoobaaGreatRefS
import Derived.Test.YtajfhnphhdoobaaGreatHY
import Derived.Test.YtajfhnphhdoobaaGreatSxP
set_option linter.unusedVariables false
set_option linter.unusedSimpArgs false
namespace Go.SX.G
open Go Go.SX Go.Proofs
set_option maxRecDepth 100000
set_option maxHeartbeats 2000000
theorem Ss.ne {α : Type} {size : Nat} {enc : α → List Value} {h : Heap} {lo e b : Nat} {v : Value} {xs : List α} {o : Obj} (S : Ss h lo v e enc size xs) (hb : h[b]? = some o) (ho : ∀ cs f, o ≠ .cells cs e f) : blk v ≠ some b := by
  intro q
  rcases S.2 with ⟨e, _⟩ | ⟨b', cap, e, _, _, rest, hB, _⟩
  · rw [e] at q; simp [blk] at q
  · rw [e] at q
    simp only [blk, Option.some.injEq] at q
    subst q
    rw [hb] at hB
    exact ho _ _ (Option.some.inj hB)
theorem rnew20_c (h : Heap) : Fn Tryz.prog 10 [.int .i64 20] h fun x h' => x = ptr h.size 0 ∧ h' = h.push (.cells #[.slice none 0 0, .int .i64 20, .int .u64 0, .int .u64 0] 87 (0, 0)) := by
  refine Fn_c Tryz.func10 mixed c10 (by kernel_rfl) ?_; rw [r10]
  refine gs0 ?_; (try with_reducible exact trivial)
/-- the reference's space, its pages' blocks not below 'lo'. -/
structure RQ (h : Heap) (lo sp : Nat) (v : Value) (ps : List Pg) : Prop where
  top : h[sp]? = some (.cells #[v, .int .i64 20, .int .u64 0, .int .u64 0] 87 (0, 0))
  vs : Vs h v encPg 3 ps
  pg : ∀ p ∈ ps, lo ≤ p.blk ∧ ∃ C : Array Value, C.size = 4096 ∧ h[p.blk]? = some (.cells C 5 (0, 0))
  ls : lo ≤ sp
  lv : ∀ b, blk v = some b → lo ≤ b
  ne : ∀ p ∈ ps, blk v ≠ some p.blk
theorem RQ.mono {h h' : Heap} {lo sp : Nat} {v : Value} {ps : List Pg} (R : RQ h lo sp v ps) (ks : h'[sp]? = h[sp]?) (kv : ∀ b, blk v = some b → h'[b]? = h[b]?) (kp : ∀ p ∈ ps, h'[p.blk]? = h[p.blk]?) : RQ h' lo sp v ps :=
  ⟨ks.trans R.top, R.vs.mono kv, fun p hp => ⟨(R.pg p hp).1, by obtain ⟨C, c1, c2⟩ := (R.pg p hp).2; exact ⟨C, c1, (kp p hp).trans c2⟩⟩, R.ls, R.lv, R.ne⟩
theorem RQ.ext {h h' : Heap} {lo sp : Nat} {v : Value} {ps : List Pg} (R : RQ h lo sp v ps) (k : Keeps h.size h h') : RQ h' lo sp v ps :=
  R.mono (k.old _ (getElem?_lt R.top)) (fun b hb => k.old b (R.vs.blk_lt hb)) fun p hp => by obtain ⟨C, c1, c2⟩ := (R.pg p hp).2; exact k.old _ (getElem?_lt c2)
def rqf (sp : Nat) (v : Value) (ps : List Pg) (b : Nat) : Prop := b = sp ∨ blk v = some b ∨ ∃ p ∈ ps, b = p.blk
theorem RQ.lt {h : Heap} {lo sp : Nat} {v : Value} {ps : List Pg} (R : RQ h lo sp v ps) {b : Nat} (f : rqf sp v ps b) : b < h.size := by
  rcases f with rfl | f | ⟨p, hp, rfl⟩
  · exact getElem?_lt R.top
  · exact R.vs.blk_lt f
  · obtain ⟨C, c1, c2⟩ := (R.pg p hp).2; exact getElem?_lt c2
theorem RQ.monof {h h' : Heap} {lo sp : Nat} {v : Value} {ps : List Pg} (R : RQ h lo sp v ps) (k : ∀ b, rqf sp v ps b → h'[b]? = h[b]?) : RQ h' lo sp v ps :=
  R.mono (k _ (.inl rfl)) (fun b hb => k b (.inr (.inl hb))) fun p hp => k _ (.inr (.inr ⟨p, hp, rfl⟩))
/-- pages behind all others. -/
theorem rlay_c {h : Heap} {lo : Nat} {v : Value} {ps : List Pg} (N c sp prot : Nat) (R : RQ h lo sp v ps) (lh : lo ≤ h.size) (hc : 1 ≤ c ∧ c ≤ 2) (hl : ps.length + c ≤ 20) (hN : N < 1000000) (hs : ∀ p ∈ ps, p.no < N) :
    Fn Tryz.prog 13 [ptr sp 0, .int .u64 (N * 4096 : Nat), .int .u64 ((N + c) * 4096 : Nat), .int .i64 prot] h fun r h' => (∃ (v' : Value) (qs : List Pg), RQ h' lo sp v' (ps ++ qs) ∧ qs.length = c ∧ (∀ i (hi : i < qs.length), qs[i].no = N + i) ∧ ∀ b, rqf sp v' (ps ++ qs) b → rqf sp v ps b ∨ h.size ≤ b) ∧ h.size ≤ h'.size ∧ ∀ b, b < h.size → b ≠ sp → h'[b]? = h[b]? := by
  have ht := R.top
  have hv := R.vs
  obtain ⟨a, cap, e1, hcap⟩ := hv.shape
  subst e1
  have hq0 : ((((N + c) * 4096 : Nat) : Int) - (N * 4096 : Nat)) = ((c * 4096 : Nat) : Int) := by omega
  have hw1 : IntKind.u64.wrap (((c * 4096 : Nat) : Int)) = ((c * 4096 : Nat) : Int) := by rw [wrap_u64]; omega
  have hd2 : ((c * 4096 : Nat) : Int) / 4096 = (c : Int) := by omega
  refine Fn_c Tryz.func13 mixed c13 (by kernel_rfl) ?_; rw [r13]
  have dc : ((8192 : Int) < (c : Int)) = False := eq_false (by omega)
  have dl : ((20 : Int) < (ps.length : Int) + c) = False := eq_false (by omega)
  refine gs5 @ht @hq0 @hw1 @hd2 @dc ?_; (try with_reducible exact trivial)
  refine FnK.use (pwithout_c (N * 4096) ((N + c) * 4096) sp _ _ _ ht hv (by omega) (fun p q => by have := hs p q; omega)) ?_
  intro v1 h1 ⟨S1, K1⟩
  obtain ⟨a1, cap1, e1, hcap1⟩ := S1.vs.shape
  subst e1
  have hsp := getElem?_lt ht
  have ht1 := K1.at ht hsp
  refine gs5 @ht1 @hq0 @hw1 @hd2 @dl ?_; (try with_reducible exact trivial)
  obtain ⟨I, hI⟩ : ∃ I : Nat → Fr → Heap → Prop, I = fun k fr h2 => ∃ (i : Nat) (vo : Value), i + k = ps.length ∧ Keeps h1.size h1 h2 ∧ Ss h2 h1.size vo 92 encPg 3 (ps.take i) ∧
      fr = (((((((fr0.up 11 (.int .i64 i)).up 10 vo).up 9 (.slice a1 ps.length cap1)).up 3 (.int .i64 prot)).up 2 (.int .u64 ((N + c) * 4096 : Nat))).up 1 (.int .u64 (N * 4096 : Nat))).up 0 (ptr sp 0)) := ⟨_, rfl⟩
  refine LoopK.use I ps.length (by rw [hI]; exact ⟨0, _, by omega, Keeps.refl', Ss.nil _ _ _, rfl⟩) ?_
  intro k fr h2 hK
  rw [hI] at hK
  obtain ⟨i, vo, hk, K2, S2, hf⟩ := hK
  subst hf
  have V1 := S1.vs
  by_cases hi : i < ps.length
  · obtain ⟨b, o, cap', e1, hcap', hb⟩ := V1.open hi
    cases e1
    obtain ⟨r, hr⟩ : ∃ r, r = ps[i] := ⟨_, rfl⟩
    have hE : cellsO (o + i * 3) 3 h1[b]? = some [.int .u64 r.no, .int .i64 r.prot, .slice (some ⟨r.blk, 0, none⟩) 4096 4096] := by rw [hr]; exact V1.elem encPg_len hi
    have hE0 : cellO (o + i * 3) h1[b]? = some (.int .u64 r.no) := by rw [hr]; exact V1.field encPg_len hi (j := 0) (by omega)
    have hE' := K2.old b hb
    have hrs := hs r (by rw [hr]; exact List.getElem_mem hi)
    have hlt : decide ((i : Int) < ps.length) = true := decide_eq_true (by omega)
    have hw : IntKind.u64.wrap ((r.no : Int) * 4096) = ((r.no * 4096 : Nat) : Int) := by rw [wrap_u64]; omega
    have hd : decide (((r.no * 4096 : Nat) : Int) < ((N * 4096 : Nat) : Int)) = true := decide_eq_true (by omega)
    have hsz := K2.size
    refine gs6 @hE' @hE @hE0 @hlt @hw @hd ?_; (try with_reducible exact trivial)
    refine app_push r elPg encPg_len S2 rfl rfl rfl (by rw [List.length_take]; omega) K2.1 ?_
    intro v' h' S' K' F' B'
    refine gs0 ?_; (try with_reducible exact trivial)
    refine ⟨k - 1, by omega, ?_⟩
    rw [hI]
    rw [hr, ← take_snoc _ _ hi] at S'
    exact ⟨i + 1, v', by omega, K2.trans K', S', rfl⟩
  have e1 : i = ps.length := by omega
  subst e1
  rw [List.take_length] at S2
  refine gs0 ?_; (try with_reducible exact trivial)
  obtain ⟨J, hJ⟩ : ∃ I : Nat → Fr → Heap → Prop, I = fun k fr hh => ∃ (j : Nat) (vo2 : Value) (qs : List Pg), j + k = c ∧ qs.length = j ∧ (∀ i (hi : i < qs.length), qs[i].no = N + i) ∧ Keeps h1.size h1 hh ∧ Ss hh h1.size vo2 92 encPg 3 (ps ++ qs) ∧
      (∀ p ∈ qs, h1.size ≤ p.blk ∧ ∃ C : Array Value, C.size = 4096 ∧ hh[p.blk]? = some (.cells C 5 (0, 0))) ∧
      fr = (((((((fr0.up 12 (.int .u64 ((N + j) * 4096 : Nat))).up 11 (.int .i64 ps.length)).up 10 vo2).up 9 (.slice a1 ps.length cap1)).up 3 (.int .i64 prot)).up 2 (.int .u64 ((N + c) * 4096 : Nat))).up 0 (ptr sp 0)) := ⟨_, rfl⟩
  refine LoopK.use J c (by rw [hJ]; exact ⟨0, vo, [], by omega, rfl, fun i hi => absurd hi (by simp), K2, by rw [List.append_nil]; exact S2, fun p hp => (by cases hp), rfl⟩) ?_
  intro k3 fr h3 hK
  rw [hJ] at hK
  obtain ⟨j, vo2, qs, hk3, hql, hqn, K3, S3, hqb, hf⟩ := hK
  subst hf
  have hsz := K3.size
  by_cases hj : j < c
  · have hd : decide ((((N + j) * 4096 : Nat) : Int) < (((N + c) * 4096 : Nat) : Int)) = true := decide_eq_true (by omega)
    have hq : (((N + j) * 4096 : Nat) : Int) / 4096 = ((N + j : Nat) : Int) := by omega
    have hw2 : IntKind.u64.wrap ((((N + j) * 4096 : Nat) : Int) + 4096) = (((N + (j + 1)) * 4096 : Nat) : Int) := by rw [wrap_u64]; omega
    have hw3 : (((N + j) * 4096 : Nat) : Int) + 4096 = (((N + (j + 1)) * 4096 : Nat) : Int) := by omega
    refine gs4 @hd @hq @hw2 @hw3 ?_; (try with_reducible exact trivial)
    refine mks_one (by_ := 1) (n := 4096) sl22 by5 ze5 rfl (by omega) (by omega) ?_
    refine gs4 @hd @hq @hw2 @hw3 ?_; (try with_reducible exact trivial)
    have S3' := S3.push (.cells (List.replicate 4096 (Value.int .u8 0)).toArray 5 (0, 0))
    refine app_push ⟨N + j, prot, h3.size⟩ elPg encPg_len S3' (by simp) rfl rfl (by simp; omega) (by simp; omega) ?_
    intro v' h' S' K' F' B'
    rw [List.append_assoc] at S'
    refine gs1 @hw3 ?_; (try with_reducible exact trivial)
    refine ⟨k3 - 1, by omega, ?_⟩
    rw [hJ]
    have hnb : blk vo2 ≠ some h3.size := fun e => by have := (S3.blk e).2; omega
    refine ⟨j + 1, v', qs ++ [⟨N + j, prot, h3.size⟩], by omega, by simp [hql], fun i hi => ?_, (K3.push' (Nat.le_refl _)).trans K', S', fun p hp => ?_, rfl⟩
    · by_cases q : i < qs.length
      · rw [List.getElem_append_left q]; exact hqn i q
      · have : i = qs.length := by simp at hi; omega
        subst this
        simp [hql]
    · rcases List.mem_append.1 hp with z | z
      · obtain ⟨p1, C, c1, c2⟩ := hqb p z
        have lp := getElem?_lt c2
        refine ⟨p1, C, c1, ?_⟩
        rw [F' p.blk (by simp; omega) (Ss.ne S3 c2 (fun cs f => by simp)), h_pushL _ _ _ lp]
        exact c2
      · rw [List.mem_singleton.1 z]
        refine ⟨hsz, (List.replicate 4096 (Value.int .u8 0)).toArray, by simp, ?_⟩
        show h'[h3.size]? = _
        rw [F' h3.size (by simp) hnb]
        exact h_pushE _ _ _ rfl
  · have ej : j = c := by omega
    have hd : decide ((((N + j) * 4096 : Nat) : Int) < (((N + c) * 4096 : Nat) : Int)) = false := decide_eq_false (by omega)
    refine gs1 @hd ?_; (try with_reducible exact trivial)
    have fin : ∀ {K : Value → Heap → Prop} (x : Value), lenOfV x = some 0 → srcCells h3 (0 * 3) x = some [] → strOK 3 x = true →
        (∀ v' h', Ss h' h1.size v' 92 encPg 3 (ps ++ qs) → Keeps h1.size h1 h' → (∀ p ∈ qs, h1.size ≤ p.blk ∧ ∃ C : Array Value, C.size = 4096 ∧ h'[p.blk]? = some (.cells C 5 (0, 0))) → K v' h') →
        @appK Tryz.prog h3 85 85 vo2 x ⟨K⟩ := by
      intro K x x1 x2 x3 hk
      refine app_sl (n := 0) (new := []) elPg S3 x1 x2 (by simp) (by simp) (by simp; omega) x3 (by omega) ?_
      intro v' h' S' g
      refine hk v' h' (by rw [List.append_nil] at S'; exact S') (K3.trans (g.keeps (fun b hb => (S3.blk hb).1) (by omega))) (fun p hp => ?_)
      obtain ⟨p1, C, c1, c2⟩ := hqb p hp
      exact ⟨p1, C, c1, by rw [g.2.1 p.blk (getElem?_lt c2) (Ss.ne S3 c2 (fun cs f => by simp))]; exact c2⟩
    refine fin _ ?_ ?_ ?_ ?_
    · simp [lenOfV]
    · have V3 := (S1.vs.ext K3)
      rcases V3.2 with ⟨e1, e2⟩ | ⟨b1, o1, c1, cc, ee, ff, e1, e2, e3, e4, e5⟩
      · have e6 : a1 = none := by injection e1
        subst e6
        simp [srcCells]
      · cases e1
        have := Vw.srcDrop V3 (i := ps.length) (Nat.le_refl _) (ps.length - ps.length) (cap1 - ps.length)
        rw [Nat.sub_self] at this
        have hd : (flat encPg ps).drop (ps.length * 3) = [] := List.drop_eq_nil_of_le (by rw [flat_len encPg_len]; omega)
        rw [hd] at this
        split
        · have := Vw.src V3 (k := 0) (by omega)
          simpa [srcCells] using this
        · rw [Nat.sub_self]
          simp only [Option.map_some, addA, Addr.add]
          split
          · rename_i z; rw [z, Nat.add_zero] at this; exact this
          · exact this
    · simp [strOK]
    intro v4 h4 S4 K4 hb4
    refine gs0 ?_; (try with_reducible exact trivial)
    have hsN : ∀ p ∈ ps ++ qs, p.no < 100000000 := fun p q => by
      rcases List.mem_append.1 q with z | z
      · have := hs p z; omega
      · obtain ⟨i, hi, rfl⟩ := List.mem_iff_getElem.1 z
        rw [hqn i hi]; omega
    refine FnK.use (pregions_c S4.vs (by simp; omega) hsN) ?_
    intro v5 h5 ⟨⟨rs, hrl, S5⟩, K5⟩
    obtain ⟨a5, cap5, e5, _⟩ := S5.vs.shape
    subst e5
    obtain ⟨a4, cap4, e4, _⟩ := S4.vs.shape
    rw [List.length_append] at e4 hrl
    subst e4
    have hd1 : decide ((256 : Int) < rs.length) = false := decide_eq_false (by omega)
    have hd2 : decide ((20 : Int) < ((ps.length + qs.length : Nat) : Int)) = false := decide_eq_false (by omega)
    have KK : Keeps h.size h h5 := K1.of_ext (K4.of_ext K5 (Nat.le_refl _)) (Nat.le_refl _)
    have ht5 := KK.at ht hsp
    refine gs3 @hd1 @hd2 @ht5 ?_; (try with_reducible exact trivial)
    have hs5 := getElem?_lt ht5
    have hk1 := K1.size
    have nset : ∀ c, c ≠ sp → ∀ o, (h5.setIfInBounds sp o)[c]? = h5[c]? := fun c q o => h_setN _ _ _ _ q
    have V5 := S4.vs.ext K5
    refine ⟨⟨_, qs, ⟨h_setS _ _ _ hs5, ?_, fun p hp => ?_, R.ls, fun b q => ?_, fun p hp => ?_⟩, by omega, hqn, fun b f => ?_⟩, by have := KK.size; first | omega | (simp; omega), fun b q z => by rw [nset b z]; exact KK.old b q⟩
    · exact V5.mono fun c q => nset c (fun e => by have := (S4.blk q).1; omega) _
    · rcases List.mem_append.1 hp with z | z
      · obtain ⟨p1, C, c1, c2⟩ := R.pg p z
        have n1 : p.blk ≠ sp := fun e => by have := R.top; rw [← e, c2] at this; simp at this
        exact ⟨p1, C, c1, by rw [nset _ n1, KK.old _ (getElem?_lt c2)]; exact c2⟩
      · obtain ⟨p1, C, c1, c2⟩ := hb4 p z
        exact ⟨by omega, C, c1, by rw [nset _ (by omega), K5.old _ (getElem?_lt c2)]; exact c2⟩
    · have := (S4.blk q).1; omega
    · rcases List.mem_append.1 hp with z | z
      · intro e
        obtain ⟨p1, C, c1, c2⟩ := R.pg p z
        have := (S4.blk e).1
        have := getElem?_lt c2
        omega
      · obtain ⟨p1, C, c1, c2⟩ := hb4 p z
        exact Ss.ne S4 c2 (fun cs f => by simp)
    · rcases f with f | f | ⟨p, hp, f⟩
      · exact .inl (.inl f)
      · have := (S4.blk f).1; exact .inr (by omega)
      · rcases List.mem_append.1 hp with z | z
        · exact .inl (.inr (.inr ⟨p, z, f⟩))
        · obtain ⟨p1, _⟩ := hb4 p z; exact .inr (by omega)
/-- where a page is, of five. -/
theorem rat5_c {h : Heap} {lo sp : Nat} {v : Value} {ps : List Pg} (R : RQ h lo sp v ps) (hl : ps.length = 5) (hn : ∀ i (hi : i < ps.length), ps[i].no = [16, 17, 32, 33, 34].getD i 0) :
    Fn Tryz.prog 85 [ptr sp 0, .int .u64 16] h fun r h' => r = .tuple #[.int .i64 0, .bool true] ∧ h' = h := by
  have ht := R.top
  obtain ⟨a, cap, e1, hcap⟩ := R.vs.shape
  have hv := R.vs
  subst e1
  rw [hl] at ht hv
  have hE : ∀ i, i < 5 → ∃ (b o : Nat), a = some ⟨b, o, none⟩ ∧ cellO (o + i * 3) h[b]? = some (.int .u64 ([16, 17, 32, 33, 34].getD i 0 : Nat)) := by
    intro i hi
    have hi' : i < ps.length := by omega
    have hv' := R.vs
    obtain ⟨b, o, cap', e1, _, hb⟩ := hv'.open hi'
    injection e1 with e1 e2 e3
    subst e1
    refine ⟨b, o, rfl, ?_⟩
    have := hv'.field encPg_len hi' (j := 0) (by omega)
    simpa [encPg, hn i hi'] using this
  obtain ⟨b, o, ea, E0⟩ := hE 0 (by omega)
  subst ea
  have E1 : cellO (o + 1 * 3) h[b]? = some (.int .u64 17) := by obtain ⟨b', o', e, E⟩ := hE 1 (by omega); cases e; exact E
  have E2 : cellO (o + 2 * 3) h[b]? = some (.int .u64 32) := by obtain ⟨b', o', e, E⟩ := hE 2 (by omega); cases e; exact E
  have E0 : cellO o h[b]? = some (.int .u64 16) := by simpa using E0
  refine Fn_c Tryz.func85 mixed c85 (by kernel_rfl) ?_; rw [r85]
  refine gs1 @ht ?_; (try with_reducible exact trivial)
  obtain ⟨I, hI⟩ : ∃ I : Nat → Fr → Heap → Prop, I = fun k fr hh => hh = h ∧ ∃ hi : Nat, ((k = 3 ∧ hi = 5) ∨ (k = 2 ∧ hi = 2) ∨ (k = 1 ∧ hi = 1) ∨ (k = 0 ∧ hi = 0)) ∧
      fr = ((((fr0.up 7 (.int .i64 hi)).up 6 (.int .i64 0)).up 1 (.int .u64 16)).up 0 (ptr sp 0)) := ⟨_, rfl⟩
  refine LoopK.use I 3 (by rw [hI]; exact ⟨rfl, 5, .inl ⟨rfl, rfl⟩, rfl⟩) ?_
  intro k fr hh hK
  rw [hI] at hK
  obtain ⟨e0, hi, hc, hf⟩ := hK
  subst hf
  subst e0
  rcases hc with ⟨rfl, rfl⟩ | ⟨rfl, rfl⟩ | ⟨rfl, rfl⟩ | ⟨rfl, rfl⟩
  · have q : ((5 : Int) / 2).toNat = 2 := by decide
    have q' : (5 : Int) / 2 = 2 := by decide
    refine gs6 @ht @E2 @q @q' @Nat.zero_mul @Nat.add_zero ?_; (try with_reducible exact trivial)
    refine ⟨2, by omega, ?_⟩
    rw [hI]
    exact ⟨rfl, 2, by omega, rfl⟩
  · have q : ((2 : Int) / 2).toNat = 1 := by decide
    have q' : (2 : Int) / 2 = 1 := by decide
    refine gs6 @ht @E1 @q @q' @Nat.zero_mul @Nat.add_zero ?_; (try with_reducible exact trivial)
    refine ⟨1, by omega, ?_⟩
    rw [hI]
    exact ⟨rfl, 1, by omega, rfl⟩
  · have q : ((1 : Int) / 2).toNat = 0 := by decide
    have q' : (1 : Int) / 2 = 0 := by decide
    refine gs6 @ht @E0 @q @q' @Nat.zero_mul @Nat.add_zero ?_; (try with_reducible exact trivial)
    refine ⟨0, by omega, ?_⟩
    rw [hI]
    exact ⟨rfl, 0, by omega, rfl⟩
  · refine gs2 @ht @E0 ?_; (try with_reducible exact trivial)
    done
/-- where the second page is, of five. -/
theorem rat17_c {h : Heap} {lo sp : Nat} {v : Value} {ps : List Pg} (R : RQ h lo sp v ps) (hl : ps.length = 5) (hn : ∀ i (hi : i < ps.length), ps[i].no = [16, 17, 32, 33, 34].getD i 0) :
    Fn Tryz.prog 85 [ptr sp 0, .int .u64 17] h fun r h' => r = .tuple #[.int .i64 1, .bool true] ∧ h' = h := by
  have ht := R.top
  obtain ⟨a, cap, e1, hcap⟩ := R.vs.shape
  have hv := R.vs
  subst e1
  rw [hl] at ht hv
  have hE : ∀ i, i < 5 → ∃ (b o : Nat), a = some ⟨b, o, none⟩ ∧ cellO (o + i * 3) h[b]? = some (.int .u64 ([16, 17, 32, 33, 34].getD i 0 : Nat)) := by
    intro i hi
    have hi' : i < ps.length := by omega
    have hv' := R.vs
    obtain ⟨b, o, cap', e1, _, hb⟩ := hv'.open hi'
    injection e1 with e1 e2 e3
    subst e1
    refine ⟨b, o, rfl, ?_⟩
    have := hv'.field encPg_len hi' (j := 0) (by omega)
    simpa [encPg, hn i hi'] using this
  obtain ⟨b, o, ea, E0⟩ := hE 0 (by omega)
  subst ea
  have E1 : cellO (o + 1 * 3) h[b]? = some (.int .u64 17) := by obtain ⟨b', o', e, E⟩ := hE 1 (by omega); cases e; exact E
  have E2 : cellO (o + 2 * 3) h[b]? = some (.int .u64 32) := by obtain ⟨b', o', e, E⟩ := hE 2 (by omega); cases e; exact E
  have E0 : cellO o h[b]? = some (.int .u64 16) := by simpa using E0
  refine Fn_c Tryz.func85 mixed c85 (by kernel_rfl) ?_; rw [r85]
  refine gs1 @ht ?_; (try with_reducible exact trivial)
  obtain ⟨I, hI⟩ : ∃ I : Nat → Fr → Heap → Prop, I = fun k fr hh => hh = h ∧ ∃ hi lo : Nat, ((k = 3 ∧ hi = 5 ∧ lo = 0) ∨ (k = 2 ∧ hi = 2 ∧ lo = 0) ∨ (k = 1 ∧ hi = 1 ∧ lo = 0) ∨ (k = 0 ∧ hi = 1 ∧ lo = 1)) ∧
      fr = ((((fr0.up 7 (.int .i64 hi)).up 6 (.int .i64 lo)).up 1 (.int .u64 17)).up 0 (ptr sp 0)) := ⟨_, rfl⟩
  refine LoopK.use I 3 (by rw [hI]; exact ⟨rfl, 5, 0, .inl ⟨rfl, rfl, rfl⟩, rfl⟩) ?_
  intro k fr hh hK
  rw [hI] at hK
  obtain ⟨e0, hi, lo, hc, hf⟩ := hK
  subst hf
  subst e0
  rcases hc with ⟨rfl, rfl, rfl⟩ | ⟨rfl, rfl, rfl⟩ | ⟨rfl, rfl, rfl⟩ | ⟨rfl, rfl, rfl⟩
  · have q : ((5 : Int) / 2).toNat = 2 := by decide
    have q' : (5 : Int) / 2 = 2 := by decide
    refine gs6 @ht @E2 @q @q' @Nat.zero_mul @Nat.add_zero ?_; (try with_reducible exact trivial)
    refine ⟨2, by omega, ?_⟩
    rw [hI]
    exact ⟨rfl, 2, 0, by omega, rfl⟩
  · have q : ((2 : Int) / 2).toNat = 1 := by decide
    have q' : (2 : Int) / 2 = 1 := by decide
    refine gs6 @ht @E1 @q @q' @Nat.zero_mul @Nat.add_zero ?_; (try with_reducible exact trivial)
    refine ⟨1, by omega, ?_⟩
    rw [hI]
    exact ⟨rfl, 1, 0, by omega, rfl⟩
  · have q : ((1 : Int) / 2).toNat = 0 := by decide
    have q' : (1 : Int) / 2 = 0 := by decide
    refine gs6 @ht @E0 @q @q' @Nat.zero_mul @Nat.add_zero ?_; (try with_reducible exact trivial)
    refine ⟨0, by omega, ?_⟩
    rw [hI]
    exact ⟨rfl, 1, 1, by omega, rfl⟩
  · refine gs4 @ht @E1 @Nat.one_mul @Nat.mul_one ?_; (try with_reducible exact trivial)
    done
end Go.SX.G
namespace Go.SX.G
open Go Go.SX Go.Proofs
set_option maxRecDepth 100000
set_option maxHeartbeats 4000000
theorem map20_c {h : Heap} {s : Nat} {M : MemD} (a n p : Nat) (rs' : List Reg) (r : MR h s M) (hm : M.most = 20) (hz : ∀ y, memAt M y = 0) (hrs : joL (wiL M.rs ⟨a, a + upN n, p⟩) = rs') (h1 : a % 4096 = 0) (h2 : n ≠ 0) (h3 : n ≤ 274877906944) (h4 : p ≤ 7)
    (ha : a < 18446744073709551616) (hsp : spanO a n = some (a + upN n)) (hl : rs'.length ≤ 256) (hp : pagesL rs' ≤ 20) (h8 : n ≤ 8192) :
    Fn Tryz.prog 12 [ptr s 0, .int .u64 a, .int .u64 n, .int .i64 p, .bool true] h fun x h' => x = numE a 0 ∧ ∃ M', MR h' s M' ∧ M'.rs = rs' ∧ M'.most = 20 ∧ (∀ y, memAt M' y = 0) ∧ Fx (mfoot s M) (mfoot s M') h h' ∧ Sr M.D M'.D 8192 (fun _ => False) := by
  refine (mmap_c a n p true r ha (by omega)).mono fun x h' hx => ?_
  cases hx with
  | bad c => exact absurd ⟨h1, h2, h3, by omega, by omega⟩ c
  | noroom c f => cases f
  | nospan c b hb w => simp only [if_true] at hb; subst hb; rw [hsp] at w; cases w
  | lay c b hb w y t ex =>
    simp only [if_true] at hb
    subst hb
    have hp' : ((p : Nat) : Int).toNat = p := rfl
    rw [hp'] at t
    cases t with
    | no c => rw [hrs, hm] at c; omega
    | yes c1 c2 ey M' r' rs byte most base fin fx sr =>
      rcases ex with ⟨e, _⟩ | ⟨_, e⟩
      · rw [ey] at e; cases e
      · exact ⟨e, M', r', rs.trans hrs, most.trans hm, fun y => by rw [byte]; split; rfl; exact hz y, fx, sr.le (by unfold upN; omega) (fun m q => q.elim)⟩
theorem RQ.ge {h : Heap} {lo sp : Nat} {v : Value} {ps : List Pg} (R : RQ h lo sp v ps) {b : Nat} (f : rqf sp v ps b) : lo ≤ b := by
  rcases f with rfl | f | ⟨p, hp, rfl⟩
  · exact R.ls
  · exact R.lv b f
  · exact (R.pg p hp).1
theorem rset16_c {h : Heap} {lo sp : Nat} {v : Value} {ps : List Pg} (j c : Nat) (hj : j < 4096) (hc : c < 256) (R : RQ h lo sp v ps) (hl : ps.length = 5) (hn : ∀ i (hi : i < ps.length), ps[i].no = [16, 17, 32, 33, 34].getD i 0) :
    Fn Tryz.prog 48 [ptr sp 0, .int .u64 (65536 + j : Nat), .int .u8 c] h fun r h' => r = .tuple #[] ∧ RQ h' lo sp v ps ∧ h'.size = h.size ∧ ∀ b, ¬ rqf sp v ps b → h'[b]? = h[b]? := by
  have ht := R.top
  have hv := R.vs
  obtain ⟨b, o, cap, e1, hcap, hb⟩ := hv.open (i := 0) (by omega)
  subst e1
  have d1 : (((65536 + j : Nat) : Int) / 4096) = 16 := by omega
  have d2 : (((65536 + j : Nat) : Int) % 4096) = (j : Int) := by omega
  have hE : cellsO (o + 0 * 3) 3 h[b]? = some (encPg ps[0]) := hv.elem encPg_len (by omega)
  have hE2 : cellO (o + 2) h[b]? = some (.slice (some ⟨ps[0].blk, 0, none⟩) 4096 4096) := by
    have := hv.field encPg_len (i := 0) (j := 2) (by omega) (by omega)
    simpa [encPg] using this
  refine Fn_c Tryz.func48 mixed c48 (by kernel_rfl) ?_; rw [r48]
  refine gs2 @d1 @d2 ?_; (try with_reducible exact trivial)
  refine FnK.val (rat5_c R hl hn) ?_
  rw [hl] at ht
  refine gs4 @ht @hE2 @d1 @d2 ?_; (try with_reducible exact trivial)
  obtain ⟨p1, C, c1, c2⟩ := R.pg _ (List.getElem_mem (show 0 < ps.length by omega))
  have lp := getElem?_lt c2
  have w : wrO h ps[0].blk j [.int .u8 (c : Int)] h[ps[0].blk]? = some (h.setIfInBounds ps[0].blk (.cells (setL C.toList j [.int .u8 (c : Int)]).toArray 5 (0, 0))) := by
    rw [c2, h_wrO, if_pos ⟨by simp; omega, rfl⟩]
  refine gs2 @w @Nat.mul_one ?_; (try with_reducible exact trivial)
  have n1 : sp ≠ ps[0].blk := fun e => by have := R.top; rw [e, c2] at this; simp at this
  have ot : ∀ b, b ≠ ps[0].blk → (h.setIfInBounds ps[0].blk (.cells (setL C.toList j [.int .u8 (c : Int)]).toArray 5 (0, 0)))[b]? = h[b]? := fun b n => h_setN _ _ _ _ n
  refine ⟨⟨(ot sp n1).trans R.top, R.vs.mono fun b e => ot b fun q => R.ne _ (List.getElem_mem (show 0 < ps.length by omega)) (q ▸ e), fun p hp => ⟨(R.pg p hp).1, ?_⟩, R.ls, R.lv, R.ne⟩, fun b hb' => ot b fun e => hb' (.inr (.inr ⟨_, List.getElem_mem (show 0 < ps.length by omega), e⟩))⟩
  by_cases q : p.blk = ps[0].blk
  · refine ⟨_, ?_, by rw [q]; exact h_setS _ _ _ lp⟩
    simp [setL_len, c1]
  · obtain ⟨_, C', k1, k2⟩ := R.pg p hp
    exact ⟨C', k1, (ot _ q).trans k2⟩
theorem rset17_c {h : Heap} {lo sp : Nat} {v : Value} {ps : List Pg} (j c : Nat) (hj : j < 4096) (hc : c < 256) (R : RQ h lo sp v ps) (hl : ps.length = 5) (hn : ∀ i (hi : i < ps.length), ps[i].no = [16, 17, 32, 33, 34].getD i 0) :
    Fn Tryz.prog 48 [ptr sp 0, .int .u64 (69632 + j : Nat), .int .u8 c] h fun r h' => r = .tuple #[] ∧ RQ h' lo sp v ps ∧ h'.size = h.size ∧ ∀ b, ¬ rqf sp v ps b → h'[b]? = h[b]? := by
  have ht := R.top
  have hv := R.vs
  obtain ⟨b, o, cap, e1, hcap, hb⟩ := hv.open (i := 1) (by omega)
  subst e1
  have d1 : (((69632 + j : Nat) : Int) / 4096) = 17 := by omega
  have d2 : (((69632 + j : Nat) : Int) % 4096) = (j : Int) := by omega
  have hE : cellsO (o + 1 * 3) 3 h[b]? = some (encPg ps[1]) := hv.elem encPg_len (by omega)
  have hE2 : cellO (o + 1 * 3 + 2) h[b]? = some (.slice (some ⟨ps[1].blk, 0, none⟩) 4096 4096) := by
    have := hv.field encPg_len (i := 1) (j := 2) (by omega) (by omega)
    simpa [encPg] using this
  refine Fn_c Tryz.func48 mixed c48 (by kernel_rfl) ?_; rw [r48]
  refine gs2 @d1 @d2 ?_; (try with_reducible exact trivial)
  refine FnK.val (rat17_c R hl hn) ?_
  rw [hl] at ht
  refine gs5 @ht @hE2 @d1 @d2 @Nat.one_mul ?_; (try with_reducible exact trivial)
  obtain ⟨p1, C, c1, c2⟩ := R.pg _ (List.getElem_mem (show 1 < ps.length by omega))
  have lp := getElem?_lt c2
  have w : wrO h ps[1].blk j [.int .u8 (c : Int)] h[ps[1].blk]? = some (h.setIfInBounds ps[1].blk (.cells (setL C.toList j [.int .u8 (c : Int)]).toArray 5 (0, 0))) := by
    rw [c2, h_wrO, if_pos ⟨by simp; omega, rfl⟩]
  refine gs2 @w @Nat.mul_one ?_; (try with_reducible exact trivial)
  have n1 : sp ≠ ps[1].blk := fun e => by have := R.top; rw [e, c2] at this; simp at this
  have ot : ∀ b, b ≠ ps[1].blk → (h.setIfInBounds ps[1].blk (.cells (setL C.toList j [.int .u8 (c : Int)]).toArray 5 (0, 0)))[b]? = h[b]? := fun b n => h_setN _ _ _ _ n
  refine ⟨⟨(ot sp n1).trans R.top, R.vs.mono fun b e => ot b fun q => R.ne _ (List.getElem_mem (show 1 < ps.length by omega)) (q ▸ e), fun p hp => ⟨(R.pg p hp).1, ?_⟩, R.ls, R.lv, R.ne⟩, fun b hb' => ot b fun e => hb' (.inr (.inr ⟨_, List.getElem_mem (show 1 < ps.length by omega), e⟩))⟩
  by_cases q : p.blk = ps[1].blk
  · refine ⟨_, ?_, by rw [q]; exact h_setS _ _ _ lp⟩
    simp [setL_len, c1]
  · obtain ⟨_, C', k1, k2⟩ := R.pg p hp
    exact ⟨C', k1, (ot _ q).trans k2⟩
theorem rset_c {h : Heap} {lo sp : Nat} {v : Value} {ps : List Pg} (j c : Nat) (hj : j < 8192) (hc : c < 256) (R : RQ h lo sp v ps) (hl : ps.length = 5) (hn : ∀ i (hi : i < ps.length), ps[i].no = [16, 17, 32, 33, 34].getD i 0) :
    Fn Tryz.prog 48 [ptr sp 0, .int .u64 (65536 + j : Nat), .int .u8 c] h fun r h' => r = .tuple #[] ∧ RQ h' lo sp v ps ∧ h'.size = h.size ∧ ∀ b, ¬ rqf sp v ps b → h'[b]? = h[b]? := by
  by_cases q : j < 4096
  · exact rset16_c j c q hc R hl hn
  · have := rset17_c (j - 4096) c (by omega) hc R hl hn
    rw [show 69632 + (j - 4096) = 65536 + j by omega] at this
    exact this
theorem rlays_c {h : Heap} {lo sp : Nat} {v cv : Value} {ps : List Pg} {cs : List Nat} (hcv : Vs h cv encB 1 cs) (hb : ∀ x ∈ cs, x < 256) (hlen : cs.length ≤ 8000) (hlo : ∀ b, blk cv = some b → b < lo) (R : RQ h lo sp v ps) (hl : ps.length = 5) (hn : ∀ i (hi : i < ps.length), ps[i].no = [16, 17, 32, 33, 34].getD i 0) :
    Fn Tryz.prog 15 [ptr sp 0, .int .u64 65536, cv] h fun r h' => r = .tuple #[] ∧ RQ h' lo sp v ps ∧ h'.size = h.size ∧ ∀ b, ¬ rqf sp v ps b → h'[b]? = h[b]? := by
  obtain ⟨a, cap, e1, _⟩ := hcv.shape
  subst e1
  refine Fn_c Tryz.func15 mixed c15 (by kernel_rfl) ?_; rw [r15]
  refine gs0 ?_; (try with_reducible exact trivial)
  obtain ⟨I, hI⟩ : ∃ I : Nat → Fr → Heap → Prop, I = fun k fr g => ∃ i, i + k = cs.length ∧ RQ g lo sp v ps ∧ g.size = h.size ∧ (∀ b, ¬ rqf sp v ps b → g[b]? = h[b]?) ∧
      fr = ((((fr0.up 6 (.int .i64 i)).up 2 (.slice a cs.length cap)).up 1 (.int .u64 65536)).up 0 (ptr sp 0)) := ⟨_, rfl⟩
  refine LoopK.use I cs.length (by rw [hI]; exact ⟨0, by omega, R, rfl, fun _ _ => rfl, rfl⟩) ?_
  intro k fr g hK
  rw [hI] at hK
  obtain ⟨i, hk, R1, z1, o1, hf⟩ := hK
  subst hf
  by_cases hi : i < cs.length
  · have d1 : decide ((i : Int) < cs.length) = true := decide_eq_true (by omega)
    obtain ⟨b, o, cap', e1, _, hbb⟩ := hcv.open hi
    cases e1
    have hE : cellO (o + i) g[b]? = some (.int .u8 (cs[i] : Nat)) := by
      rw [o1 b (fun f => by have := R.ge f; have := hlo b rfl; omega)]
      have := hcv.field encB_len hi (j := 0) (by omega)
      simpa [encB] using this
    have w1 : IntKind.u64.wrap (i : Int) = (i : Int) := by rw [wrap_u64]; omega
    have w2 : IntKind.u64.wrap (65536 + (i : Int)) = ((65536 + i : Nat) : Int) := by rw [wrap_u64]; omega
    have e2 : (65536 + (i : Int)) = ((65536 + i : Nat) : Int) := by omega
    have d2 : decide (((65536 + i : Nat) : Int) < 274877906944) = true := decide_eq_true (by omega)
    refine gs7 @d1 @hE @w1 @w2 @e2 @d2 @Nat.mul_one ?_; (try with_reducible exact trivial)
    refine FnK.use (rset_c i cs[i] (by omega) (hb _ (List.getElem_mem hi)) R1 hl hn) ?_
    intro x h2 ⟨e3, R2, z2, o2⟩
    refine gs0 ?_; (try with_reducible exact trivial)
    refine ⟨k - 1, by omega, ?_⟩
    rw [hI]
    exact ⟨i + 1, by omega, R2, by omega, fun b hb' => by rw [o2 b hb', o1 b hb'], rfl⟩
  · have d1 : decide ((i : Int) < cs.length) = false := decide_eq_false (by omega)
    refine gs1 @d1 ?_; (try with_reducible exact trivial)
    exact ⟨R1, z1, o1⟩
end Go.SX.G
namespace Go.SX.G
open Go Go.SX Go.Proofs
set_option maxRecDepth 100000
set_option maxHeartbeats 8000000
/-- a state by value. -/
def sv (f : Nat → Value) : Value := .agg (fnL 35 f).toArray
/-- the cells of a state. -/
def okS (f : Nat → Value) : Prop := (∀ i, i < 34 → ∃ n, f i = .int .u64 n) ∧ ∃ n, f 34 = .int .i64 n
theorem okS.one {f : Nat → Value} (ok : okS f) : (fnL 35 f).all one = true := by
  rw [List.all_eq_true]
  intro x hx
  obtain ⟨i, hi, rfl⟩ := List.mem_map.1 hx
  have hi := List.mem_range.1 hi
  by_cases q : i = 34
  · obtain ⟨n, e⟩ := ok.2; rw [q, e]; rfl
  · obtain ⟨n, e⟩ := ok.1 i (by omega); rw [e]; rfl
def hO (g : Nat → Value) : Obj := .cells (fnL 37 g).toArray 120 (0, 0)
def zeroAt (f : Nat → Value) : Nat → Value := fun i => if i = 1 then .int .u64 0 else f i
theorem okS.zero {f : Nat → Value} (ok : okS f) : okS (zeroAt f) := by
  refine ⟨fun i hi => ?_, ?_⟩
  · unfold zeroAt
    by_cases q : i = 1
    · rw [if_pos q]; exact ⟨_, rfl⟩
    · rw [if_neg q]; exact ok.1 i hi
  · unfold zeroAt; rw [if_neg (by omega)]; exact ok.2
theorem hset_c {h : Heap} {hb : Nat} {f g : Nat → Value} (H : h[hb]? = some (hO g)) (ok : okS f) :
    Fn Tryz.prog 64 [ptr hb 0, sv f] h fun x h' => x = .tuple #[] ∧ h'[hb]? = some (hO fun i => if i < 35 then zeroAt f i else g i) ∧ h.size ≤ h'.size ∧ ∀ b, b < h.size → b ≠ hb → h'[b]? = h[b]? := by
  have lh := getElem?_lt H
  have b1 : (h.push (.cells (fnL 35 (fun i => if i = 1 then Value.int .u64 0 else f i)).toArray 63))[hb]? = some (hO g) := by rw [h_pushL _ _ _ lh]; exact H
  unfold hO at b1
  obtain ⟨h2, w2, c2, z2, o2⟩ := fnL_wr (o := 0) (k := 35) (g := fun i => if i = 1 then Value.int .u64 0 else f i) b1 (by omega) ok.zero.one
  rw [h_pushL _ _ _ lh] at w2
  have l1 : cellsO 0 35 (some (.cells (fnL 35 (fun i => if i = 1 then Value.int .u64 0 else f i)).toArray 63 (0, 0))) = some (fnL 35 (fun i => if i = 1 then Value.int .u64 0 else f i)) := by rw [fnL_cells (by omega)]; simp
  have one := ok.one
  unfold sv
  refine Fn_c Tryz.func64 mixed c64 (by kernel_rfl) ?_; rw [r64]
  refine gs5 @fnL_len @fnL_set @l1 @w2 @one ?_; (try with_reducible exact trivial)
  refine ⟨?_, by rw [z2]; simp, fun b hb' n => by rw [o2 b n, h_pushL _ _ _ hb']⟩
  rw [c2]
  refine congrArg (fun l => some (Obj.cells (List.toArray l) 120 (0, 0))) (fnL_congr fun i hi => ?_)
  by_cases q : i < 35
  · rw [if_pos (by omega), if_pos q]; rfl
  · rw [if_neg (by omega), if_neg q]
/-- a machine's state, told. -/
theorem hstate_c {h : Heap} {hb : Nat} {g : Nat → Value} (H : h[hb]? = some (hO g)) (ok : okS g) :
    Fn Tryz.prog 30 [ptr hb 0] h fun x h' => x = sv g ∧ Keeps h.size h h' := by
  have lh := getElem?_lt H
  unfold hO at H
  have one := ok.one
  have l1 : cellsO 0 35 h[hb]? = some (fnL 35 g) := by rw [H, fnL_cells (by omega)]; simp
  refine Fn_c Tryz.func30 mixed c30 (by kernel_rfl) ?_; rw [r30]
  refine gs5 @fnL_len @l1 @one @setL_35 @fnL_take ?_; (try with_reducible exact trivial)
  exact ⟨rfl, Keeps.push _ _ (Nat.le_refl _)⟩
def encW (x : Nat) : List Value := [.int .u64 x]
theorem encW_len (x : Nat) : (encW x).length = 1 := rfl
/-- the registers at first. -/
def rg (ws : List Nat) (i : Nat) : Nat := if i < ws.length then ws.getD i 0 else 131072 + 8 * i
def hs0 (ws : List Nat) : HS := ⟨65536, fun i => if i = 0 then 0 else if i < 32 then (rg ws i : Int) else 0, 0, 0⟩
/-- a machine, made: its cells, its space, its cache; all of it new. -/
structure Mac (h h' : Heap) (hb s c m : Nat) (M : MemD) (t : HS) : Prop where
  H : h'[hb]? = some (.cells (fnL 37 (hg t s c)).toArray 120 (0, 0))
  r : MR h' s M
  k : Ca h' s c m M
  nc : ¬ mfoot s M c
  nm : ¬ mfoot s M m
  nh : ¬ mfoot s M hb
  hc : hb ≠ c
  hm : hb ≠ m
  ft : ∀ b, mfoot s M b → h.size ≤ b
  lo : h.size ≤ hb ∧ h.size ≤ c ∧ h.size ≤ m
  K : Keeps h.size h h'
theorem cnew_g (h : Heap) (on : Bool) : Fn Tryz.prog 16 [.bool on] h fun x h' => x = ptr (h.size + 1) 0 ∧ h'[h.size + 1]? = some (.cells #[.bool on, .map (some h.size), .pointer none] 102 (0, 0)) ∧ h'[h.size]? = some (.map #[] 0) ∧ h'.size = h.size + 2 ∧ Keeps h.size h h' := by
  refine Fn_c Tryz.func16 mixed c16 (by kernel_rfl) ?_; rw [r16]
  refine gs0 ?_; (try with_reducible exact trivial)
  exact (Keeps.push _ _ (Nat.le_refl _)).push' (Nat.le_refl _)
def zS (i : Nat) : Value := if i = 34 then .int .i64 0 else .int .u64 0
def g0 (s cb : Nat) (i : Nat) : Value := if i = 35 then ptr s 0 else if i = 36 then ptr cb 0 else zS i
theorem hnew_c (h : Heap) (s cb : Nat) : Fn Tryz.prog 63 [ptr s 0, ptr cb 0] h fun x h' => x = ptr h.size 0 ∧ h' = h.push (hO (g0 s cb)) := by
  refine Fn_c Tryz.func63 mixed c63 (by kernel_rfl) ?_; rw [r63]
  refine gs0 ?_; (try with_reducible exact trivial)
  rfl
/-- the states while they are filled. -/
def TT (ws : List Nat) (i j : Nat) : Value := if j = 34 then .int .i64 0 else if j = 0 then .int .u64 65536 else if 2 ≤ j ∧ j ≤ i then .int .u64 (rg ws (j - 1) : Nat) else .int .u64 0
def KK (ws : List Nat) (sp i j : Nat) : Value := if j = 35 then ptr sp 0 else TT ws i j
theorem TT_ok (ws : List Nat) (i : Nat) : okS (TT ws i) := by
  refine ⟨fun j hj => ?_, ⟨_, by unfold TT; rw [if_pos rfl]⟩⟩
  unfold TT
  rw [if_neg (by omega)]
  split
  · exact ⟨_, rfl⟩
  · split
    · exact ⟨_, rfl⟩
    · exact ⟨_, rfl⟩
theorem TT_next (ws : List Nat) (i : Nat) (hi : 1 ≤ i) (hi2 : i < 32) : (fun j => if j = 1 + i then Value.int .u64 ((rg ws i : Nat) : Int) else TT ws i j) = TT ws (i + 1) := by
  funext j
  unfold TT
  by_cases q : j = 1 + i
  · rw [if_pos q, if_neg (by omega), if_neg (by omega), if_pos (by omega), q, show 1 + i - 1 = i by omega]
  · rw [if_neg q]
    by_cases q2 : 2 ≤ j ∧ j ≤ i
    · rw [if_pos q2, if_pos (show 2 ≤ j ∧ j ≤ i + 1 by omega)]
    · rw [if_neg q2, if_neg (show ¬ (2 ≤ j ∧ j ≤ i + 1) by omega)]
theorem KK_next (ws : List Nat) (sp i : Nat) (hi : 1 ≤ i) (hi2 : i < 32) : (fun j => if j = 1 + i then Value.int .u64 ((rg ws i : Nat) : Int) else KK ws sp i j) = KK ws sp (i + 1) := by
  funext j
  unfold KK
  by_cases q : j = 35
  · rw [if_pos q, if_pos q, if_neg (by omega)]
  · rw [if_neg q, if_neg q, ← TT_next ws i hi hi2]
/-- the bytes at first. -/
def codeF (cs : List Nat) (y : Nat) : Nat := if 65536 ≤ y ∧ y < 65536 + cs.length then cs.getD (y - 65536) 0 else 0
def RS3 : List Reg := [⟨65536, 73728, 7⟩, ⟨131072, 139264, 3⟩, ⟨139264, 143360, 1⟩]
theorem RS3_code {y : Nat} (h1 : 65536 ≤ y) (h2 : y < 73728) : (atL RS3 y).isSome = true := by
  simp only [atL, RS3, List.find?_cons, inR]
  rw [decide_eq_true (show 65536 ≤ y ∧ y < 73728 from ⟨h1, h2⟩)]
  rfl
theorem machines_g {h : Heap} {cv rv : Value} {cs ws : List Nat} (hcv : Vs h cv encB 1 cs) (hb : ∀ x ∈ cs, x < 256) (hlen : cs.length ≤ 8000) (hrv : Vs h rv encW 1 ws) (hw : ∀ x ∈ ws, x < 18446744073709551616) (on : Bool) :
    Fn Tryz.prog 29 [cv, rv, .bool on] h fun x h' => ∃ hb kb s c m M, x = .tuple #[ptr hb 0, ptr kb 0] ∧ Mac h h' hb s c m M (hs0 ws) ∧ M.rs = RS3 ∧ (∀ j, j < cs.length → memAt M (65536 + j) = cs.getD j 0) ∧ (SInv M.D ∧ M.D.clock < 100000) ∧ ∀ y, memAt M y = codeF cs y := by
  obtain ⟨ca, cc, ec, _⟩ := hcv.shape
  obtain ⟨ra, rc, er, _⟩ := hrv.shape
  have hcv0 := hcv
  rw [ec] at hcv ⊢
  rw [er] at hrv ⊢
  refine Fn_c Tryz.func29 mixed c29 (by kernel_rfl) ?_; rw [r29]
  refine gs0 ?_; (try with_reducible exact trivial)
  refine FnK.use (mnew_c h 20 (by omega)) ?_
  intro y h1 ⟨s, M0, e1, r0, K1, hF0, m1, m2, m3, m4, m5, m6⟩
  have s1 := K1.size
  rw [e1]
  refine gs0 ?_; (try with_reducible exact trivial)
  refine FnK.use (rnew20_c h1) ?_
  intro y h2 ⟨e2, e3⟩
  rw [e2]
  have K2 : Keeps h1.size h1 h2 := by rw [e3]; exact Keeps.push _ _ (Nat.le_refl _)
  have Q2 : RQ h2 h.size h1.size (.slice none 0 0) [] := ⟨by rw [e3]; exact h_pushE _ _ _ rfl, Vs.nil _, fun p hp => (by cases hp), by omega, fun b e => (by simp [blk] at e), fun p hp => (by cases hp)⟩
  have z0 : ∀ y, memAt M0 y = 0 := fun y => by unfold memAt byteAt; rw [m2]; rfl
  have ap0 : ∀ b, rqf h1.size (.slice none 0 0) [] b → ¬ mfoot s M0 b := by
    rintro b (rfl | f | ⟨p, hp, _⟩) g
    · have := r0.lt g; omega
    · simp [blk] at f
    · cases hp
  have r2 := r0.ext K2
  refine gs0 ?_; (try with_reducible exact trivial)
  refine FnK.use (map20_c 65536 8192 7 [⟨65536, 73728, 7⟩] r2 m3 z0 (by rw [m1]; decide) (by omega) (by omega) (by omega) (by omega) (by omega) (by decide) (by decide) (by decide) (by omega)) ?_
  intro y h3 ⟨_, M1, r3, q3, m3', z3, fx3, sr3⟩
  have k3 : ∀ b, rqf h1.size (.slice none 0 0) [] b → h3[b]? = h2[b]? := fun b f => fx3.old b (Q2.lt f) (ap0 b f)
  have Q3 := Q2.monof k3
  have ap3 : ∀ b, rqf h1.size (.slice none 0 0) [] b → ¬ mfoot s M1 b := fun b f g => by
    rcases fx3.ft b g with q | q
    · exact ap0 b f q
    · have := Q2.lt f; omega
  have s3 := fx3.size
  have s2 := K2.size
  refine gs0 ?_; (try with_reducible exact trivial)
  refine FnK.use (rlay_c 16 2 h1.size 7 Q3 (by omega) (by omega) (by simp) (by omega) (fun p hp => by cases hp)) ?_
  intro y h4 ⟨⟨v4, p4, Q4, l4, n4, f4⟩, s4, o4⟩
  rw [List.nil_append] at Q4 f4
  have r4 : MR h4 s M1 := r3.mono fun b f => o4 b (r3.lt f) fun e => ap3 b (e ▸ .inl rfl) f
  have ap4 : ∀ b, rqf h1.size v4 p4 b → ¬ mfoot s M1 b := fun b f g => by
    rcases f4 b f with q | q
    · exact ap3 b q g
    · have := r3.lt g; omega
  refine gs0 ?_; (try with_reducible exact trivial)
  refine FnK.use (map20_c 131072 8192 3 [⟨65536, 73728, 7⟩, ⟨131072, 139264, 3⟩] r4 m3' z3 (by rw [q3]; decide) (by omega) (by omega) (by omega) (by omega) (by omega) (by decide) (by decide) (by decide) (by omega)) ?_
  intro y h5 ⟨_, M2, r5, q5, m5', z5, fx5, sr5⟩
  have Q5 := Q4.monof fun b f => fx5.old b (Q4.lt f) (ap4 b f)
  have ap5 : ∀ b, rqf h1.size v4 p4 b → ¬ mfoot s M2 b := fun b f g => by
    rcases fx5.ft b g with q | q
    · exact ap4 b f q
    · have := Q4.lt f; omega
  have s5 := fx5.size
  refine gs0 ?_; (try with_reducible exact trivial)
  refine FnK.use (rlay_c 32 2 h1.size 3 Q5 (by omega) (by omega) (by omega) (by omega) (fun p hp => ?_)) ?_
  · obtain ⟨i, hi, rfl⟩ := List.mem_iff_getElem.1 hp
    rw [n4 i hi]; omega
  intro y h6 ⟨⟨v6, p6, Q6, l6, n6, f6⟩, s6, o6⟩
  have r6 : MR h6 s M2 := r5.mono fun b f => o6 b (r5.lt f) fun e => ap5 b (e ▸ .inl rfl) f
  have ap6 : ∀ b, rqf h1.size v6 (p4 ++ p6) b → ¬ mfoot s M2 b := fun b f g => by
    rcases f6 b f with q | q
    · exact ap5 b q g
    · have := r5.lt g; omega
  refine gs0 ?_; (try with_reducible exact trivial)
  refine FnK.use (map20_c 139264 4096 1 RS3 r6 m5' z5 (by rw [q5]; decide) (by omega) (by omega) (by omega) (by omega) (by omega) (by decide) (by decide) (by decide) (by omega)) ?_
  intro y h7 ⟨_, M3, r7, q7, m7', z7, fx7, sr7⟩
  have Q7 := Q6.monof fun b f => fx7.old b (Q6.lt f) (ap6 b f)
  have ap7 : ∀ b, rqf h1.size v6 (p4 ++ p6) b → ¬ mfoot s M3 b := fun b f g => by
    rcases fx7.ft b g with q | q
    · exact ap6 b f q
    · have := Q6.lt f; omega
  have s7 := fx7.size
  refine gs0 ?_; (try with_reducible exact trivial)
  refine FnK.use (rlay_c 34 1 h1.size 1 Q7 (by omega) (by omega) (by rw [List.length_append]; omega) (by omega) (fun p hp => ?_)) ?_
  · rcases List.mem_append.1 hp with z | z
    · obtain ⟨i, hi, rfl⟩ := List.mem_iff_getElem.1 z
      rw [n4 i hi]; omega
    · obtain ⟨i, hi, rfl⟩ := List.mem_iff_getElem.1 z
      rw [n6 i hi]; omega
  intro y h8 ⟨⟨v8, p8, Q8, l8, n8, f8⟩, s8, o8⟩
  have r8 : MR h8 s M3 := r7.mono fun b f => o8 b (r7.lt f) fun e => ap7 b (e ▸ .inl rfl) f
  have ap8 : ∀ b, rqf h1.size v8 ((p4 ++ p6) ++ p8) b → ¬ mfoot s M3 b := fun b f g => by
    rcases f8 b f with q | q
    · exact ap7 b q g
    · have := r7.lt g; omega
  have g1' : ∀ b, mfoot s M1 b → h.size ≤ b := fun b f => by
    rcases fx3.ft b f with q | q
    · exact hF0 b q
    · omega
  have g2' : ∀ b, mfoot s M2 b → h.size ≤ b := fun b f => by
    rcases fx5.ft b f with q | q
    · exact g1' b q
    · omega
  have g3' : ∀ b, mfoot s M3 b → h.size ≤ b := fun b f => by
    rcases fx7.ft b f with q | q
    · exact g2' b q
    · omega
  have old8 : ∀ b, b < h.size → h8[b]? = h[b]? := fun b hb' => by
    rw [o8 b (by omega) (by omega), fx7.old b (by omega) (fun f => by have := g2' b f; omega), o6 b (by omega) (by omega), fx5.old b (by omega) (fun f => by have := g1' b f; omega), o4 b (by omega) (by omega), fx3.old b (by omega) (fun f => by have := hF0 b f; omega), K2.old b (by omega), K1.old b hb']
  have hcv8 : Vs h8 (.slice ca cs.length cc) encB 1 cs := hcv.mono fun b e => old8 b (hcv.blk_lt e)
  refine gs0 ?_; (try with_reducible exact trivial)
  refine FnK.use (mput_c 65536 r8 (by omega) (by omega) hcv8 (fun b e f => by have := g3' b f; have := hcv.blk_lt e; omega) hb) ?_
  intro y h9 ⟨M4, P⟩
  have Q9 := Q8.monof fun b f => P.g.fx.old b (Q8.lt f) (ap8 b f)
  have ap9 : ∀ b, rqf h1.size v8 ((p4 ++ p6) ++ p8) b → ¬ mfoot s M4 b := fun b f g => by
    rcases P.g.fx.ft b g with q | q
    · exact ap8 b f q
    · have := Q8.lt f; omega
  have s9 := P.g.fx.size
  have old9 : ∀ b, b < h.size → h9[b]? = h[b]? := fun b hb' => by rw [P.g.fx.old b (by omega) (fun f => by have := g3' b f; omega), old8 b hb']
  have g4' : ∀ b, mfoot s M4 b → h.size ≤ b := fun b f => by
    rcases P.g.fx.ft b f with q | q
    · exact g3' b q
    · omega
  have hcv9 : Vs h9 (.slice ca cs.length cc) encB 1 cs := hcv.mono fun b e => old9 b (hcv.blk_lt e)
  have lps : ((p4 ++ p6) ++ p8).length = 5 := by simp; omega
  have nps : ∀ i (hi : i < ((p4 ++ p6) ++ p8).length), ((p4 ++ p6) ++ p8)[i].no = [16, 17, 32, 33, 34].getD i 0 := by
    intro i hi
    rw [lps] at hi
    by_cases q1 : i < 2
    · rw [List.getElem_append_left (by simp; omega), List.getElem_append_left (by omega), n4 i (by omega)]
      rcases (show i = 0 ∨ i = 1 by omega) with rfl | rfl <;> rfl
    · by_cases q2 : i < 4
      · rw [List.getElem_append_left (by simp; omega), List.getElem_append_right (by omega), n6 _ (by omega), l4]
        rcases (show i = 2 ∨ i = 3 by omega) with rfl | rfl <;> rfl
      · rw [List.getElem_append_right (by simp; omega), n8 _ (by simp; omega)]
        have : i = 4 := by omega
        subst this
        simp [l4, l6]
  refine gs0 ?_; (try with_reducible exact trivial)
  refine FnK.use (rlays_c hcv9 hb hlen (fun b e => hcv.blk_lt e) Q9 lps nps) ?_
  intro y h10 ⟨_, Q10, z10, o10⟩
  have r10 : MR h10 s M4 := P.g.r.mono fun b f => o10 b fun q => ap9 b q f
  have old10 : ∀ b, b < h.size → h10[b]? = h[b]? := fun b hb' => by rw [o10 b (fun f => by have := Q9.ge f; omega), old9 b hb']
  refine gs0 ?_; (try with_reducible exact trivial)
  refine FnK.use (cnew_g h10 on) ?_
  intro y h11 ⟨e11, c11, cm11, z11, K11⟩
  rw [e11]
  refine gs0 ?_; (try with_reducible exact trivial)
  refine FnK.use (hnew_c h11 s (h10.size + 1)) ?_
  intro y h12 ⟨e12, e13⟩
  rw [e12]
  refine gs0 ?_; (try with_reducible exact trivial)
  have lh11 : (h12[h11.size]? : Option Obj) = some (hO (g0 s (h10.size + 1))) := by rw [e13]; exact h_pushE _ _ _ rfl
  have s11 := K11.size
  have s12 : h12.size = h11.size + 1 := by rw [e13]; simp
  have old12 : ∀ b, b < h.size → h12[b]? = h[b]? := fun b hb' => by rw [e13, h_pushL _ _ _ (by omega), K11.old b (by omega), old10 b hb']
  obtain ⟨I, hI⟩ : ∃ I : Nat → Fr → Heap → Prop, I = fun k fr hh => ∃ i : Nat, 1 ≤ i ∧ i + k = 32 ∧ hh[h12.size + 1]? = some (.cells (fnL 35 (TT ws i)).toArray 63 (0, 0)) ∧ hh[h12.size]? = some (.cells (fnL 36 (KK ws h1.size i)).toArray 117 (0, 0)) ∧ hh.size = h12.size + 2 ∧ (∀ b, b < h12.size → hh[b]? = h12[b]?) ∧
      fr = (((((fr0.up 13 (.int .i64 i)).up 12 (ptr (h12.size + 1) 0)).up 11 (ptr h12.size 0)).up 10 (ptr h11.size 0)).up 1 (.slice ra ws.length rc)) := ⟨_, rfl⟩
  refine LoopK.use I 31 ?_ ?_
  · rw [hI]
    refine ⟨1, by omega, by omega, ?_, ?_, by simp, fun b hb' => ?_, rfl⟩
    · exact h_pushE _ _ _ (by simp)
    · rw [h_pushL _ _ _ (by simp)]
      exact h_pushE _ _ _ rfl
    · rw [h_pushL _ _ _ (by simp; omega), h_pushL _ _ _ hb']
  intro k fr hh hK
  rw [hI] at hK
  obtain ⟨i, hi1, hk, ht, hkk, zz, oo, hf⟩ := hK
  subst hf
  by_cases hi : i < 32
  · have d1 : decide ((i : Int) < 32) = true := decide_eq_true (by omega)
    have d2 : decide ((i : Int) < 0) = false := decide_eq_false (by omega)
    have w1 : IntKind.u64.wrap ((i : Int) * 8) = ((8 * i : Nat) : Int) := by rw [wrap_u64]; omega
    have w2 : IntKind.u64.wrap (131072 + ((8 * i : Nat) : Int)) = ((131072 + 8 * i : Nat) : Int) := by rw [wrap_u64]; omega
    have w3 : 131072 + ((8 * i : Nat) : Int) = ((131072 + 8 * i : Nat) : Int) := by omega
    obtain ⟨h14, x14, c14, z14, o14⟩ := fnL_one (o := 1 + i) (v := .int .u64 ((131072 + 8 * i : Nat) : Int)) ht (by omega) rfl
    by_cases hr : i < ws.length
    · have d3 : decide ((i : Int) < ws.length) = true := decide_eq_true (by omega)
      obtain ⟨rb, ro, rcap, er2, _, lrb⟩ := hrv.open hr
      cases er2
      have eg : rg ws i = ws[i] := by unfold rg; rw [if_pos hr, List.getD_eq_getElem?_getD, List.getElem?_eq_getElem hr]; rfl
      have hE : cellO (ro + i) h[rb]? = some (.int .u64 (rg ws i : Nat)) := by rw [eg]; have := hrv.field encW_len hr (j := 0) (by omega); simpa [encW] using this
      have hE' : h14[rb]? = h[rb]? := by rw [o14 rb (by omega), oo rb (by omega), old12 rb lrb]
      obtain ⟨h15, x15, c15, z15, o15⟩ := fnL_one (o := 1 + i) (v := .int .u64 ((rg ws i : Nat) : Int)) c14 (by omega) rfl
      have c15' : h15[h12.size + 1]? = some (.cells (fnL 35 (TT ws (i + 1))).toArray 63 (0, 0)) := by
        rw [c15, ← TT_next ws i hi1 hi]
        refine congrArg (fun l => some (Obj.cells (List.toArray l) 63 (0, 0))) (fnL_congr fun j hj => ?_)
        by_cases q : j = 1 + i
        · rw [if_pos q, if_pos q]
        · rw [if_neg q, if_neg q, if_neg q]
      have k15 := (o15 h12.size (by omega)).trans ((o14 h12.size (by omega)).trans hkk)
      have l15 : cellO (1 + i) h15[h12.size + 1]? = some (.int .u64 ((rg ws i : Nat) : Int)) := by
        rw [c15', fnL_cell (by omega), ← TT_next ws i hi1 hi]
        exact congrArg some (if_pos rfl)
      obtain ⟨h16, x16, c16, z16, o16⟩ := fnL_one (o := 1 + i) (v := .int .u64 ((rg ws i : Nat) : Int)) k15 (by omega) rfl
      rw [KK_next ws _ i hi1 hi] at c16
      refine gs13 @d1 @d2 @d3 @w1 @w2 @w3 @x14 @hE' @hE @x15 @l15 @x16 @Nat.mul_one ?_; (try with_reducible exact trivial)
      refine ⟨k - 1, by omega, ?_⟩
      rw [hI]
      exact ⟨i + 1, by omega, by omega, (o16 _ (by omega)).trans c15', c16, by omega, fun b hb' => by rw [o16 b (by omega), o15 b (by omega), o14 b (by omega), oo b hb'], rfl⟩
    · have d3 : decide ((i : Int) < ws.length) = false := decide_eq_false (by omega)
      have eg : rg ws i = 131072 + 8 * i := by unfold rg; rw [if_neg hr]
      rw [← eg] at x14 c14 w2 w3
      have c14' : h14[h12.size + 1]? = some (.cells (fnL 35 (TT ws (i + 1))).toArray 63 (0, 0)) := by rw [c14, ← TT_next ws i hi1 hi]
      have k14 := (o14 h12.size (by omega)).trans hkk
      have l14 : cellO (1 + i) h14[h12.size + 1]? = some (.int .u64 ((rg ws i : Nat) : Int)) := by
        rw [c14', fnL_cell (by omega), ← TT_next ws i hi1 hi]
        exact congrArg some (if_pos rfl)
      obtain ⟨h15, x15, c15, z15, o15⟩ := fnL_one (o := 1 + i) (v := .int .u64 ((rg ws i : Nat) : Int)) k14 (by omega) rfl
      rw [KK_next ws _ i hi1 hi] at c15
      refine gs10 @d1 @d2 @d3 @w1 @w2 @w3 @x14 @l14 @x15 @Nat.mul_one ?_; (try with_reducible exact trivial)
      refine ⟨k - 1, by omega, ?_⟩
      rw [hI]
      exact ⟨i + 1, by omega, by omega, (o15 _ (by omega)).trans c14', c15, by omega, fun b hb' => by rw [o15 b (by omega), o14 b (by omega), oo b hb'], rfl⟩
  · have d1 : decide ((i : Int) < 32) = false := decide_eq_false (by omega)
    have ei : i = 32 := by omega
    subst ei
    have l35 : cellsO 0 35 hh[h12.size + 1]? = some (fnL 35 (TT ws 32)) := by rw [ht, fnL_cells (by omega)]; simp
    refine gs2 @d1 @l35 ?_; (try with_reducible exact trivial)
    refine FnK.use (hset_c (f := TT ws 32) ((oo _ (by omega)).trans lh11) (TT_ok ws 32)) ?_
    intro x h16 ⟨e16, H16, s16, o16⟩
    refine gs0 ?_; (try with_reducible exact trivial)
    have ge4 : ∀ b, mfoot s M4 b → b < h10.size := fun b f => r10.lt f
    have old16 : ∀ b, b < h11.size → h16[b]? = h11[b]? := fun b hb' => by
      rw [o16 b (by omega) (by omega), oo b (by omega), e13, h_pushL _ _ _ hb']
    have r16 : MR h16 s M4 := r10.mono fun b f => by rw [old16 b (by have := ge4 b f; omega), K11.old b (ge4 b f)]
    have hcell : h16[h11.size]? = some (.cells (fnL 37 (hg (hs0 ws) s (h10.size + 1))).toArray 120 (0, 0)) := by
      rw [H16]
      refine congrArg (fun l => some (Obj.cells (List.toArray l) 120 (0, 0))) (fnL_congr fun j hj => ?_)
      unfold hg zeroAt TT HS.cell hs0 g0
      by_cases q : j < 35
      · rw [if_pos q, if_pos q]
        by_cases q0 : j = 0
        · rw [if_neg (by omega), if_neg (by omega), if_pos q0, if_pos q0]
        · by_cases q1 : j = 1
          · rw [if_pos q1, if_neg q0, if_pos (by omega)]
            show Value.int .u64 0 = Value.int .u64 (if j - 1 = 0 then 0 else if j - 1 < 32 then (rg ws (j - 1) : Int) else 0)
            rw [if_pos (by omega)]
          · rw [if_neg q1]
            by_cases q34 : j = 34
            · rw [if_pos q34, if_neg q0, if_neg (by omega), if_neg (by omega)]
            · rw [if_neg q34, if_neg q0, if_neg q0]
              by_cases q33 : j = 33
              · rw [if_neg (by omega), if_neg (by omega), if_pos q33]
              · rw [if_pos (by omega), if_pos (by omega)]
                show Value.int .u64 (rg ws (j - 1) : Int) = Value.int .u64 (if j - 1 = 0 then 0 else if j - 1 < 32 then (rg ws (j - 1) : Int) else 0)
                rw [if_neg (by omega), if_pos (by omega)]
      · rw [if_neg q, if_neg q]
        by_cases q35 : j = 35
        · rw [if_pos q35, if_pos q35]
        · rw [if_neg q35, if_neg q35, if_pos (by omega)]
    have iv0 : SInv M0.D := ⟨by rw [m6.2.1]; omega, fun m => by rw [m6.2.2]; show (0 : Nat) ≤ _; omega⟩
    obtain ⟨i1, _, k1, _⟩ := sr3 (by rw [m6.1]; omega) iv0
    rw [m6.1] at k1
    obtain ⟨i2, _, k2, _⟩ := sr5 (by omega) i1
    obtain ⟨i3, _, k3, _⟩ := sr7 (by omega) i2
    obtain ⟨i4, _, k4, _⟩ := P.g.sr (by omega) i3
    have cc16 : h16[h10.size + 1]? = some (.cells #[.bool on, .map (some h10.size), .pointer none] 102 (0, 0)) := by rw [old16 _ (by omega)]; exact c11
    have cm16 : h16[h10.size]? = some (.map #[] 0) := by rw [old16 _ (by omega)]; exact cm11
    have nfc : ∀ j, h10.size ≤ j → ¬ mfoot s M4 j := fun j q f => by have := ge4 j f; omega
    have byt : ∀ j, j < cs.length → memAt M4 (65536 + j) = cs.getD j 0 := fun j hj => by
      rw [P.byte, q7, if_pos ⟨by omega, by omega, by omega, RS3_code (by omega) (by omega)⟩, Nat.add_sub_cancel_left]
    have allb : ∀ y, memAt M4 y = codeF cs y := fun y => by
      rw [P.byte, q7]
      unfold codeF
      by_cases q : 65536 ≤ y ∧ y < 65536 + cs.length
      · rw [if_pos q, if_pos ⟨q.1, q.2, by omega, RS3_code (by omega) (by omega)⟩]
      · rw [if_neg q, if_neg (fun z => q ⟨z.1, z.2.1⟩)]; exact z7 y
    have KK16 : Keeps h.size h h16 := ⟨by omega, fun b hb' => by rw [old16 b (by omega), K11.old b (by omega), old10 b hb']⟩
    cases on with
    | true =>
      exact ⟨h11.size, h12.size, s, h10.size + 1, h10.size, M4, rfl, ⟨hcell, r16, .inr ⟨0, .pointer none, [], ⟨cc16, cm16, by omega, by simp, List.Pairwise.nil⟩, .inl rfl, fun e => by cases e⟩, nfc _ (by omega), nfc _ (by omega), nfc _ (by omega), by omega, by omega, g4', ⟨by omega, by omega, by omega⟩, KK16⟩, P.rs.trans q7, byt, ⟨i4, by omega⟩, allb⟩
    | false =>
      exact ⟨h11.size, h12.size, s, h10.size + 1, h10.size + 1, M4, rfl, ⟨hcell, r16, .inl ⟨_, _, cc16, rfl⟩, nfc _ (by omega), nfc _ (by omega), nfc _ (by omega), by omega, by omega, g4', ⟨by omega, by omega, by omega⟩, KK16⟩, P.rs.trans q7, byt, ⟨i4, by omega⟩, allb⟩
end Go.SX.G
namespace Go.SX.G
open Go Go.SX Go.Proofs
set_option maxRecDepth 100000
set_option maxHeartbeats 8000000
theorem dec17669 : decodeL 17669 = ⟨22, 10, 0, 0, 1, 0, 2⟩ := by kernel_rfl
theorem read17669 {rs : List Reg} {B : Nat → Nat} {a : Nat} (ha : a % 2 = 0) (F : FirstN rs a 2 4 none) (h0 : B a = 5) (h1 : B (a + 1) = 69) : readF rs B a = (⟨22, 10, 0, 0, 1, 0, 2⟩, sOk) := by
  have hf : fetchF rs B a = (17669, none) := by
    unfold fetchF
    rw [if_neg (by omega), ← F.eqF, h0, h1]
    rfl
  unfold readF
  rw [hf]
  have e : ((17669 : Nat) : Int) = 17669 := rfl
  simp only [e, dec17669]
  rfl
theorem hs0_ok {ws : List Nat} (hw : ∀ x ∈ ws, x < 18446744073709551616) : (hs0 ws).ok := by
  refine ⟨by show u64R 65536; unfold u64R; omega, fun i => ?_, zero_R, by show (0 : Int) ≤ 0; omega⟩
  show u64R (if i = 0 then 0 else if i < 32 then (rg ws i : Int) else 0)
  split
  · exact zero_R
  · split
    · refine nat_R ?_
      unfold rg
      split
      · rename_i q
        rw [List.getD_eq_getElem?_getD, List.getElem?_eq_getElem q]
        exact hw _ (List.getElem_mem q)
      · omega
    · exact zero_R
theorem step17669 {rs : List Reg} {B : Nat → Nat} (h : readF rs B 65536 = (⟨22, 10, 0, 0, 1, 0, 2⟩, sOk)) : (stepF rs B (hs0 [])).st = sOk ∧ (stepF rs B (hs0 [])).t.x 10 = 1 := by
  have e : (hs0 []).pc.toNat = 65536 := rfl
  have k : sOk.kind = 0 := rfl
  have d1 : (doF rs B (hs0 []) ⟨22, 10, 0, 0, 1, 0, 2⟩).st.kind = 0 := by rfl
  have d2 : (doF rs B (hs0 []) ⟨22, 10, 0, 0, 1, 0, 2⟩).t.x 10 = 1 := by rfl
  unfold stepF
  simp only [e, h, if_pos k, if_pos d1]
  exact ⟨trivial, d2⟩
theorem hs_okS (t : HS) : okS t.cell := by
  refine ⟨fun i hi => ?_, ⟨t.hn, rfl⟩⟩
  unfold HS.cell
  split
  · exact ⟨_, rfl⟩
  · split
    · exact ⟨_, rfl⟩
    · rw [if_pos (by omega)]; exact ⟨_, rfl⟩
/-- a machine's state, told. -/
theorem hstate_g {h : Heap} {hb s c : Nat} {t : HS} (H : h[hb]? = some (.cells (fnL 37 (hg t s c)).toArray 120 (0, 0))) :
    Fn Tryz.prog 30 [ptr hb 0] h fun x h' => x = sv t.cell ∧ Keeps h.size h h' := by
  have ok : okS (hg t s c) := by
    have := hs_okS t
    refine ⟨fun i hi => ?_, ?_⟩
    · unfold hg; rw [if_pos (by omega)]; exact this.1 i hi
    · show ∃ n, hg t s c 34 = .int .i64 n
      unfold hg; rw [if_pos (by omega)]; exact this.2
  have e : sv (hg t s c) = sv t.cell := by unfold sv; rw [hg_cells]
  rw [← e]
  exact hstate_c H ok
theorem idx_reg (t : HS) (n : Nat) (hn : n < 32) : idxV Tryz.prog 59 (.agg ((fnL 35 t.cell).extract 1 33).toArray) (.int .i64 n) = some (.int .u64 (t.x n)) := by
  have ex : ((fnL 35 t.cell).extract 1 33) = fnL 32 (fun j => t.cell (1 + j)) := by
    apply List.ext_getElem?
    intro j
    rw [List.extract_eq_take_drop, List.getElem?_take, List.getElem?_drop]
    by_cases q : j < 32
    · rw [if_pos (by omega), fnL_get _ _ _ (by omega), fnL_get _ _ _ q]
    · rw [if_neg (by omega), List.getElem?_eq_none (by rw [fnL_len]; omega)]
  rw [ex]
  have ar : arE Tryz.prog 59 = some (32, 29, 1) := by kernel_rfl
  unfold idxV
  simp only [ar, Option.bind_some]
  rw [if_pos (by omega)]
  unfold partV
  rw [sh29]
  show (fnL 32 _).toArray[((n : Nat) : Int).toNat * 1]? = _
  rw [Int.toNat_natCast, Nat.mul_one, List.getElem?_toArray, fnL_get _ _ _ hn, t.cellX n hn]
theorem answers11_g (h : Heap) : Fn Tryz.prog 28 [] h fun x h' => x = .bool true ∧ Keeps h.size h h' := by
  refine Fn_c Tryz.func28 mixed c28 (by kernel_rfl) ?_; rw [r28]
  refine gs0 ?_; (try with_reducible exact trivial)
  have K0 := Keeps.push h (.cells #[.int .u8 5, .int .u8 69] 5) (Nat.le_refl _)
  have hv : Vs (h.push (.cells #[.int .u8 5, .int .u8 69] 5)) (.slice (some ⟨h.size, 0, none⟩) 2 2) encB 1 [5, 69] :=
    ⟨rfl, .inr ⟨h.size, 0, 2, #[.int .u8 5, .int .u8 69], 5, _, rfl, Nat.le_refl _, h_pushE _ _ _ rfl, by simp, rfl⟩⟩
  refine FnK.use (machines_g (ws := []) hv (by decide) (by decide) (Vs.nil _) (fun x hx => by cases hx) false) ?_
  intro x h1 ⟨hb, kb, s, c, m, M, e1, W, hrs, hm, _⟩
  have F : FirstN M.rs 65536 2 4 none := by
    rw [hrs]
    refine .none fun i hi => ?_
    rcases (show i = 0 ∨ i = 1 by omega) with rfl | rfl <;> exact ⟨⟨65536, 73728, 7⟩, by decide, by decide⟩
  obtain ⟨st1, st2⟩ := step17669 (read17669 (rs := M.rs) (B := memAt M) (a := 65536) (by decide) F (hm 0 (by decide)) (hm 1 (by decide)))
  rw [e1]
  refine gs0 ?_; (try with_reducible exact trivial)
  refine FnK.use (step_g (hs0 []) W.H (hs0_ok (fun x hx => by cases hx)) W.r W.k W.nc W.nm W.nh W.hc W.hm) ?_
  intro x h2 ⟨e2, H2, s2, _, o2⟩
  rw [st1] at e2
  rw [e2]
  refine gs2 StopR.v.eq_1 sOk.eq_1 ?_; (try with_reducible exact trivial)
  refine FnK.use (hstate_g H2) ?_
  intro x h3 ⟨e3, K3⟩
  rw [e3]
  unfold sv
  have ix : idxV Tryz.prog 59 (.agg ((fnL 35 (stepF M.rs (memAt M) (hs0 [])).t.cell).extract 1 33).toArray) (.int .i64 10) = some (.int .u64 1) := by
    have := idx_reg (stepF M.rs (memAt M) (hs0 [])).t 10 (by omega)
    rw [st2] at this
    exact this
  refine gs1 @ix ?_; (try with_reducible exact trivial)
  have KA := K0.of_ext W.K (Nat.le_refl _)
  have sA := KA.size
  have sB := K3.size
  have := W.K.size
  have := W.lo
  rw [Array.size_push] at *
  exact ⟨by omega, fun b hb' => by rw [K3.old b (by omega), o2 b (by omega) (by omega) (by omega) (by omega) (fun f => by have := W.ft b f; rw [Array.size_push] at this; omega), KA.old b hb']⟩
/-- what a loop keeps of a machine. -/
structure Mk (h0 h : Heap) (hb s c m : Nat) (M : MemD) (t : HS) (n : Nat) : Prop where
  H : h[hb]? = some (.cells (fnL 37 (hg t s c)).toArray 120 (0, 0))
  tok : t.ok
  r : MR h s M
  k : Ca h s c m M
  nc : ¬ mfoot s M c
  nm : ¬ mfoot s M m
  nh : ¬ mfoot s M hb
  hc : hb ≠ c
  hm : hb ≠ m
  ft : ∀ b, mfoot s M b → h0.size ≤ b
  lo : h0.size ≤ hb ∧ h0.size ≤ c ∧ h0.size ≤ m
  K : Keeps h0.size h0 h
  iv : SInv M.D
  ck : M.D.clock < 100000 + 8 * n
theorem Mk.ext {h0 h h' : Heap} {hb s c m n : Nat} {M : MemD} {t : HS} (w : Mk h0 h hb s c m M t n) (k : Keeps h.size h h') : Mk h0 h' hb s c m M t n :=
  ⟨k.at w.H (getElem?_lt w.H), w.tok, w.r.ext k, w.k.mono (k.old _ w.k.lt.1) (k.old _ w.k.lt.2), w.nc, w.nm, w.nh, w.hc, w.hm, w.ft, w.lo, ⟨Nat.le_trans w.K.size k.size, fun b hb' => by rw [k.old b (Nat.lt_of_lt_of_le hb' w.K.size), w.K.old b hb']⟩, w.iv, w.ck⟩
/-- a step of it. -/
theorem Mk.step {h0 h : Heap} {hb s c m n : Nat} {M : MemD} {t : HS} (w : Mk h0 h hb s c m M t n) (hn : n < 1000000) :
    Fn Tryz.prog 31 [ptr hb 0] h fun x h' => x = (stepF M.rs (memAt M) t).st.v ∧ h.size ≤ h'.size ∧ (∃ M', M'.rs = M.rs ∧ (∀ y, memAt M' y = (stepF M.rs (memAt M) t).B y) ∧ (∀ b, mfoot s M' b → mfoot s M b ∨ h.size ≤ b) ∧ Mk h0 h' hb s c m M' (stepF M.rs (memAt M) t).t (n + 1)) ∧ ∀ b, b < h.size → b ≠ hb → b ≠ c → b ≠ m → ¬ mfoot s M b → h'[b]? = h[b]? := by
  refine (step_g t w.H w.tok w.r w.k w.nc w.nm w.nh w.hc w.hm).mono fun x h' ⟨e, H, z, ⟨M', G, C⟩, o⟩ => ⟨e, z, ⟨M', G.rs, G.byte, G.ft, ?_⟩, o⟩
  have kz := w.K.size
  obtain ⟨lc, lm⟩ := w.k.lt
  have lh := getElem?_lt w.H
  have hc8 : M.D.clock + 8 < 18446744073709551616 := by have := w.ck; omega
  obtain ⟨T, sr, _⟩ := G.sr
  obtain ⟨iv', c1, c2, _⟩ := sr hc8 w.iv
  have nf : ∀ b, b < h.size → ¬ mfoot s M b → ¬ mfoot s M' b := fun b hb' q f => by
    rcases G.ft b f with z | z
    · exact q z
    · omega
  refine ⟨H, stepF_ok w.tok (fun x => byteAt_lt w.r.sr x), G.r, C.gone G hc8 w.iv, nf c lc w.nc, nf m lm w.nm, nf hb lh w.nh, w.hc, w.hm, fun b f => ?_, w.lo, ⟨by omega, fun b hb' => ?_⟩, iv', by have := w.ck; omega⟩
  · rcases G.ft b f with z | z
    · exact w.ft b z
    · omega
  · have := w.lo
    rw [o b (by omega) (by omega) (by omega) (by omega) (fun f => by have := w.ft b f; omega), w.K.old b hb']
end Go.SX.G
namespace Go.SX.G
open Go Go.SX Go.Proofs
set_option maxRecDepth 100000
set_option maxHeartbeats 8000000
theorem eqEl_refl {P : Program} {E : Value → Value → Option Bool} {e : TypeId} {n : Nat} {xs : Array Value} : ∀ (k i : Nat), (∀ j, i ≤ j → j < i + k → ∃ v, partV P e xs (j * n) = some v ∧ E v v = some true) → eqEl P E e n xs xs k i = some true
  | 0, i, h => rfl
  | k + 1, i, h => by
    obtain ⟨v, h1, h2⟩ := h i (Nat.le_refl _) (by omega)
    have h3 := eqEl_refl (E := E) k (i + 1) fun j h4 h5 => h j (by omega) (by omega)
    simp only [eqEl, h1, Option.bind_some, h2, h3, Bool.and_self]
theorem eqFs_ok {P : Program} {E : TypeId → Value → Value → Option Bool} {xs : Array Value} {f : Field} {fs : List Field} {a : Value} (hn : f.name ≠ "_") (h1 : partV P f.type xs f.offset = some a) (h2 : E f.type a a = some true) (h3 : eqFs P E xs xs fs = some true) : eqFs P E xs xs (f :: fs) = some true := by
  simp only [eqFs, if_neg hn, h1, Option.bind_some, h2, h3, Bool.and_self]
theorem eqS (x y : Operand) {f : Nat → Value} (ok : okS f) : binV Tryz.prog .eql 63 x y (.agg (fnL 35 f).toArray) (.agg (fnL 35 f).toArray) = some (.bool true) := by
  have q : quietEq Tryz.prog 63 x y (.agg (fnL 35 f).toArray) (.agg (fnL 35 f).toArray) = true := by
    show (!Tryz.prog.eqGuardType Tryz.prog.depth 63) = true
    kernel_rfl
  have hb : binV Tryz.prog .eql 63 x y (.agg (fnL 35 f).toArray) (.agg (fnL 35 f).toArray) = (eqIn Tryz.prog 8 63 (.agg (fnL 35 f).toArray) (.agg (fnL 35 f).toArray)).map .bool := by
    show (if quietEq Tryz.prog 63 x y (.agg (fnL 35 f).toArray) (.agg (fnL 35 f).toArray) = true then _ else _) = _
    rw [if_pos q]
  have st : Tryz.prog.stoodInHeld 63 = false := by kernel_rfl
  have cellU : ∀ (cs : Array Value) (o : Nat) (v : Value), cs[o]? = some v → partV Tryz.prog 29 cs o = some v := fun cs o v hv => by
    unfold partV
    rw [sh29]
    exact hv
  have eqU : ∀ (d : Nat) (n : Int), eqIn Tryz.prog (d + 1) 29 (.int .u64 n) (.int .u64 n) = some true := fun d n => by
    simp [eqIn, Tryz.underlying29]
  rw [hb]
  unfold eqIn
  rw [Tryz.underlying63]
  simp only [st]
  have ext : ∀ o k j, j < k → o + k ≤ 35 → ((fnL 35 f).toArray.extract o (o + k))[j]? = some (f (o + j)) := fun o k j hj ho => by
    rw [Array.getElem?_extract, if_pos (by simp [fnL_len]; omega), List.getElem?_toArray, fnL_get _ _ _ (by omega)]
  have top : ∀ j, j < 35 → (fnL 35 f).toArray[j]? = some (f j) := fun j hj => by rw [List.getElem?_toArray, fnL_get _ _ _ hj]
  have key : eqFs Tryz.prog (eqIn Tryz.prog 7) (fnL 35 f).toArray (fnL 35 f).toArray
          [{ name := "PC", type := 29, offset := 0, embedded := false, tag := "", pkgPath := "", byteOffset := 0 },
            { name := "X", type := 59, offset := 1, embedded := false, tag := "", pkgPath := "", byteOffset := 8 },
            { name := "Hold", type := 61, offset := 33, embedded := false, tag := "", pkgPath := "",
              byteOffset := 264 }] = some true := by
    refine eqFs_ok (by decide) (cellU _ _ _ (top 0 (by omega))) ?_ (eqFs_ok (a := .agg ((fnL 35 f).toArray.extract 1 (1 + 32))) (by decide) ?_ ?_ (eqFs_ok (a := .agg ((fnL 35 f).toArray.extract 33 (33 + 2))) (by decide) ?_ ?_ rfl))
    · obtain ⟨n, e⟩ := ok.1 0 (by omega)
      rw [e]; exact eqU _ _
    · have s : shP Tryz.prog 59 = some (.agg 32) := by kernel_rfl
      unfold partV
      rw [s]
    · show eqIn Tryz.prog 7 59 _ _ = some true
      unfold eqIn
      rw [Tryz.underlying59]
      have z : szP Tryz.prog 29 = some 1 := by kernel_rfl
      simp only [z, Option.bind_some]
      refine eqEl_refl 32 0 fun j _ hj => ?_
      obtain ⟨n, e⟩ := ok.1 (1 + j) (by omega)
      refine ⟨f (1 + j), cellU _ _ _ (by rw [Nat.mul_one]; exact ext 1 32 j (by omega) (by omega)), ?_⟩
      rw [e]; exact eqU _ _
    · have s : shP Tryz.prog 61 = some (.agg 2) := by kernel_rfl
      unfold partV
      rw [s]
    · show eqIn Tryz.prog 7 61 _ _ = some true
      have st2 : Tryz.prog.stoodInHeld 61 = false := by kernel_rfl
      have un : Tryz.prog.underlying 61 = some (.struct (Tryz.prog.fieldsOf 61)) := by kernel_rfl
      have fl : (Tryz.prog.fieldsOf 61).toList.map (fun f => (f.name, f.type, f.offset)) = [("Addr", 29, 0), ("Size", 3, 1)] := by kernel_rfl
      unfold eqIn
      rw [un]
      simp only [st2]
      obtain ⟨f0, f1, e01⟩ : ∃ f0 f1, (Tryz.prog.fieldsOf 61).toList = [f0, f1] := by
        match h : (Tryz.prog.fieldsOf 61).toList with
        | [a, b] => exact ⟨a, b, rfl⟩
        | [] => rw [h] at fl; simp at fl
        | [a] => rw [h] at fl; simp at fl
        | a :: b :: c :: d => rw [h] at fl; simp at fl
      rw [e01] at fl ⊢
      simp only [List.map_cons, List.map_nil, List.cons.injEq, Prod.mk.injEq, and_true] at fl
      obtain ⟨⟨n0, t0, o0⟩, n1, t1, o1⟩ := fl
      have s3 : shP Tryz.prog 3 = some .one := by kernel_rfl
      refine eqFs_ok (a := f 33) (by rw [n0]; decide) ?_ ?_ (eqFs_ok (a := f 34) (by rw [n1]; decide) ?_ ?_ rfl)
      · rw [t0, o0]; exact cellU _ _ _ (ext 33 2 0 (by omega) (by omega))
      · obtain ⟨n, e⟩ := ok.1 33 (by omega)
        rw [t0, e]; exact eqU _ _
      · rw [t1, o1]
        unfold partV
        rw [s3]
        exact ext 33 2 1 (by omega) (by omega)
      · obtain ⟨n, e⟩ := ok.2
        rw [t1, e]
        simp [eqIn, Tryz.underlying3]
  rw [key]
  rfl
theorem Mk.mono {h0 h h' : Heap} {hb s c m n : Nat} {M : MemD} {t : HS} (w : Mk h0 h hb s c m M t n) (k : ∀ b, b = hb ∨ b = c ∨ b = m ∨ mfoot s M b → h'[b]? = h[b]?) (K : Keeps h0.size h0 h') : Mk h0 h' hb s c m M t n :=
  ⟨(k hb (.inl rfl)).trans w.H, w.tok, w.r.mono fun b f => k b (.inr (.inr (.inr f))), w.k.mono (k c (.inr (.inl rfl))) (k m (.inr (.inr (.inl rfl)))), w.nc, w.nm, w.nh, w.hc, w.hm, w.ft, w.lo, K, w.iv, w.ck⟩
theorem eq_stop0 : (fun (x y : Operand) (a b c : Int) => binV Tryz.prog .eql 49 x y (.agg #[.int .i64 a, .int .i64 b, .int .u64 c]) (.agg #[.int .i64 a, .int .i64 b, .int .u64 c])) = fun x y a b c => some (.bool (decide (a = a) && ((decide (b = b) && (decide (c = c) && true)) && true))) := by kernel_rfl
theorem eq_stop (x y : Operand) (a b : Int) (c : Nat) : binV Tryz.prog .eql 49 x y (.agg #[.int .i64 a, .int .i64 b, .int .u64 c]) (.agg #[.int .i64 a, .int .i64 b, .int .u64 c]) = some (.bool true) := by
  have := congrFun (congrFun (congrFun (congrFun (congrFun eq_stop0 x) y) a) b) (c : Int)
  simp only [decide_true, Bool.and_self] at this
  exact this
theorem Mac.mk0 {h0 h h' : Heap} {hb s c m : Nat} {M : MemD} {ws : List Nat} (W : Mac h h' hb s c m M (hs0 ws)) (K0 : Keeps h0.size h0 h) (hw : ∀ x ∈ ws, x < 18446744073709551616) (iv : SInv M.D) (ck : M.D.clock < 100000) : Mk h0 h' hb s c m M (hs0 ws) 0 := by
  have k1 := K0.size
  have k2 := W.K.size
  obtain ⟨l1, l2, l3⟩ := W.lo
  exact ⟨W.H, hs0_ok hw, W.r, W.k, W.nc, W.nm, W.nh, W.hc, W.hm, fun b f => Nat.le_trans k1 (W.ft b f), ⟨by omega, by omega, by omega⟩, ⟨by omega, fun b hb' => by rw [W.K.old b (by omega), K0.old b hb']⟩, iv, by omega⟩
end Go.SX.G
