/- HartJumps, the walk: its program's bytes. No condition. -/
import Derived.Test.YtajfhnphhdoobaaGreatMA
import Derived.Test.YtajfhnphhdoobaaGreatJumpP
set_option linter.unusedVariables false
set_option linter.unusedSimpArgs false
namespace Go.SX.G
open Go Go.SX Go.Proofs
set_option maxRecDepth 100000
set_option maxHeartbeats 8000000
theorem putL_c (w : Nat) (hw : w < 18446744073709551616) {h : Heap} {cv : Value} {cs : List Nat} (hcv : Vs h cv encB 1 cs) (hl : cs.length ≤ 1000000) :
    Fn Tryz.prog 32 [cv, .int .u64 w, .int .i64 4] h fun v h' => Ss h' h.size v 5 encB 1 (cs ++ bytesOf w 4) ∧ Keeps h.size h h' := by
  obtain ⟨a, c, e, _⟩ := hcv.shape
  subst e
  have KP := Keeps.push h (.cells #[] 5) (Nat.le_refl _)
  have s0 : Sl (h.push (.cells #[] 5)) h.size (.slice (some ⟨h.size, 0, none⟩) 0 0) 5 1 0 [] := ⟨rfl, .inr ⟨_, _, rfl, Nat.le_refl _, Nat.le_refl _, [], by simp, by simp⟩⟩
  have fl : (flat encB cs).length = cs.length * 1 := flat_len encB_len cs
  refine Fn_c Tryz.func32 mixed c32 (by kernel_rfl) ?_; rw [r32]
  refine gs0 ?_; (try with_reducible exact trivial)
  refine app_sl elB s0 (n := cs.length) rfl (Vw.srcAll (hcv.ext KP)) fl (flat_all encB_one cs) (by omega) rfl (by simp) ?_
  intro v h1 s1 g1
  have k1 : Keeps h.size h h1 := KP.trans (g1.keeps (fun b hb => by simp [blk] at hb; omega) (by simp))
  have s1' : Sl h1 h.size v 5 1 cs.length (flat encB cs) := by rw [List.nil_append, Nat.zero_add] at s1; exact s1
  clear g1 s0 s1
  refine gs0 ?_; (try with_reducible exact trivial)
  obtain ⟨I, hI⟩ : ∃ I : Nat → Fr → Heap → Prop, I = fun k fr h2 => ∃ (i : Nat) (v : Value), i + k = 4 ∧ Ss h2 h.size v 5 encB 1 (cs ++ bytesOf w i) ∧ Keeps h.size h h2 ∧
      fr = ((((fr0.up 8 (.int .i64 i)).up 7 v).up 2 (.int .i64 4)).up 1 (.int .u64 w)) := ⟨_, rfl⟩
  refine LoopK.use I 4 (by rw [hI]; exact ⟨0, v, rfl, by unfold bytesOf; rw [List.range_zero, List.map_nil, List.append_nil]; exact s1', k1, rfl⟩) ?_
  clear s1' k1
  intro k fr h2 hK
  rw [hI] at hK
  obtain ⟨i, v, hk, s2, k2, hf⟩ := hK
  subst hf
  by_cases hi : i < 4
  · have d1 : decide ((i : Int) < 4) = true := decide_eq_true (by omega)
    have hlo := k2.1
    have by1 : IntKind.u8.wrap (shrI .u64 (w : Int) (8 * (i : Int))) = ((w / 256 ^ i % 256 : Nat) : Int) := by
      have := byte_of (BitVec.ofNat 64 w) i (by omega)
      rw [BitVec.toNat_ofNat, Nat.mod_eq_of_lt hw] at this
      exact this
    have d2 : IntKind.i64.wrap (8 * (i : Int)) = 8 * (i : Int) := by rw [wrap_i64]; omega
    have d3 : IntKind.u64.wrap (8 * (i : Int)) = 8 * (i : Int) := by rw [wrap_u64]; omega
    have d4 : (8 * (i : Int) < 0) = False := eq_false (by omega)
    have d5 : IntKind.i64.wrap ((i : Int) + 1) = ((i + 1 : Nat) : Int) := by rw [wrap_i64]; omega
    refine gs6 @d1 @d2 @d3 @d4 @d5 @by1 ?_; (try with_reducible exact trivial)
    refine app_push (w / 256 ^ i % 256) elB encB_len s2 rfl rfl rfl (by simp [bytesOf_len]; omega) hlo ?_
    intro v' h' s4 g4 _ _
    rw [List.append_assoc, ← bytesOf_succ] at s4
    refine gs1 @d5 ?_; (try with_reducible exact trivial)
    refine ⟨k - 1, by omega, ?_⟩
    rw [hI]
    exact ⟨i + 1, v', by omega, s4, k2.trans g4, rfl⟩
  · have d1 : decide ((i : Int) < 4) = false := decide_eq_false (by omega)
    have ei : i = 4 := by omega
    subst ei
    refine gs1 @d1 ?_; (try with_reducible exact trivial)
    exact ⟨s2, k2⟩
theorem jal_c (d n : Nat) (hd : d < 32) (hn : n < 2048) (h : Heap) : Fn Tryz.prog 33 [.int .i64 d, .int .i64 n] h fun x h' => x = .int .u32 (jalN d n : Nat) ∧ h' = h := by
  have w : IntKind.u32.wrap (d : Int) = (d : Int) := by
    have : IntKind.u32.wrap (d : Int) = (d : Int) % 4294967296 := by simp [IntKind.wrap, IntKind.signed, IntKind.bits]
    rw [this]; omega
  rw [← jal_eq d n hd hn]
  unfold jalE
  rw [w]
  refine Fn_c Tryz.func33 mixed c33 (by kernel_rfl) ?_; rw [r33]
  refine gs0 ?_; (try with_reducible exact trivial)
theorem read_word {rs : List Reg} {B : Nat → Nat} {a w : Nat} {i : InstR} (ha : a % 2 = 0) (ha2 : a < 1000000) (F1 : ∀ j, j < 4 → okAt rs 4 (a + j)) (hb : ∀ j, j < 4 → B (a + j) = w / 256 ^ j % 256) (hw : w < 4294967296) (h3 : w % 4 = 3) (hd : decodeL (w : Nat) = i) (hop : i.op ≠ 0) : readF rs B a = (i, sOk) := by
  have f1 : firstF rs a 2 4 = none := by
    have F : FirstN rs a 2 4 none := .none fun j hj => by
      have := F1 j (by omega)
      rwa [show adr a j = a + j by unfold adr; omega]
    exact F.eqF.symm
  have f2 : firstF rs (adr a 2) 2 4 = none := by
    have F : FirstN rs (adr a 2) 2 4 none := .none fun j hj => by
      have := F1 (2 + j) (by omega)
      rwa [show adr (adr a 2) j = a + (2 + j) by unfold adr; omega]
    exact F.eqF.symm
  have b0 := hb 0 (by omega)
  have b1 := hb 1 (by omega)
  have b2 := hb 2 (by omega)
  have b3 := hb 3 (by omega)
  have e0 : B a = w % 256 := by rw [Nat.add_zero] at b0; first | (rw [b0]; done) | (rw [b0]; omega)
  have e1 : B (a + 1) = w / 256 % 256 := by first | (rw [b1]; done) | (rw [b1]; omega)
  have e2 : B (a + 2) = w / 65536 % 256 := by rw [b2]
  have e3 : B (a + 3) = w / 16777216 % 256 := by rw [b3]
  have hf : fetchF rs B a = (w, none) := by
    unfold fetchF
    rw [if_neg (by omega), f1, f2, e0, e1, e2, e3]
    simp only []
    rw [if_neg (by omega)]
    congr 1; omega
  unfold readF
  rw [hf]
  simp only [hd]
  rw [if_neg hop]
theorem RS3_exec {j : Nat} (q : j < 8192) : okAt RS3 4 (65536 + j) := by
  refine ⟨⟨65536, 73728, 7⟩, ?_, by decide⟩
  simp only [atL, RS3, List.find?_cons, inR]
  rw [decide_eq_true (show 65536 ≤ 65536 + j ∧ 65536 + j < 73728 from ⟨by omega, by omega⟩)]
theorem step_jal {rs : List Reg} {B : Nat → Nat} {t : HS} (d m : Nat) (h1 : 1 ≤ d) (hm : m < 256) (hp : t.pc = 65536) (hr : readF rs B 65536 = (⟨3, d, 0, 0, ((4 * m : Nat) : Int), 0, 4⟩, sOk)) :
    (stepF rs B t).st = sOk ∧ (stepF rs B t).t.pc = ((65536 + 4 * m : Nat) : Int) ∧ (stepF rs B t).t.x d = 65540 ∧ (stepF rs B t).B = B := by
  have e : t.pc.toNat = 65536 := by rw [hp]; rfl
  have k : sOk.kind = 0 := rfl
  have hj : jumpF t ⟨3, d, 0, 0, ((4 * m : Nat) : Int), 0, 4⟩ = ⟨w64 (65536 + w64 ((4 * m : Nat) : Int)), true, t.set d (w64 (65536 + w64 4))⟩ := by
    unfold jumpF
    rw [if_pos rfl, hp]
  have hd : doF rs B t ⟨3, d, 0, 0, ((4 * m : Nat) : Int), 0, 4⟩ = ⟨sOk, ({ t.set d (w64 (65536 + w64 4)) with pc := w64 (65536 + w64 ((4 * m : Nat) : Int)) } : HS).set 0 0, B⟩ := by
    unfold doF
    simp only [hj, if_true]
  have w1 : w64 (65536 + w64 ((4 * m : Nat) : Int)) = ((65536 + 4 * m : Nat) : Int) := by unfold w64; rw [wrap_u64, wrap_u64]; omega
  unfold stepF
  simp only [e, hr, if_pos k, hd]
  refine ⟨trivial, w1, ?_, trivial⟩
  show (if d = (0 : Int).toNat then 0 else if d = (d : Int).toNat then w64 (65536 + w64 4) else t.x d) = 65540
  rw [if_neg (by simp; omega), if_pos (by simp)]
  decide
theorem step_back {rs : List Reg} {B : Nat → Nat} {t : HS} (d a : Nat) (hp : t.pc = (a : Int)) (hx : t.x d = 65540) (hr : readF rs B a = (⟨4, 0, d, 0, 0, 0, 4⟩, sOk)) :
    (stepF rs B t).st = sOk ∧ (stepF rs B t).t.pc = 65540 := by
  have e : t.pc.toNat = a := by rw [hp]; rfl
  have k : sOk.kind = 0 := rfl
  have g : t.get (d : Int) = 65540 := by unfold HS.get; rw [Int.toNat_natCast]; exact hx
  have hj : jumpF t ⟨4, 0, d, 0, 0, 0, 4⟩ = ⟨65540, true, t.set 0 (w64 (t.pc + w64 4))⟩ := by
    unfold jumpF
    rw [if_neg (show ¬ (4 : Int) = 3 by decide), if_pos rfl]
    show JO.mk (bitI .andNot .u64 (w64 (t.get (d : Int) + w64 0)) 1) _ _ = _
    rw [g]
    rfl
  have hd : doF rs B t ⟨4, 0, d, 0, 0, 0, 4⟩ = ⟨sOk, ({ t.set 0 (w64 (t.pc + w64 4)) with pc := 65540 } : HS).set 0 0, B⟩ := by
    unfold doF
    simp only [hj, if_true]
  unfold stepF
  simp only [e, hr, if_pos k, hd]
  exact ⟨trivial, rfl⟩
theorem jumps_n (a : Int) (ha : -32768 ≤ a ∧ a ≤ 32767) : ∃ m : Nat, m < 250 ∧ ((IntKind.i64.wrap (IntKind.i64.wrap (a.tdiv 4) * 4)).tmod 1000 = ((4 * m : Nat) : Int) ∨ (IntKind.i64.wrap (IntKind.i64.wrap (a.tdiv 4) * 4)).tmod 1000 = - ((4 * m : Nat) : Int)) := by
  by_cases q : 0 ≤ a
  · have e1 : a.tdiv 4 = a / 4 := Int.tdiv_eq_ediv_of_nonneg q
    have e3 : IntKind.i64.wrap (IntKind.i64.wrap (a / 4) * 4) = a / 4 * 4 := by rw [wrap_i64, wrap_i64]; omega
    rw [e1, e3, Int.tmod_eq_emod_of_nonneg (by omega)]
    exact ⟨(a / 4 % 250).toNat, by omega, .inl (by omega)⟩
  · have e1 : a.tdiv 4 = -((-a) / 4) := by rw [← Int.tdiv_eq_ediv_of_nonneg (by omega), Int.neg_tdiv, Int.neg_neg]
    have e2 : ∀ x : Int, (-x).tmod 1000 = -(x.tmod 1000) := fun x => Int.neg_tmod _ _
    have e3 : IntKind.i64.wrap (IntKind.i64.wrap (-((-a) / 4)) * 4) = -((-a) / 4 * 4) := by rw [wrap_i64, wrap_i64]; omega
    rw [e1, e3, e2, Int.tmod_eq_emod_of_nonneg (by omega)]
    exact ⟨((-a) / 4 % 250).toNat, by omega, .inr (by omega)⟩
theorem hartjumps_c {h : Heap} (a : Int) (ha : -32768 ≤ a ∧ a ≤ 32767) (r : Nat) (hr : r < 256) :
    Fn Tryz.prog 5 [.int .i16 a, .int .u8 r] h fun x h' => x = .bool true ∧ ∀ b, b < h.size → h'[b]? = h[b]? := by
  obtain ⟨k, hk, hcase⟩ := jumps_n a ha
  have ed := reg_n r
  have hd1 : 1 ≤ r % 31 + 1 := by omega
  have hd2 : r % 31 + 1 < 32 := by omega
  have hm2 : 2 ≤ k + 2 := by omega
  have hm3 : k + 2 < 252 := by omega
  have tn := fun q => back_n hcase q
  have tp := fun q => fore_n hcase q
  clear hcase
  refine Fn_c Tryz.func5 mixed c5 (by kernel_rfl) ?_; rw [r5]
  refine gs0 ?_; (try with_reducible exact trivial)
  rw [ed]
  clear ed ha hk
  generalize r % 31 + 1 = d at *
  generalize k + 2 = m at *
  clear hr
  generalize (IntKind.i64.wrap (IntKind.i64.wrap (a.tdiv 4) * 4)).tmod 1000 = X at *
  have bj := jalN_lt (d := d) (n := 4 * m) hd2 (by omega)
  have bb := backN_lt hd2
  have w1 : IntKind.u64.wrap ((jalN d (4 * m) : Nat) : Int) = ((jalN d (4 * m) : Nat) : Int) := by rw [wrap_u64]; omega
  refine ⟨fun q => ?_, fun q => ?_⟩
  rw [tn q]
  rotate_left
  rw [tp q]
  rotate_left
  all_goals
    clear q tn tp
    refine FnK.val (jal_c d (4 * m) hd2 (by omega) h) ?_
    refine gs1 @w1 ?_; (try with_reducible exact trivial)
    refine FnK.use (putL_c (jalN d (4 * m)) (by omega) (Vs.nil h) (by simp)) ?_
    intro v h1 ⟨S1, K1⟩
    rw [List.nil_append] at S1
    refine gs0 ?_; (try with_reducible exact trivial)
    obtain ⟨I, hI⟩ : ∃ I : Nat → Fr → Heap → Prop, I = fun k fr hh => ∃ (i : Nat) (v : Value) (cs : List Nat), i + k = m - 1 ∧ cs.length = 4 * (i + 1) ∧ (∀ j, j < 4 → cs.getD j 0 = jalN d (4 * m) / 256 ^ j % 256) ∧ (∀ x ∈ cs, x < 256) ∧ Ss hh h.size v 5 encB 1 cs ∧ Keeps h.size h hh ∧
        fr = (((fr0.up 7 v).up 6 (.int .i64 ((4 * m : Nat) : Int))).up 5 (.int .i64 d)) := ⟨_, rfl⟩
    refine LoopK.use I (m - 1) (by rw [hI]; exact ⟨0, v, bytesOf (jalN d (4 * m)) 4, by omega, by rw [bytesOf_len], fun j hj => bytesOf_get _ _ _ hj, fun x hx => bytesOf_lt hx, S1, K1, rfl⟩) ?_
    clear S1 K1
    intro k fr hh hK
    rw [hI] at hK
    obtain ⟨i, v, cs, hk, lc, hj, hx, S, K, hf⟩ := hK
    subst hf
    obtain ⟨va, vc, ev, _⟩ := S.vs.shape
    subst ev
    by_cases hi : i < m - 1
    · have d1 : decide ((cs.length : Int) < ((4 * m : Nat) : Int)) = true := decide_eq_true (by omega)
      refine gs1 @d1 ?_; (try with_reducible exact trivial)
      refine FnK.use (putL_c 19 (by omega) S.vs (by omega)) ?_
      intro v2 h2 ⟨S2, K2⟩
      refine gs0 ?_; (try with_reducible exact trivial)
      refine ⟨k - 1, by omega, ?_⟩
      rw [hI]
      refine ⟨i + 1, v2, _, by omega, by rw [List.length_append, bytesOf_len]; omega, fun j q => ?_, fun x hx' => ?_, S2.le K.size, K.of_ext K2 (Nat.le_refl _), rfl⟩
      · rw [List.getD_eq_getElem?_getD, List.getElem?_append_left (by omega), ← List.getD_eq_getElem?_getD]; exact hj j q
      · rcases List.mem_append.1 hx' with q | q
        · exact hx x q
        · exact bytesOf_lt q
    · have d1 : decide ((cs.length : Int) < ((4 * m : Nat) : Int)) = false := decide_eq_false (by omega)
      refine gs1 @d1 ?_; (try with_reducible exact trivial)
      rw [back_eq d hd2]
      have li : cs.length = 4 * m := by omega
      refine FnK.use (putL_c (backN d) (by omega) S.vs (by omega)) ?_
      intro v2 h2 ⟨S2, K2⟩
      have K2' := K.of_ext K2 (Nat.le_refl _)
      have hx2 : ∀ x ∈ cs ++ bytesOf (backN d) 4, x < 256 := fun x hx' => by
        rcases List.mem_append.1 hx' with q | q
        · exact hx x q
        · exact bytesOf_lt q
      have l2 : (cs ++ bytesOf (backN d) 4).length = 4 * m + 4 := by rw [List.length_append, bytesOf_len]; omega
      refine gs0 ?_; (try with_reducible exact trivial)
      refine FnK.use (machines_g S2.vs hx2 (by omega) (Vs.nil h2) (fun x hx => by cases hx) true) ?_
      intro x h3 ⟨pa, ka, sa, ca, ma, M, e3, W, rs, mem, ⟨iv, ck⟩, _⟩
      rw [e3]
      have W3 := W.mk0 K2' (fun x hx => by cases hx) iv ck
      have okA : ∀ j, j < 8192 → okAt M.rs 4 (65536 + j) := fun j q => by rw [rs]; exact RS3_exec (by omega)
      have rj : readF M.rs (memAt M) 65536 = (⟨3, d, 0, 0, ((4 * m : Nat) : Int), 0, 4⟩, sOk) := by
        refine read_word (w := jalN d (4 * m)) (by omega) (by omega) (fun j q => okA j (by omega)) (fun j q => ?_) (by omega) (jalN_mod _ _) (dec_jal d m hd2 (by omega)) (show ¬ (3 : Int) = 0 by decide)
        rw [mem j (by omega), List.getD_eq_getElem?_getD, List.getElem?_append_left (by omega), ← List.getD_eq_getElem?_getD]
        exact hj j q
      have rb : readF M.rs (memAt M) (65536 + 4 * m) = (⟨4, 0, d, 0, 0, 0, 4⟩, sOk) := by
        refine read_word (w := backN d) (by omega) (by omega) (fun j q => by rw [Nat.add_assoc]; exact okA _ (by omega)) (fun j q => ?_) (by omega) (backN_mod _) (dec_back d hd2) (show ¬ (4 : Int) = 0 by decide)
        rw [Nat.add_assoc, mem _ (by omega), List.getD_eq_getElem?_getD, List.getElem?_append_right (by omega), li, Nat.add_sub_cancel_left, ← List.getD_eq_getElem?_getD]
        exact bytesOf_get _ _ _ q
      refine gs0 ?_; (try with_reducible exact trivial)
      refine FnK.use (answers11_g h3) ?_
      intro x h4 ⟨e4, K4⟩
      rw [e4]
      have W4 := W3.ext K4
      refine gs0 ?_; (try with_reducible exact trivial)
      refine FnK.use (W4.step (by omega)) ?_
      intro x h5 ⟨e5, s5, ⟨M2, rs2, by2, _, W5⟩, _⟩
      obtain ⟨t1, ht1⟩ : ∃ t, t = (stepF M.rs (memAt M) (hs0 [])).t := ⟨_, rfl⟩
      obtain ⟨j1, j2, j3, j4⟩ := step_jal (t := hs0 []) d m hd1 (by omega) rfl rj
      rw [j1] at e5
      rw [← ht1] at W5 j2 j3
      have eB : memAt M2 = memAt M := by funext y; rw [by2 y, j4]
      rw [e5]
      refine gs2 StopR.v.eq_1 sOk.eq_1 ?_; (try with_reducible exact trivial)
      refine FnK.use (hstate_g W5.H) ?_
      intro x h6 ⟨e6, K6⟩
      rw [e6]
      have W6 := W5.ext K6
      unfold sv
      have one := cell_one t1
      have c0 : cellO 0 (some (.cells (fnL 35 t1.cell).toArray 63 (0, 0))) = some (.int .u64 ((65536 + 4 * m : Nat) : Int)) := by rw [fnL_cell (by omega), ← j2]; rfl
      have c1 : cellO (1 + d) (some (.cells (fnL 35 t1.cell).toArray 63 (0, 0))) = some (.int .u64 65540) := by rw [fnL_cell (by omega), HS.cellX t1 d hd2, j3]
      have w2 : IntKind.u64.wrap ((4 * m : Nat) : Int) = ((4 * m : Nat) : Int) := by rw [wrap_u64]; omega
      have w3 : IntKind.u64.wrap (65536 + ((4 * m : Nat) : Int)) = ((65536 + 4 * m : Nat) : Int) := by rw [wrap_u64]; omega
      have dd1 : decide ((d : Int) < 32) = true := decide_eq_true (by omega)
      have dd2 : decide ((d : Int) < 0) = false := decide_eq_false (by omega)
      refine gs10 @fnL_len @one @setL_35 @c0 @c1 @w2 @w3 @dd1 @dd2 @Nat.mul_one ?_; (try with_reducible exact trivial)
      have W7 := W6.ext (Keeps.push h6 (.cells (fnL 35 t1.cell).toArray 63) (Nat.le_refl _))
      refine FnK.use (W7.step (by omega)) ?_
      intro x h8 ⟨e8, s8, ⟨M3, _, _, _, W8⟩, _⟩
      obtain ⟨t2, ht2⟩ : ∃ t, t = (stepF M2.rs (memAt M2) t1).t := ⟨_, rfl⟩
      obtain ⟨k1, k2⟩ := step_back (rs := M2.rs) (B := memAt M2) (t := t1) d (65536 + 4 * m) j2 j3 (by rw [eB, rs2]; exact rb)
      rw [k1] at e8
      rw [← ht2] at W8 k2
      rw [e8]
      refine gs2 StopR.v.eq_1 sOk.eq_1 ?_; (try with_reducible exact trivial)
      refine FnK.use (hstate_g W8.H) ?_
      intro x h9 ⟨e9, K9⟩
      rw [e9]
      unfold sv
      have i0 : (fnL 35 t2.cell)[0]? = some (.int .u64 65540) := by rw [fnL_get _ _ _ (by omega), ← k2]; rfl
      refine gs1 @i0 ?_; (try with_reducible exact trivial)
      exact (W8.ext K9).K.old
end Go.SX.G
