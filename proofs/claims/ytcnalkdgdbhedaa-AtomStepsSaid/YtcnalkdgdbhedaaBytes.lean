/- MemBytes, the walk. No condition. -/
import Derived.Test.YtcnalkdgdbhedaaMemG
set_option linter.unusedVariables false
set_option linter.unusedSimpArgs false
namespace Go.SX.G
open Go Go.SX Go.Proofs
set_option maxRecDepth 100000
set_option maxHeartbeats 2000000
/-- a store where all may be written. -/
theorem mstore_ok {h : Heap} {s : Nat} {M : MemD} (a n v : Nat) (r : MR h s M) (ha : a < 18446744073709551616) (hv : v < 18446744073709551616) (hn : goodN n = true) (ok : ∀ i, i < n → okAt M.rs 2 (adr a i)) :
    Fn Try.prog 21 [ptr s 0, .int .u64 a, .int .i64 n, .int .u64 v] h fun x h' => x = fltA 0 0 ∧ ∃ M', Chg h h' s M M' n (touched a (a + n)) ∧ M'.rs = M.rs ∧ ∀ y, memAt M' y = if a ≤ y ∧ y < a + n then v / 256 ^ (y - a) % 256 else memAt M y := by
  refine (mstore_c a n v r ha hv).mono ?_
  intro x h' hx
  cases hx with
  | no p k ne =>
    exfalso
    cases p with
    | bad c => rw [hn] at c; cases c
    | flt c b f ex => cases f with | some i hi h1 h2 => exact h1 (ok i hi)
    | ok c f ex => obtain ⟨b, ne⟩ := ne; rw [ex] at ne; simp [fltA] at ne
  | ok c f ex M' g rs byte => exact ⟨ex, M', g, rs, byte⟩
theorem mload_ok {h : Heap} {s : Nat} {M : MemD} (a n : Nat) (r : MR h s M) (ha : a < 18446744073709551616) (hn : goodN n = true) (ok : ∀ i, i < n → okAt M.rs 1 (adr a i)) :
    Fn Try.prog 22 [ptr s 0, .int .u64 a, .int .i64 n] h fun x h' => x = .tuple #[.int .u64 (le (peekL M a n) : Nat), fltA 0 0] ∧ Keeps h.size h h' := by
  refine (mload_c a n r ha).mono ?_
  intro x h' ⟨hx, k⟩
  refine ⟨?_, k⟩
  cases hx with
  | bad c => rw [hn] at c; cases c
  | flt c b f ex => cases f with | some i hi h1 h2 => exact (h1 (ok i hi)).elim
  | ok c f ex => exact ex
theorem ones_byte (i : Nat) (hi : i < 8) : 18446744073709551615 / 256 ^ i % 256 = 255 := by
  have : i = 0 ∨ i = 1 ∨ i = 2 ∨ i = 3 ∨ i = 4 ∨ i = 5 ∨ i = 6 ∨ i = 7 := by omega
  rcases this with q | q | q | q | q | q | q | q <;> subst q <;> decide
theorem whole_eq (M : MemD) (a sz x : Nat) (hx : x < 18446744073709551616) (hsz : sz = 1 ∨ sz = 2 ∨ sz = 4 ∨ sz = 8) (hm : ∀ i, i < 8 → memAt M (a + i) = if i < sz then x / 256 ^ i % 256 else 255) :
    le (peekL M a 8) = x % 256 ^ sz + (18446744073709551616 - 256 ^ sz) := by
  have : peekL M a 8 = bytesOf (x % 256 ^ sz + (18446744073709551616 - 256 ^ sz)) 8 := by
    unfold peekL bytesOf
    apply List.map_congr_left
    intro i hi
    simp at hi
    rw [hm i hi]
    have : i = 0 ∨ i = 1 ∨ i = 2 ∨ i = 3 ∨ i = 4 ∨ i = 5 ∨ i = 6 ∨ i = 7 := by omega
    rcases hsz with q | q | q | q <;> subst q <;> rcases this with q | q | q | q | q | q | q | q <;> subst q <;> simp <;> omega
  rw [this, le_bytes]
  rcases hsz with q | q | q | q <;> subst q <;> omega
theorem and_u64 (a b : Nat) (ha : a < 18446744073709551616) (hb : b < 18446744073709551616) : bitI .and .u64 (a : Int) (b : Int) = ((a &&& b : Nat) : Int) := by
  have ea : (a : Int) = ((BitVec.ofNat 64 a).toNat : Int) := by simp; omega
  have eb : (b : Int) = ((BitVec.ofNat 64 b).toNat : Int) := by simp; omega
  rw [ea, eb, bv_and, BitVec.toNat_and, BitVec.toNat_ofNat, BitVec.toNat_ofNat, Nat.mod_eq_of_lt ha, Nat.mod_eq_of_lt hb]
theorem or_u64 (a b : Nat) (ha : a < 18446744073709551616) (hb : b < 18446744073709551616) : bitI .or .u64 (a : Int) (b : Int) = ((a ||| b : Nat) : Int) := by
  have ea : (a : Int) = ((BitVec.ofNat 64 a).toNat : Int) := by simp; omega
  have eb : (b : Int) = ((BitVec.ofNat 64 b).toNat : Int) := by simp; omega
  rw [ea, eb, bv_or, BitVec.toNat_or, BitVec.toNat_ofNat, BitVec.toNat_ofNat, Nat.mod_eq_of_lt ha, Nat.mod_eq_of_lt hb]
theorem want_eq (x sz : Nat) (hx : x < 18446744073709551616) (h : sz = 1 ∨ sz = 2 ∨ sz = 4) :
    bitI .or .u64 (bitI .and .u64 (x : Int) (IntKind.u64.wrap (shlI .u64 1 (8 * (sz : Int)) - 1))) (bitI .xor .u64 (if IntKind.u64.signed = true then -1 else IntKind.u64.max) (IntKind.u64.wrap (shlI .u64 1 (8 * (sz : Int)) - 1)))
      = ((x % 256 ^ sz + (18446744073709551616 - 256 ^ sz) : Nat) : Int) := by
  obtain ⟨m, e1, e2⟩ : ∃ m : Nat, IntKind.u64.wrap (shlI .u64 1 (8 * (sz : Int)) - 1) = ((256 ^ sz - 1 : Nat) : Int) ∧ bitI .xor .u64 (if IntKind.u64.signed = true then -1 else IntKind.u64.max) ((256 ^ sz - 1 : Nat) : Int) = ((2 ^ (8 * sz) * (2 ^ (64 - 8 * sz) - 1) : Nat) : Int) := by
    refine ⟨0, ?_, ?_⟩ <;> rcases h with q | q | q <;> subst q <;> decide
  rw [e1, e2, and_u64 _ _ hx (by rcases h with q | q | q <;> subst q <;> decide), pow_256, Nat.and_two_pow_sub_one_eq_mod]
  have hlt : x % 2 ^ (8 * sz) < 2 ^ (8 * sz) := Nat.mod_lt _ (Nat.pow_pos (by decide))
  rw [or_u64 _ _ (Nat.lt_of_le_of_lt (Nat.mod_le _ _) hx) (by rcases h with q | q | q <;> subst q <;> decide), Nat.or_comm, ← Nat.two_pow_add_eq_or_of_lt hlt]
  congr 1
  rcases h with q | q | q <;> subst q <;> omega
theorem shr_byte (W i : Nat) (hW : W < 18446744073709551616) (hi : i ≤ 8) : bitI .and .u64 (shrI .u64 (W : Int) (8 * (i : Int))) 255 = ((W / 256 ^ i % 256 : Nat) : Int) := by
  have e : (8 * (i : Int)) = ((8 * i : Nat) : Int) := by omega
  have ea : (W : Int) = ((BitVec.ofNat 64 W).toNat : Int) := by simp; omega
  rw [e, ea, bv_shr _ _ (by omega), BitVec.toNat_ushiftRight, Nat.shiftRight_eq_div_pow, BitVec.toNat_ofNat, Nat.mod_eq_of_lt hW, ← pow_256]
  have := and_u64 (W / 256 ^ i) 255 (Nat.lt_of_le_of_lt (Nat.div_le_self _ _) hW) (by decide)
  refine Eq.trans this ?_
  rw [show (255 : Nat) = 2 ^ 8 - 1 from rfl, Nat.and_two_pow_sub_one_eq_mod]
theorem bytes_le : ∀ (l : List Nat), (∀ b ∈ l, b < 256) → bytesOf (le l) l.length = l
  | [], _ => rfl
  | b :: r, h => by
    have h1 := bytes_le r fun c hc => h c (by simp [hc])
    have h2 := h b (by simp)
    simp only [bytesOf, le, List.length_cons, List.range_succ_eq_map, List.map_cons, List.map_map, Nat.pow_zero, Nat.div_one]
    congr 1
    · omega
    · refine Eq.trans ?_ h1
      unfold bytesOf
      apply List.map_congr_left
      intro j _
      have e : (b + 256 * le r) / 256 ^ (j + 1) = le r / 256 ^ j := by
        rw [Nat.pow_succ, Nat.mul_comm (256 ^ j) 256, ← Nat.div_div_eq_div_mul]
        congr 1; omega
      simp only [Function.comp, Nat.succ_eq_add_one, e]
theorem membytes_c {h : Heap} (at_ : Nat) (hat : at_ < 65536) (x : Nat) (hx : x < 18446744073709551616) (n : Nat) (hn : n < 256) :
    Fn Try.prog 6 [.int .u16 at_, .int .u64 x, .int .u8 n] h fun r h' => r = .bool true ∧ ∀ b, b < h.size → h'[b]? = h[b]? := by
  refine Fn_c Try.func6 mixed c6 (by kernel_rfl) ?_; rw [r6]
  simp -implicitDefEqProofs (disch := first | omega | (simp only [h_szP, h_szS]; done) | (simp only [h_szP, h_szS]; omega)) only [go_sem, Nat.reduceBEq, reduceCtorEq, Nat.reduceAdd, Int.reduceEq, Int.reduceLT, Int.reduceLE, Int.reduceMul, Int.reduceAdd, Int.reduceSub, reduceIte, Nat.reduceLeDiff, Nat.reduceLT, Nat.reduceMul, Nat.reduceSub, Int.reduceToNat, s6, Try.underlying33, Try.underlying22, sl28, ze3, by3, sz3, Try.underlying5, sh3, Try.underlying41, fd41_0, Try.underlying3, zc41, sz41, Try.underlying45, fo41_0]
  refine FnK.use (mnew_c h 4 (by omega)) ?_
  intro y h1 hy
  obtain ⟨s, M, e1, R, K1, hF, m1, m2, m3, m4, m5, m6⟩ := hy
  rw [e1]
  simp -implicitDefEqProofs (disch := first | omega | (simp only [h_szP, h_szS]; done) | (simp only [h_szP, h_szS]; omega)) only [go_sem, Nat.reduceBEq, reduceCtorEq, Nat.reduceAdd, Int.reduceEq, Int.reduceLT, Int.reduceLE, Int.reduceMul, Int.reduceAdd, Int.reduceSub, reduceIte, Nat.reduceLeDiff, Nat.reduceLT, Nat.reduceMul, Nat.reduceSub, Int.reduceToNat, s6, Try.underlying33, Try.underlying22, sl28, ze3, by3, sz3, Try.underlying5, sh3, Try.underlying41, fd41_0, Try.underlying3, zc41, sz41, Try.underlying45, fo41_0]
  refine FnK.use (mmap_c 4096 12288 3 true R (by omega) (by omega)) ?_
  intro y h2 hy
  have hj : joL (wiL M.rs ⟨4096, 4096 + upN 12288, (3 : Int).toNat⟩) = [⟨4096, 16384, 3⟩] := by rw [m1]; decide
  cases hy with
  | bad c => exact absurd (by omega) c
  | noroom c f => cases f
  | nospan c b hb w => simp only [if_true] at hb; subst hb; exact absurd w (by decide)
  | lay c b hb w y t ex =>
  simp only [if_true] at hb
  subst hb
  cases t with
  | no c =>
    rw [hj] at c
    rcases c with c | c
    · simp at c
    · rw [m3] at c; exact absurd c (by decide)
  | yes c1 c2 ey M1 r rs byte most base fin fx sr =>
  rw [hj] at rs
  rcases ex with ⟨e2, _⟩ | ⟨_, e2⟩
  · rw [ey] at e2; cases e2
  rw [e2]
  unfold numE
  obtain ⟨K2, hF2⟩ := fx.own hF K1
  have ok : ∀ p, 3 &&& p = p → ∀ z, 4096 ≤ z → z < 16384 → okAt [⟨4096, 16384, 3⟩] p z := by
    intro p hp z h1 h2
    refine ⟨⟨4096, 16384, 3⟩, ?_, hp⟩
    simp only [atL, List.find?_cons, List.find?_nil, inR]
    rw [decide_eq_true (by omega)]
  obtain ⟨a, ha⟩ : ∃ a : Nat, a = 4104 + at_ % 12000 := ⟨_, rfl⟩
  have ha1 : a < 16104 := by omega
  have hA : (4096 : Int) + (at_ : Int) % 12000 + 8 = a := by omega
  obtain ⟨sz, hE, hsz⟩ : ∃ sz : Nat, [Value.int .i64 1, Value.int .i64 2, Value.int .i64 4, Value.int .i64 8][((n : Int) % 4).toNat * 1]? = some (.int .i64 sz) ∧ (sz = 1 ∨ sz = 2 ∨ sz = 4 ∨ sz = 8) := by
    have : n % 4 = 0 ∨ n % 4 = 1 ∨ n % 4 = 2 ∨ n % 4 = 3 := by omega
    rcases this with q | q | q | q
    · exact ⟨1, by have : ((n : Int) % 4).toNat * 1 = 0 := by omega
                   rw [this]; rfl, by omega⟩
    · exact ⟨2, by have : ((n : Int) % 4).toNat * 1 = 1 := by omega
                   rw [this]; rfl, by omega⟩
    · exact ⟨4, by have : ((n : Int) % 4).toNat * 1 = 2 := by omega
                   rw [this]; rfl, by omega⟩
    · exact ⟨8, by have : ((n : Int) % 4).toNat * 1 = 3 := by omega
                   rw [this]; rfl, by omega⟩
  have K2' : ∀ o, Keeps h.size h (h2.push o) := fun o => K2.push' (Nat.le_refl _)
  have hg : goodN sz = true := by simp [goodN]; omega
  simp -implicitDefEqProofs (disch := first | omega | (simp only [h_szP, h_szS]; done) | (simp only [h_szP, h_szS]; omega)) only [go_sem, Nat.reduceBEq, reduceCtorEq, Nat.reduceAdd, Int.reduceEq, Int.reduceLT, Int.reduceLE, Int.reduceMul, Int.reduceAdd, Int.reduceSub, reduceIte, Nat.reduceLeDiff, Nat.reduceLT, Nat.reduceMul, Nat.reduceSub, Int.reduceToNat, s6, Try.underlying33, Try.underlying22, sl28, ze3, by3, sz3, Try.underlying5, sh3, Try.underlying41, fd41_0, Try.underlying3, zc41, sz41, Try.underlying45, fo41_0, hA, hE]
  refine FnK.use (answers8_c _) ?_
  intro y h3 ⟨e3, K3⟩
  rw [e3]
  have R3 := (r.ext (Keeps.push h2 _ (Nat.le_refl _))).ext K3
  have K4 := (K2' _).of_ext K3 (Nat.le_refl _)
  have ok2 : ∀ (M' : MemD) c k p, M'.rs = M1.rs → 3 &&& p = p → 4096 ≤ c → c + k ≤ 16384 → ∀ i, i < k → okAt M'.rs p (adr c i) := by
    intro M' c k p e hp h1 h2 i hi
    rw [e, rs]
    have : adr c i = c + i := by unfold adr; omega
    rw [this]
    exact ok p hp _ (by omega) (by omega)
  have hw8 : IntKind.u64.wrap ((a : Int) - 8) = ((a - 8 : Nat) : Int) := by rw [wrap_u64]; omega
  simp -implicitDefEqProofs (disch := first | omega | (simp only [h_szP, h_szS]; done) | (simp only [h_szP, h_szS]; omega)) only [go_sem, Nat.reduceBEq, reduceCtorEq, Nat.reduceAdd, Int.reduceEq, Int.reduceLT, Int.reduceLE, Int.reduceMul, Int.reduceAdd, Int.reduceSub, reduceIte, Nat.reduceLeDiff, Nat.reduceLT, Nat.reduceMul, Nat.reduceSub, Int.reduceToNat, s6, Try.underlying33, Try.underlying22, sl28, ze3, by3, sz3, Try.underlying5, sh3, Try.underlying41, fd41_0, Try.underlying3, zc41, sz41, Try.underlying45, fo41_0, hw8]
  refine FnK.use (mstore_ok (a - 8) 8 18446744073709551615 R3 (by omega) (by omega) (by decide) (ok2 M1 _ _ _ rfl rfl (by omega) (by omega))) ?_
  intro y h4 ⟨e4, M2, g2, rs2, by2⟩
  rw [e4]; unfold fltA
  simp -implicitDefEqProofs (disch := first | omega | (simp only [h_szP, h_szS]; done) | (simp only [h_szP, h_szS]; omega)) only [go_sem, Nat.reduceBEq, reduceCtorEq, Nat.reduceAdd, Int.reduceEq, Int.reduceLT, Int.reduceLE, Int.reduceMul, Int.reduceAdd, Int.reduceSub, reduceIte, Nat.reduceLeDiff, Nat.reduceLT, Nat.reduceMul, Nat.reduceSub, Int.reduceToNat, s6, Try.underlying33, Try.underlying22, sl28, ze3, by3, sz3, Try.underlying5, sh3, Try.underlying41, fd41_0, Try.underlying3, zc41, sz41, Try.underlying45, fo41_0]
  refine FnK.use (mstore_ok a 8 18446744073709551615 g2.r (by omega) (by omega) (by decide) (ok2 M2 _ _ _ rs2 rfl (by omega) (by omega))) ?_
  intro y h5 ⟨e5, M3, g3, rs3, by3⟩
  rw [e5]; unfold fltA
  simp -implicitDefEqProofs (disch := first | omega | (simp only [h_szP, h_szS]; done) | (simp only [h_szP, h_szS]; omega)) only [go_sem, Nat.reduceBEq, reduceCtorEq, Nat.reduceAdd, Int.reduceEq, Int.reduceLT, Int.reduceLE, Int.reduceMul, Int.reduceAdd, Int.reduceSub, reduceIte, Nat.reduceLeDiff, Nat.reduceLT, Nat.reduceMul, Nat.reduceSub, Int.reduceToNat, s6, Try.underlying33, Try.underlying22, sl28, ze3, by3, sz3, Try.underlying5, sh3, Try.underlying41, fd41_0, Try.underlying3, zc41, sz41, Try.underlying45, fo41_0]
  refine FnK.use (mstore_ok a sz x g3.r (by omega) hx hg (ok2 M3 _ _ _ (by rw [rs3, rs2]) rfl (by omega) (by omega))) ?_
  intro y h6 ⟨e6, M4, g4, rs4, by4⟩
  rw [e6]; unfold fltA
  simp -implicitDefEqProofs (disch := first | omega | (simp only [h_szP, h_szS]; done) | (simp only [h_szP, h_szS]; omega)) only [go_sem, Nat.reduceBEq, reduceCtorEq, Nat.reduceAdd, Int.reduceEq, Int.reduceLT, Int.reduceLE, Int.reduceMul, Int.reduceAdd, Int.reduceSub, reduceIte, Nat.reduceLeDiff, Nat.reduceLT, Nat.reduceMul, Nat.reduceSub, Int.reduceToNat, s6, Try.underlying33, Try.underlying22, sl28, ze3, by3, sz3, Try.underlying5, sh3, Try.underlying41, fd41_0, Try.underlying3, zc41, sz41, Try.underlying45, fo41_0]
  refine FnK.use (mload_ok a 8 g4.r (by omega) (by decide) (ok2 M4 _ _ _ (by rw [rs4, rs3, rs2]) rfl (by omega) (by omega))) ?_
  intro y h7 ⟨e7, K7⟩
  rw [e7]; unfold fltA
  have mem4 : ∀ i, i < 8 → memAt M4 (a + i) = if i < sz then x / 256 ^ i % 256 else 255 := by
    intro i hi
    rw [by4]
    by_cases q : i < sz
    · rw [if_pos (by omega), if_pos q]; congr 3; omega
    · rw [if_neg (by omega), if_neg q, by3, if_pos (by omega)]
      have e : a + i - a = i := by omega
      rw [e]
      exact ones_byte i hi
  have ahead : le (peekL M4 (a - 8) 8) = 18446744073709551615 := by
    have : peekL M4 (a - 8) 8 = bytesOf 18446744073709551615 8 := by
      unfold peekL bytesOf
      apply List.map_congr_left
      intro i hi
      simp at hi
      rw [by4, if_neg (by omega), by3, if_neg (by omega), by2, if_pos (by omega)]
      congr 3; omega
    rw [this]; decide
  obtain ⟨W, hW⟩ : ∃ W, W = le (peekL M4 a 8) := ⟨_, rfl⟩
  have hWs := whole_eq M4 a sz x hx hsz mem4
  rw [← hW] at hWs ⊢
  have R7 := g4.r.ext K7
  have hWl : W < 18446744073709551616 := by rw [hWs]; rcases hsz with q | q | q | q <;> subst q <;> omega
  obtain ⟨T, hT⟩ : ∃ T : Heap → Prop, T = fun hh => Keeps h.size h hh ∧ MR hh s M4 := ⟨_, rfl⟩
  have K5 := g2.fx.own (h0 := h) (fun b hb => hF2 b hb) K4
  have K6 := g3.fx.own K5.2 K5.1
  have K8 := g4.fx.own K6.2 K6.1
  have K9 := K8.1.of_ext K7 (Nat.le_refl _)
  have R7' := R7.ext (Keeps.push h7 (.cells #[.int .i64 0, .int .u64 0] 41) (Nat.le_refl _))
  have K9' : Keeps h.size h (h7.push (.cells #[.int .i64 0, .int .u64 0] 41)) := K9.push' (Nat.le_refl _)
  have ok4 := fun c k p => ok2 M4 c k p (by rw [rs4, rs3, rs2])
  by_cases q8 : sz = 8
  subst q8
  have eW : (W : Int) = x := by rw [hWs]; omega
  have fin : Fn Try.prog 22 [ptr s 0, .int .u64 (a - 8 : Nat), .int .i64 8] (h7.push (.cells #[.int .i64 0, .int .u64 0] 41)) fun x h' => x = .tuple #[.int .u64 18446744073709551615, fltA 0 0] ∧ Keeps h.size h h' ∧ MR h' s M4 :=
    (mload_ok (a - 8) 8 R7' (by omega) (by decide) (ok4 _ _ _ rfl (by omega) (by omega))).mono fun y h8 ⟨e8, k⟩ => ⟨by rw [e8, ahead]; rfl, K9'.of_ext k (Nat.le_refl _), R7'.ext k⟩
  simp -implicitDefEqProofs (disch := first | omega | (simp only [h_szP, h_szS]; done) | (simp only [h_szP, h_szS]; omega)) only [go_sem, Nat.reduceBEq, reduceCtorEq, Nat.reduceAdd, Int.reduceEq, Int.reduceLT, Int.reduceLE, Int.reduceMul, Int.reduceAdd, Int.reduceSub, reduceIte, Nat.reduceLeDiff, Nat.reduceLT, Nat.reduceMul, Nat.reduceSub, Int.reduceToNat, s6, Try.underlying33, Try.underlying22, sl28, ze3, by3, sz3, Try.underlying5, sh3, Try.underlying41, fd41_0, Try.underlying3, zc41, sz41, Try.underlying45, fo41_0, hw8]
  refine FnK.use fin ?_
  intro y h8 ⟨e8, K10, R8⟩
  rw [e8]; unfold fltA
  simp -implicitDefEqProofs (disch := first | omega | (simp only [h_szP, h_szS]; done) | (simp only [h_szP, h_szS]; omega)) only [go_sem, Nat.reduceBEq, reduceCtorEq, Nat.reduceAdd, Int.reduceEq, Int.reduceLT, Int.reduceLE, Int.reduceMul, Int.reduceAdd, Int.reduceSub, reduceIte, Nat.reduceLeDiff, Nat.reduceLT, Nat.reduceMul, Nat.reduceSub, Int.reduceToNat, s6, Try.underlying33, Try.underlying22, sl28, ze3, by3, sz3, Try.underlying5, sh3, Try.underlying41, fd41_0, Try.underlying3, zc41, sz41, Try.underlying45, fo41_0, eW]
  rw [← eW]
  rotate_left
  have hd : decide ((sz : Int) < 8) = true := decide_eq_true (by omega)
  have hwant := want_eq x sz hx (by omega)
  rw [← hWs] at hwant
  have fin : Fn Try.prog 22 [ptr s 0, .int .u64 (a - 8 : Nat), .int .i64 8] (h7.push (.cells #[.int .i64 0, .int .u64 0] 41)) fun x h' => x = .tuple #[.int .u64 18446744073709551615, fltA 0 0] ∧ Keeps h.size h h' ∧ MR h' s M4 :=
    (mload_ok (a - 8) 8 R7' (by omega) (by decide) (ok4 _ _ _ rfl (by omega) (by omega))).mono fun y h8 ⟨e8, k⟩ => ⟨by rw [e8, ahead]; rfl, K9'.of_ext k (Nat.le_refl _), R7'.ext k⟩
  simp -implicitDefEqProofs (disch := first | omega | (simp only [h_szP, h_szS]; done) | (simp only [h_szP, h_szS]; omega)) only [go_sem, Nat.reduceBEq, reduceCtorEq, Nat.reduceAdd, Int.reduceEq, Int.reduceLT, Int.reduceLE, Int.reduceMul, Int.reduceAdd, Int.reduceSub, reduceIte, Nat.reduceLeDiff, Nat.reduceLT, Nat.reduceMul, Nat.reduceSub, Int.reduceToNat, s6, Try.underlying33, Try.underlying22, sl28, ze3, by3, sz3, Try.underlying5, sh3, Try.underlying41, fd41_0, Try.underlying3, zc41, sz41, Try.underlying45, fo41_0, hw8, hd]
  refine FnK.use fin ?_
  intro y h8 ⟨e8, K10, R8⟩
  rw [e8]; unfold fltA
  simp -implicitDefEqProofs (disch := first | omega | (simp only [h_szP, h_szS]; done) | (simp only [h_szP, h_szS]; omega)) only [go_sem, Nat.reduceBEq, reduceCtorEq, Nat.reduceAdd, Int.reduceEq, Int.reduceLT, Int.reduceLE, Int.reduceMul, Int.reduceAdd, Int.reduceSub, reduceIte, Nat.reduceLeDiff, Nat.reduceLT, Nat.reduceMul, Nat.reduceSub, Int.reduceToNat, s6, Try.underlying33, Try.underlying22, sl28, ze3, by3, sz3, Try.underlying5, sh3, Try.underlying41, fd41_0, Try.underlying3, zc41, sz41, Try.underlying45, fo41_0, hwant]
  all_goals
    obtain ⟨I, hI⟩ : ∃ I : Nat → Fr → Heap → Prop, I = fun k fr hh => ∃ (i : Nat), i + k = 8 ∧ Keeps h.size h hh ∧ MR hh s M4 ∧
      fr = ((((fr0.up 16 (.int .i64 i)).up 10 (.int .u64 W)).up 8 (.int .u64 a)).up 7 (ptr s 0)) := ⟨_, rfl⟩
    refine LoopK.use I 8 (by rw [hI]; exact ⟨0, rfl, K10.push' (Nat.le_refl _), R8.ext (Keeps.push _ _ (Nat.le_refl _)), rfl⟩) ?_
    clear K10 R8 e8
    intro k fr hh hK
    rw [hI] at hK
    obtain ⟨i, hk, K10, R8, hf⟩ := hK
    subst hf
    by_cases hi : i < 8
    · have hdi : decide ((i : Int) < 8) = true := decide_eq_true (by omega)
      have hw : IntKind.u64.wrap ((a : Int) + i) = ((a + i : Nat) : Int) := by rw [wrap_u64]; omega
      have hb : bitI .and .u64 (shrI .u64 (W : Int) (8 * (i : Int))) 255 = ((memAt M4 (a + i) : Nat) : Int) := by
        rw [shr_byte W i hWl (by omega)]
        have : W = le (bytesOf W 8) := by rw [le_bytes]; omega
        have h1 : peekL M4 a 8 = bytesOf W 8 := by
          rw [hW]; exact (bytes_le (peekL M4 a 8) fun b hb => by
            simp only [peekL, List.mem_map] at hb
            obtain ⟨j, _, rfl⟩ := hb
            exact byteAt_lt g4.r.sr _).symm.trans (by rw [peekL_len])
        have h2 := congrArg (fun l : List Nat => l[i]?) h1
        simp only [peekL, bytesOf, List.getElem?_map] at h2
        rw [List.getElem?_range hi] at h2
        simp only [Option.map_some, Option.some.injEq] at h2
        rw [h2]
      simp -implicitDefEqProofs (disch := first | omega | (simp only [h_szP, h_szS]; done) | (simp only [h_szP, h_szS]; omega)) only [go_sem, Nat.reduceBEq, reduceCtorEq, Nat.reduceAdd, Int.reduceEq, Int.reduceLT, Int.reduceLE, Int.reduceMul, Int.reduceAdd, Int.reduceSub, reduceIte, Nat.reduceLeDiff, Nat.reduceLT, Nat.reduceMul, Nat.reduceSub, Int.reduceToNat, s6, Try.underlying33, Try.underlying22, sl28, ze3, by3, sz3, Try.underlying5, sh3, Try.underlying41, fd41_0, Try.underlying3, zc41, sz41, Try.underlying45, fo41_0, hdi, hw]
      have ld := mload_ok (a + i) 1 R8 (by omega) (by decide) (ok4 _ _ _ rfl (by omega) (by omega))
      have hp1 : le (peekL M4 (a + i) 1) = memAt M4 (a + i) := by simp [peekL, List.range_succ, le]
      rw [hp1] at ld
      refine FnK.use ld ?_
      intro y h9 ⟨e9, k9⟩
      rw [e9]; unfold fltA
      simp -implicitDefEqProofs (disch := first | omega | (simp only [h_szP, h_szS]; done) | (simp only [h_szP, h_szS]; omega)) only [go_sem, Nat.reduceBEq, reduceCtorEq, Nat.reduceAdd, Int.reduceEq, Int.reduceLT, Int.reduceLE, Int.reduceMul, Int.reduceAdd, Int.reduceSub, reduceIte, Nat.reduceLeDiff, Nat.reduceLT, Nat.reduceMul, Nat.reduceSub, Int.reduceToNat, s6, Try.underlying33, Try.underlying22, sl28, ze3, by3, sz3, Try.underlying5, sh3, Try.underlying41, fd41_0, Try.underlying3, zc41, sz41, Try.underlying45, fo41_0, hb]
      refine ⟨k - 1, by omega, ?_⟩
      rw [hI]
      exact ⟨i + 1, by omega, (K10.of_ext k9 (Nat.le_refl _)).push' (Nat.le_refl _), (R8.ext k9).ext (Keeps.push _ _ (Nat.le_refl _)), rfl⟩
    · have hdi : decide ((i : Int) < 8) = false := decide_eq_false (by omega)
      simp -implicitDefEqProofs (disch := first | omega | (simp only [h_szP, h_szS]; done) | (simp only [h_szP, h_szS]; omega)) only [go_sem, Nat.reduceBEq, reduceCtorEq, Nat.reduceAdd, Int.reduceEq, Int.reduceLT, Int.reduceLE, Int.reduceMul, Int.reduceAdd, Int.reduceSub, reduceIte, Nat.reduceLeDiff, Nat.reduceLT, Nat.reduceMul, Nat.reduceSub, Int.reduceToNat, s6, Try.underlying33, Try.underlying22, sl28, ze3, by3, sz3, Try.underlying5, sh3, Try.underlying41, fd41_0, Try.underlying3, zc41, sz41, Try.underlying45, fo41_0, hdi]
      exact fun b hb => K10.old b hb
end Go.SX.G
