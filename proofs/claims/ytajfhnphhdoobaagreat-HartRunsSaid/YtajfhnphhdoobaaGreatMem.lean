/- Words as bytes; the space: what it is made of, small functions. No condition but on sizes. The space: New, up, span, lay, where. No condition but on sizes. The space: lay, where, Map. No condition but on sizes. The space: where, Map, Unmap, Protect, the heap's end. No condition but on sizes. The space: Unmap, Protect, the heap's end. No condition but on sizes. The space: SetBrk, Probe, Store, Load, Peek, Pages. No condition but on sizes. The laws of the space: what is asked first; MemRooms, the walk. No condition. The space: Brk, Put, reach, Out. No condition but on sizes. MemBytes, the walk. No condition. -/
import Derived.Test.YtajfhnphhdoobaaGreatPage
import Derived.Test.YtajfhnphhdoobaaGreatReg
import Derived.Test.YtajfhnphhdoobaaGreatSxP
import Derived.Test.YtajfhnphhdoobaaGreatPlainA
set_option linter.unusedVariables false
set_option linter.unusedSimpArgs false
namespace Go.SX.G
open Go Go.SX Go.Proofs
set_option maxRecDepth 100000
set_option maxHeartbeats 2000000
theorem shr8 (y : Nat) : shrI .u64 (y : Int) 8 = ((y / 256 : Nat) : Int) := by
  simp only [shrI, IntKind.bits]
  rw [Int.fdiv_eq_ediv_of_nonneg _ (by decide)]
  rfl
theorem or_le (a b i : Nat) (hi : i < 8) (ha : a < 256 ^ i) (hb : b < 256) : bitI .or .u64 (a : Int) ((b * 256 ^ i : Nat) : Int) = ((a + b * 256 ^ i : Nat) : Int) := by
  have h1 : 256 ^ (i + 1) ≤ 256 ^ 8 := Nat.pow_le_pow_right (by decide) (by omega)
  have h2 : b * 256 ^ i + 256 ^ i ≤ 256 ^ (i + 1) := by rw [Nat.pow_succ]; have : (b + 1) * 256 ^ i ≤ 256 * 256 ^ i := Nat.mul_le_mul_right _ (by omega); rw [Nat.add_mul] at this; omega
  have h3 : a + b * 256 ^ i < 18446744073709551616 := by have : 256 ^ 8 = 18446744073709551616 := by decide
                                                         omega
  have h4 := Nat.two_pow_add_eq_or_of_lt (i := 8 * i) (b := a) (by rw [Nat.pow_mul]; exact ha) b
  rw [Nat.pow_mul] at h4
  have h5 : (2 ^ 8) ^ i = 256 ^ i := rfl
  rw [h5] at h4
  have ea : (a : Int) = ((BitVec.ofNat 64 a).toNat : Int) := by simp; omega
  have eb : ((b * 256 ^ i : Nat) : Int) = ((BitVec.ofNat 64 (b * 256 ^ i)).toNat : Int) := by rw [BitVec.toNat_ofNat, Nat.mod_eq_of_lt (by omega)]
  rw [ea, eb, bv_or, BitVec.toNat_or, BitVec.toNat_ofNat, BitVec.toNat_ofNat, Nat.mod_eq_of_lt (by omega), Nat.mod_eq_of_lt (by omega), Nat.or_comm, Nat.mul_comm, ← h4]
  congr 1; rw [Nat.mul_comm]; omega
theorem wput_c (x n : Nat) (h0 : 1 ≤ n) (h8 : n ≤ 8) (hx : x < 18446744073709551616) (h : Heap) : Fn Tryz.prog 50 [.slice none 0 0, .int .u64 x, .int .i64 n] h fun v h' => Ss h' h.size v 5 encB 1 (bytesOf x n) ∧ Keeps h.size h h' := by
  have hd1 : decide ((n : Int) < 1) = false := decide_eq_false (by omega)
  have hd2 : decide ((8 : Int) < n) = false := decide_eq_false (by omega)
  refine Fn_c Tryz.func50 mixed c50 (by kernel_rfl) ?_; rw [r50]
  refine gs0 ?_; (try with_reducible exact trivial)
  have s0 : Ss (h.push (.cells #[] 5)) h.size (.slice (some ⟨h.size, 0, none⟩) 0 0) 5 encB 1 [] := Ss.mk encB_len [] (h_pushE _ _ _ rfl) rfl rfl (Nat.le_refl _) (Nat.le_refl _) (Nat.le_refl _)
  refine app_sl (m := 0) (n := 0) (lo := h.size) (L := []) (new := []) elB s0 rfl rfl rfl rfl (by omega) rfl (by simp) ?_
  intro v1 h1 S1 G1
  have K1 : Keeps h.size h h1 := (Keeps.push h _ (Nat.le_refl _)).trans (G1.keeps (lo := h.size) (fun b hb => by simp [blk] at hb; omega) (by simp))
  refine gs2 @hd1 @hd2 ?_; (try with_reducible exact trivial)
  obtain ⟨I, hI⟩ : ∃ I : Nat → Fr → Heap → Prop, I = fun k fr hh => ∃ (i : Nat) (vo : Value), i + k = n ∧ Ss hh h.size vo 5 encB 1 (bytesOf x i) ∧ Keeps h.size h hh ∧
      fr = ((((fr0.up 19 (.int .i64 i)).up 18 (.int .i64 n)).up 7 vo).up 1 (.int .u64 ((x / 256 ^ i : Nat) : Int))) := ⟨_, rfl⟩
  refine LoopK.use I n (by rw [hI]; exact ⟨0, v1, by omega, S1, K1, by simp⟩) ?_
  intro k fr hh hK
  rw [hI] at hK
  obtain ⟨i, vo, hk, S2, K2, hf⟩ := hK
  subst hf
  by_cases hi : i < n
  · have hdi : decide ((i : Int) < n) = true := decide_eq_true (by omega)
    have hxi : x / 256 ^ i < 18446744073709551616 := Nat.lt_of_le_of_lt (Nat.div_le_self _ _) hx
    have hw8 : IntKind.u8.wrap ((x / 256 ^ i : Nat) : Int) = ((x / 256 ^ i % 256 : Nat) : Int) := by rw [wrap_u8]; omega
    have hsh := shr8 (x / 256 ^ i)
    have hdd : x / 256 ^ i / 256 = x / 256 ^ (i + 1) := by rw [Nat.div_div_eq_div_mul, Nat.pow_succ]
    rw [hdd] at hsh
    refine gs3 @hdi @hw8 @hsh ?_; (try with_reducible exact trivial)
    have hbl := bytesOf_len x i
    refine app_push (x / 256 ^ i % 256) elB encB_len S2 rfl rfl rfl (by rw [hbl]; omega) K2.size ?_
    intro v3 h3 S3 K3 _ _
    refine gs0 ?_; (try with_reducible exact trivial)
    rw [← bytesOf_succ] at S3
    refine ⟨k - 1, by omega, ?_⟩
    rw [hI]
    exact ⟨i + 1, v3, by omega, S3, K2.trans K3, by rw [hsh]; rfl⟩
  · have e1 : i = n := by omega
    subst e1
    refine gs0 ?_; (try with_reducible exact trivial)
    exact ⟨S2, K2⟩
theorem wget_c {h : Heap} {v : Value} {bs : List Nat} (n : Nat) (h0 : 1 ≤ n) (h8 : n ≤ 8) (hv : Vs h v encB 1 bs) (hn : bs.length = n) (hb : ∀ b ∈ bs, b < 256) :
    Fn Tryz.prog 147 [v, .int .i64 n] h fun x h' => x = .int .u64 (le bs : Nat) ∧ h' = h := by
  obtain ⟨vb, vo, cap, e1, hcap, hvb⟩ := hv.open (i := 0) (by omega)
  rw [hn] at e1 hcap
  subst e1
  have hd1 : decide ((n : Int) < 1) = false := decide_eq_false (by omega)
  have hd2 : decide ((8 : Int) < n) = false := decide_eq_false (by omega)
  refine Fn_c Tryz.func147 mixed c147 (by kernel_rfl) ?_; rw [r147]
  refine gs2 @hd1 @hd2 ?_; (try with_reducible exact trivial)
  obtain ⟨I, hI⟩ : ∃ I : Nat → Fr → Heap → Prop, I = fun k fr hh => hh = h ∧ ∃ (i : Nat), i + k = n ∧
      fr = ((((fr0.up 21 (.int .i64 i)).up 20 (.int .i64 n)).up 19 (.slice (some ⟨vb, vo, none⟩) n cap)).up 5 (.int .u64 (le (bs.take i) : Nat))) := ⟨_, rfl⟩
  refine LoopK.use I n (by rw [hI]; exact ⟨rfl, 0, by omega, by simp [le]⟩) ?_
  intro k fr hh hK
  rw [hI] at hK
  obtain ⟨e0, i, hk, hf⟩ := hK
  have e0 := e0.symm
  subst e0
  subst hf
  by_cases hi : i < n
  · have hdi : decide ((i : Int) < n) = true := decide_eq_true (by omega)
    have hib : i < bs.length := by omega
    have hE : cellO (vo + i) h[vb]? = some (.int .u8 (bs[i] : Nat)) := by
      have := hv.field encB_len hib (j := 0) (by omega)
      simpa [encB] using this
    have hb1 := hb bs[i] (List.getElem_mem hib)
    have hsh := shl_byte bs[i] i hb1 (by omega)
    have htk := le_lt (bs.take i) fun b q => hb b (List.mem_of_mem_take q)
    rw [List.length_take, Nat.min_eq_left (by omega)] at htk
    have hor := or_le (le (bs.take i)) bs[i] i (by omega) htk hb1
    have hle : le (bs.take (i + 1)) = le (bs.take i) + bs[i] * 256 ^ i := by
      rw [take_snoc _ _ hib, le_app, List.length_take, Nat.min_eq_left (by omega)]
    refine gs5 @hdi @hE @hsh @hor @Nat.mul_one ?_; (try with_reducible exact trivial)
    refine ⟨k - 1, by omega, ?_⟩
    rw [hI]
    exact ⟨rfl, i + 1, by omega, by rw [hle]; rfl⟩
  · have e1 : i = n := by omega
    subst e1
    refine gs0 ?_; (try with_reducible exact trivial)
    rw [List.take_of_length_le (by omega)]
end Go.SX.G
namespace Go.SX.G
open Go Go.SX Go.Proofs
set_option maxRecDepth 100000
set_option maxHeartbeats 2000000
/-- a space at a block. -/
structure MR (h : Heap) (s : Nat) (M : MemD) : Prop where
  top : h[s]? = some (.cells #[ptr M.l 0, ptr M.p 0, .int .i64 M.most, .int .u64 M.base, .int .u64 M.fin] 84 (0, 0))
  lr : LR h M.l M.bl M.rs
  sr : SR h M.p M.D
  wf : wfR M.rs
  len : M.rs.length ≤ 256
  ds : s ≠ M.l ∧ M.bl ≠ some s ∧ ¬ foot M.p M.D s
  dl : M.bl ≠ some M.l ∧ ¬ foot M.p M.D M.l
  db : ∀ b, M.bl = some b → ¬ foot M.p M.D b
  num : M.most < 9223372036854775808 ∧ M.base ≤ 274877906944 ∧ M.fin ≤ 274877906944
/-- its blocks. -/
def mfoot (s : Nat) (M : MemD) (b : Nat) : Prop := b = s ∨ b = M.l ∨ M.bl = some b ∨ foot M.p M.D b
theorem MR.lt {h : Heap} {s : Nat} {M : MemD} (r : MR h s M) {b : Nat} (f : mfoot s M b) : b < h.size := by
  rcases f with rfl | rfl | f | f
  · exact getElem?_lt r.top
  · exact r.lr.lt
  · exact r.lr.blt f
  · exact r.sr.lt f
theorem MR.mono {h h' : Heap} {s : Nat} {M : MemD} (r : MR h s M) (k : ∀ b, mfoot s M b → h'[b]? = h[b]?) : MR h' s M :=
  ⟨by rw [k s (.inl rfl)]; exact r.top, r.lr.mono (k _ (.inr (.inl rfl))) fun b e => k b (.inr (.inr (.inl e))), r.sr.mono fun b f => k b (.inr (.inr (.inr f))), r.wf, r.len, r.ds, r.dl, r.db, r.num⟩
theorem MR.ext {h h' : Heap} {s : Nat} {M : MemD} (r : MR h s M) (k : Keeps h.size h h') : MR h' s M := r.mono fun b f => k.old b (r.lt f)
/-- blocks outside are as they were. -/
structure Fx (F F' : Nat → Prop) (h h' : Heap) : Prop where
  size : h.size ≤ h'.size
  ft : ∀ b, F' b → F b ∨ h.size ≤ b
  old : ∀ b, b < h.size → ¬ F b → h'[b]? = h[b]?
theorem Fx.of {F : Nat → Prop} {h h' : Heap} (k : Keeps h.size h h') : Fx F F h h' := ⟨k.size, fun _ f => .inl f, fun b hb _ => k.old b hb⟩
theorem Fx.trans {F F1 F2 : Nat → Prop} {h h1 h2 : Heap} (a : Fx F F1 h h1) (b : Fx F1 F2 h1 h2) : Fx F F2 h h2 := by
  refine ⟨Nat.le_trans a.size b.size, fun x f => ?_, fun x hx f => ?_⟩
  · have := a.size
    rcases b.ft x f with q | q
    · exact a.ft x q
    · right; omega
  · have := a.size
    rw [b.old x (by omega) fun q => ?_, a.old x hx f]
    rcases a.ft x q with z | z
    · exact f z
    · omega
theorem mnew_c (h : Heap) (n : Nat) (hn : n < 9223372036854775808) : Fn Tryz.prog 9 [.int .i64 n] h fun x h' => ∃ s M, x = ptr s 0 ∧ MR h' s M ∧ Keeps h.size h h' ∧ (∀ b, mfoot s M b → h.size ≤ b) ∧ M.rs = [] ∧ M.D.es = [] ∧ M.most = n ∧ M.base = 0 ∧ M.fin = 0 ∧ M.D.clock = 0 ∧ M.D.all = 0 ∧ M.D.ss = [] := by
  have hmx : (if (n : Int) < 0 then (0 : Int) else n) = n := by rw [if_neg (by omega)]
  have K0 : ∀ (o : Obj), Keeps h.size h (h.push o) := fun o => Keeps.push h o (Nat.le_refl _)
  refine Fn_c Tryz.func9 mixed c9 (by kernel_rfl) ?_; rw [r9]
  refine gs0 ?_; (try with_reducible exact trivial)
  refine FnK.use (rnew_c h) ?_
  intro x1 h1 ⟨e1, e2⟩
  rw [e1, e2]
  refine gs0 ?_; (try with_reducible exact trivial)
  refine FnK.use (pnew_c _) ?_
  intro x2 h2 ⟨e3, e4⟩
  rw [e3, e4]
  refine gs1 @hmx ?_; (try with_reducible exact trivial)
  obtain ⟨hh, ehh⟩ : ∃ hh : Heap, hh = ((((h.push (.cells #[.slice none 0 0] 135)).push (.map #[] 0)).push (.map #[] 0)).push (.cells #[.map (some (h.size + 1)), .map (some (h.size + 2)), .int .u64 0, .int .u64 0] 139)).push
    (.cells #[.pointer (some ⟨h.size, 0, none⟩), .pointer (some ⟨h.size + 3, 0, none⟩), .int .i64 n, .int .u64 0, .int .u64 0] 84) := ⟨_, rfl⟩
  rw [← ehh]
  have h0 : hh[h.size]? = some (.cells #[.slice none 0 0] 135 (0, 0)) := by rw [ehh]; refine gs0 ?_; (try with_reducible exact trivial)
  have h1 : hh[h.size + 1]? = some (.map #[] 0) := by rw [ehh]; refine gs0 ?_; (try with_reducible exact trivial)
  have h2 : hh[h.size + 2]? = some (.map #[] 0) := by rw [ehh]; refine gs0 ?_; (try with_reducible exact trivial)
  have h3 : hh[h.size + 3]? = some (.cells #[.map (some (h.size + 1)), .map (some (h.size + 2)), .int .u64 0, .int .u64 0] 139 (0, 0)) := by rw [ehh]; refine gs0 ?_; (try with_reducible exact trivial)
  have h4 : hh[h.size + 4]? = some (.cells #[.pointer (some ⟨h.size, 0, none⟩), .pointer (some ⟨h.size + 3, 0, none⟩), .int .i64 n, .int .u64 0, .int .u64 0] 84 (0, 0)) := by rw [ehh]; refine gs0 ?_; (try with_reducible exact trivial)
  have hK : Keeps h.size h hh := by rw [ehh]; exact ((((K0 _).push' (Nat.le_refl _)).push' (Nat.le_refl _)).push' (Nat.le_refl _)).push' (Nat.le_refl _)
  have hft : ∀ b, foot (h.size + 3) ⟨h.size + 1, h.size + 2, [], 0, [], 0, 0, 0⟩ b → b = h.size + 3 ∨ b = h.size + 1 ∨ b = h.size + 2 := by
    rintro b (f | f | f | ⟨l, hl, _⟩)
    · exact .inl f
    · exact .inr (.inl f)
    · exact .inr (.inr f)
    · cases hl
  refine ⟨h.size + 4, ⟨h.size, none, [], h.size + 3, ⟨h.size + 1, h.size + 2, [], 0, [], 0, 0, 0⟩, n, 0, 0⟩, rfl, ⟨h4, ⟨_, h0, rfl, Vs.nil _⟩, ⟨h3, h1, h2, fun l hl => (by cases hl), List.Pairwise.nil, List.Pairwise.nil, List.Pairwise.nil, List.Pairwise.nil, by show h.size + 1 ≠ h.size + 2; omega, fun s hs => (by cases hs), List.Pairwise.nil, ⟨by show (0 : Nat) < _; decide, by show (0 : Nat) < _; decide⟩⟩, wfR.nil, by simp, ⟨by show h.size + 4 ≠ h.size; omega, by simp, fun f => ?_⟩, ⟨by simp, fun f => ?_⟩, fun b e => (by cases e), hn, by simp, by simp⟩, hK, ?_, rfl, rfl, rfl, rfl, rfl, rfl, rfl, rfl⟩
  · have := hft (h.size + 4) f; omega
  · have := hft h.size f; omega
  · rintro b (f | f | f | f)
    · subst f; show h.size ≤ h.size + 4; omega
    · subst f; exact Nat.le_refl _
    · cases f
    · have := hft b f; omega
theorem up_c (h : Heap) (n : Nat) (hn : n < 18446744073709551616) : Fn Tryz.prog 77 [.int .u64 n] h fun x h' => x = placeV (upO n) ∧ h' = h := by
  unfold upO
  by_cases q : n ≤ 274877906944
  · have hd : decide ((274877906944 : Int) < n) = false := decide_eq_false (by omega)
    rw [if_pos q]
    refine Fn_c Tryz.func77 mixed c77 (by kernel_rfl) ?_; rw [r77]
    refine gs1 @hd ?_; (try with_reducible exact trivial)
    simp only [placeV, upN]
    congr 4
    omega
  · have hd : decide ((274877906944 : Int) < n) = true := decide_eq_true (by omega)
    rw [if_neg q]
    refine Fn_c Tryz.func77 mixed c77 (by kernel_rfl) ?_; rw [r77]
    refine gs1 @hd ?_; (try with_reducible exact trivial)
    rfl
theorem placeV_some (a : Nat) : placeV (some a) = .tuple #[.int .u64 a, .bool true] := rfl
theorem placeV_none : placeV none = .tuple #[.int .u64 0, .bool false] := rfl
theorem mspan_c (h : Heap) (a n : Nat) (ha : a < 18446744073709551616) (hn : n < 18446744073709551616) : Fn Tryz.prog 42 [.int .u64 a, .int .u64 n] h fun x h' => x = placeV (spanO a n) ∧ h' = h := by
  refine Fn_c Tryz.func42 mixed c42 (by kernel_rfl) ?_; rw [r42]
  refine gs0 ?_; (try with_reducible exact trivial)
  refine FnK.val (up_c h n hn) ?_
  unfold upO
  by_cases q : n ≤ 274877906944
  · rw [if_pos q, placeV_some]
    have hu := upN_le q
    have hu0 : upN n = 0 ↔ n = 0 := by unfold upN; omega
    by_cases qa : a ≤ 274877906944
    · have hw : IntKind.u64.wrap (274877906944 - (a : Int)) = 274877906944 - (a : Int) := wr_u64 _ (by omega) (by omega)
      by_cases qf : upN n ≤ 274877906944 - a
      · have hw2 : IntKind.u64.wrap ((a : Int) + (upN n : Nat)) = ((a + upN n : Nat) : Int) := by rw [wr_u64 _ (by omega) (by omega)]; omega
        refine gs2 @hw @hw2 ?_; (try with_reducible exact trivial)
        unfold spanO
        repeat' first | intro _ | refine And.intro ?_ ?_
        all_goals first | (rw [if_pos (by omega)]; rfl) | (rw [if_neg (by omega)]; rfl) | omega
      · have hd : decide ((274877906944 - (a : Int)) < (upN n : Nat)) = true := decide_eq_true (by omega)
        refine gs2 @hw @hd ?_; (try with_reducible exact trivial)
        unfold spanO
        repeat' first | intro _ | refine And.intro ?_ ?_
        all_goals first | (rw [if_pos (by omega)]; rfl) | (rw [if_neg (by omega)]; rfl) | omega
    · have hd : decide ((274877906944 : Int) < a) = true := decide_eq_true (by omega)
      refine gs1 @hd ?_; (try with_reducible exact trivial)
      unfold spanO
      repeat' first | intro _ | refine And.intro ?_ ?_
      all_goals first | (rw [if_pos (by omega)]; rfl) | (rw [if_neg (by omega)]; rfl) | omega
  · rw [if_neg q, placeV_none]
    refine gs0 ?_; (try with_reducible exact trivial)
    unfold spanO
    rw [if_neg (by omega)]
    rfl
end Go.SX.G
namespace Go.SX.G
open Go Go.SX Go.Proofs
set_option maxRecDepth 100000
set_option maxHeartbeats 2000000
/-- what 'lay' comes to. -/
inductive Laid (h h' : Heap) (s : Nat) (x : Value) (M : MemD) (a e p : Nat) : Prop
  | no (c : 256 < (joL (wiL M.rs ⟨a, e, p⟩)).length ∨ M.most < pagesL (joL (wiL M.rs ⟨a, e, p⟩))) (ex : x = .int .i64 12) (k : Keeps h.size h h')
  | yes (c1 : (joL (wiL M.rs ⟨a, e, p⟩)).length ≤ 256) (c2 : pagesL (joL (wiL M.rs ⟨a, e, p⟩)) ≤ M.most) (ex : x = .int .i64 0) (M' : MemD) (r : MR h' s M') (rs : M'.rs = joL (wiL M.rs ⟨a, e, p⟩)) (byte : ∀ y, memAt M' y = if a ≤ y ∧ y < e then 0 else memAt M y)
      (most : M'.most = M.most) (base : M'.base = M.base) (fin : M'.fin = M.fin) (fx : Fx (mfoot s M) (mfoot s M') h h') (sr : Sr M.D M'.D ((e - a) / 4096) (touched a e))
theorem lay_c {h : Heap} {s : Nat} {M : MemD} (a e p : Nat) (r : MR h s M) (hs : spanB a e = true) (hp : p ≤ 7) :
    Fn Tryz.prog 43 [ptr s 0, .int .u64 a, .int .u64 e, .int .i64 p] h fun x h' => Laid h h' s x M a e p := by
  have ht := r.top
  have hlt := getElem?_lt ht
  obtain ⟨s1, s2, s3, s4⟩ := spanB_iff.1 hs
  have hmp := mapped_at ⟨a, e, p⟩ r.wf hs hp
  obtain ⟨rs2, hrs2⟩ : ∃ rs2, rs2 = joL (wiL M.rs ⟨a, e, p⟩) := ⟨_, rfl⟩
  rw [← hrs2] at hmp
  have hlen := r.len
  refine Fn_c Tryz.func43 mixed c43 (by kernel_rfl) ?_; rw [r43]
  refine gs1 @ht ?_; (try with_reducible exact trivial)
  refine FnK.use (rcopy_c r.lr (by omega)) ?_
  intro x1 h1 hx1
  obtain ⟨l', bl', e1, L1, hl', hbl', K1⟩ := hx1
  rw [e1]
  refine gs0 ?_; (try with_reducible exact trivial)
  refine FnK.use (rmap_c a e p L1 (by omega) hs hp) ?_
  intro x2 h2 hx2
  cases hx2 with
  | no n ex k =>
    rw [ex]
    refine gs0 ?_; (try with_reducible exact trivial)
    exact .no (.inl n) rfl (K1.of_ext k (Nat.le_refl _))
  | yes n ex bl2 L2 fresh2 size2 old2 =>
    rw [ex]
    have hk1 := K1.size
    have hl1 := L1.lt
    have ht2 : h2[s]? = some (.cells #[ptr M.l 0, ptr M.p 0, .int .i64 M.most, .int .u64 M.base, .int .u64 M.fin] 84 (0, 0)) := by rw [old2 s (by omega) (by omega), K1.old s hlt]; exact ht
    have hwf2 := hmp.1
    have K2 : Keeps h.size h h2 := ⟨by omega, fun b hb => by rw [old2 b (by omega) (by omega), K1.old b hb]⟩
    rw [← hrs2] at L2 n
    have hpg := rpages_c L2 (by omega) (fun q hq => by have := hwf2.each q hq; omega)
    -- behind the two orders
    have tail : ∀ h3, Keeps h2.size h2 h3 → pagesL rs2 ≤ M.most → Fn Tryz.prog 56 [ptr M.p 0, .int .u64 a, .int .u64 e] (h3.setIfInBounds s (.cells #[ptr l' 0, ptr M.p 0, .int .i64 M.most, .int .u64 M.base, .int .u64 M.fin] 84)) fun _ h' => Laid h h' s (.int .i64 0) M a e p := by
      intro h3 K3 hpm
      have hk3 := K3.size
      have hs3 : s < h3.size := by omega
      have R3 : SR (h3.setIfInBounds s (.cells #[ptr l' 0, ptr M.p 0, .int .i64 M.most, .int .u64 M.base, .int .u64 M.fin] 84)) M.p M.D := by
        refine r.sr.mono fun b f => ?_
        rw [h_setN _ _ _ _ (fun q => r.ds.2.2 (by rw [← q]; exact f)), K3.old b (by have := r.sr.lt f; omega), K2.old b (r.sr.lt f)]
      refine (clear_c a e R3 s1 s2 s3 s4).mono ?_
      intro x5 h5 hx5
      obtain ⟨D', C⟩ := hx5
      have hsz5 := C.size
      simp only [Array.size_setIfInBounds] at hsz5
      have hold5 : ∀ b, b < h3.size → b ≠ s → ¬ foot M.p M.D b → h5[b]? = h3[b]? := fun b hb hne hf => by rw [C.old b (by simpa using hb) hf, h_setN _ _ _ _ hne]
      have hnf : ∀ b, h.size ≤ b → ¬ foot M.p M.D b := fun b hb f => by have := r.sr.lt f; omega
      have hL2 := L2.lt
      have L5 : LR h5 l' bl2 rs2 := by
        refine L2.mono ?_ fun b hb => ?_
        · rw [hold5 l' (by omega) (by omega) (hnf _ hl'), K3.old _ hL2]
        · have := fresh2 b hb
          have := L2.blt hb
          rw [hold5 b (by omega) (by omega) (hnf _ (by omega)), K3.old _ (L2.blt hb)]
      have ht5 : h5[s]? = some (.cells #[ptr l' 0, ptr M.p 0, .int .i64 M.most, .int .u64 M.base, .int .u64 M.fin] 84 (0, 0)) := by
        rw [C.old s (by simpa using hs3) r.ds.2.2]; exact h_setS _ _ _ hs3
      refine .yes (by rw [← hrs2]; exact n) (by rw [← hrs2]; exact hpm) rfl { M with l := l', bl := bl2, rs := rs2, D := D' } ⟨ht5, L5, C.rep, hwf2, n, ⟨by show s ≠ l'; omega, fun q => ?_, fun f => r.ds.2.2 (C.ft _ f)⟩, ⟨fun q => ?_, fun f => hnf _ hl' (C.ft _ f)⟩, fun b hb f => ?_, r.num⟩ (by rw [← hrs2]) (fun y => C.byte y) rfl rfl rfl ⟨by omega, fun b f => ?_, fun b hb hf => ?_⟩ C.sr
      · have := fresh2 s q; omega
      · have := fresh2 l' q; omega
      · have := fresh2 b hb; exact hnf b (by omega) (C.ft _ f)
      · rcases f with f | f | f | f
        · exact .inl (.inl f)
        · right; rw [f]; exact hl'
        · have := fresh2 b f; right; omega
        · exact .inl (.inr (.inr (.inr (C.ft _ f))))
      · rw [hold5 b (by omega) (fun q => hf (.inl q)) (fun q => hf (.inr (.inr (.inr q)))), K3.old b (by omega), K2.old b hb]
    refine gs1 @ht2 ?_; (try with_reducible exact trivial)
    refine ⟨?_, ?_⟩
    · refine FnK.use hpg ?_
      intro x3 h3 hx3
      obtain ⟨e3, K3⟩ := hx3
      rw [e3]
      have ht3 := K3.at ht2 (getElem?_lt ht2)
      have hs3 := getElem?_lt ht3
      refine gs1 @ht3 ?_; (try with_reducible exact trivial)
      refine ⟨fun q => ?_, fun q => ?_⟩
      · exact .no (.inr (by rw [← hrs2]; omega)) rfl (K2.of_ext K3 (Nat.le_refl _))
      · refine FnK.use (tail h3 K3 (by omega)) ?_
        intro x h' hh
        refine gs0 ?_; (try with_reducible exact trivial)
        exact hh
    · refine FnK.use hpg ?_
      intro x3 h3 hx3
      obtain ⟨e3, K3⟩ := hx3
      rw [e3]
      have ht3 := K3.at ht2 (getElem?_lt ht2)
      have hs3 := getElem?_lt ht3
      refine gs1 @ht3 ?_; (try with_reducible exact trivial)
      refine ⟨fun q => ?_, fun q => ?_⟩
      · exact .no (.inr (by rw [← hrs2]; omega)) rfl (K2.of_ext K3 (Nat.le_refl _))
      · refine FnK.use (tail h3 K3 (by omega)) ?_
        intro x h' hh
        refine gs0 ?_; (try with_reducible exact trivial)
        exact hh
end Go.SX.G
namespace Go.SX.G
open Go Go.SX Go.Proofs
set_option maxRecDepth 100000
set_option maxHeartbeats 2000000
theorem freeB_eq (rs : List Reg) (a e : Nat) : freeB rs a e = freeB' rs a e := rfl
theorem where_c {h : Heap} {s : Nat} {M : MemD} (a n : Nat) (r : MR h s M) (ha : a < 18446744073709551616) (hn : n ≤ 274877906944) :
    Fn Tryz.prog 41 [ptr s 0, .int .u64 a, .int .u64 n] h fun x h' => x = placeV (whereO M.rs a n) ∧ Keeps h.size h h' := by
  have ht := r.top
  have hlt := getElem?_lt ht
  have hlen := r.len
  have hroom : ∀ h1, Keeps h.size h h1 → Fn Tryz.prog 76 [ptr M.l 0, .int .u64 n, .int .u64 274877833216] h1 fun x h' => x = placeV (roomO M.rs n) ∧ h' = h1 := by
    intro h1 k
    exact room_c n 274877833216 (r.lr.ext k) (by omega) r.wf hn (by omega)
  cases hsp : spanO a n with
  | none =>
    have hw : whereO M.rs a n = roomO M.rs n := by unfold whereO; rw [hsp]
    refine Fn_c Tryz.func41 mixed c41 (by kernel_rfl) ?_; rw [r41]
    refine gs0 ?_; (try with_reducible exact trivial)
    refine FnK.val (mspan_c h a n ha (by omega)) ?_
    rw [hsp, placeV_none]
    refine gs1 @ht ?_; (try with_reducible exact trivial)
    refine FnK.val (hroom h Keeps.refl') ?_
    cases hr : roomO M.rs n with
    | none => rw [placeV_none]; refine gs0 ?_; (try with_reducible exact trivial); rw [hw, hr]; exact ⟨rfl, Keeps.refl'⟩
    | some b => rw [placeV_some]; refine gs0 ?_; (try with_reducible exact trivial); rw [hw, hr]; exact ⟨rfl, Keeps.refl'⟩
  | some e =>
    by_cases q0 : a = 0
    · have hw : whereO M.rs a n = roomO M.rs n := by unfold whereO; rw [hsp]; simp [q0]
      have hd : ((a : Int) = 0) = True := eq_true (by omega)
      refine Fn_c Tryz.func41 mixed c41 (by kernel_rfl) ?_; rw [r41]
      refine gs0 ?_; (try with_reducible exact trivial)
      refine FnK.val (mspan_c h a n ha (by omega)) ?_
      rw [hsp, placeV_some]
      refine gs2 @ht @hd ?_; (try with_reducible exact trivial)
      refine FnK.val (hroom h Keeps.refl') ?_
      cases hr : roomO M.rs n with
      | none => rw [placeV_none]; refine gs0 ?_; (try with_reducible exact trivial); rw [hw, hr]; exact ⟨rfl, Keeps.refl'⟩
      | some b => rw [placeV_some]; refine gs0 ?_; (try with_reducible exact trivial); rw [hw, hr]; exact ⟨rfl, Keeps.refl'⟩
    · have hd : ((a : Int) = 0) = False := eq_false (by omega)
      refine Fn_c Tryz.func41 mixed c41 (by kernel_rfl) ?_; rw [r41]
      refine gs0 ?_; (try with_reducible exact trivial)
      refine FnK.val (mspan_c h a n ha (by omega)) ?_
      rw [hsp, placeV_some]
      refine gs2 @ht @hd ?_; (try with_reducible exact trivial)
      refine FnK.use (free_c a e r.lr (by omega)) ?_
      intro x h1 hx
      obtain ⟨e1, K1⟩ := hx
      rw [e1, freeB_eq]
      have ht1 := K1.at ht hlt
      cases hf : freeB' M.rs a e with
      | true =>
        have hw : whereO M.rs a n = some a := by unfold whereO; rw [hsp]; simp [q0, hf]
        refine gs1 @ht1 ?_; (try with_reducible exact trivial)
        rw [hw]; exact ⟨rfl, K1⟩
      | false =>
        have hw : whereO M.rs a n = roomO M.rs n := by unfold whereO; rw [hsp]; simp [hf]
        refine gs1 @ht1 ?_; (try with_reducible exact trivial)
        refine FnK.val (hroom h1 K1) ?_
        cases hr : roomO M.rs n with
        | none => rw [placeV_none]; refine gs0 ?_; (try with_reducible exact trivial); rw [hw, hr]; exact ⟨rfl, K1⟩
        | some b => rw [placeV_some]; refine gs0 ?_; (try with_reducible exact trivial); rw [hw, hr]; exact ⟨rfl, K1⟩
def numE (a e : Nat) : Value := .tuple #[.int .u64 a, .int .i64 e]
/-- what Map comes to. -/
inductive Mapd (h h' : Heap) (s : Nat) (x : Value) (M : MemD) (a n : Nat) (p : Int) (fixed : Bool) : Prop
  | bad (c : ¬ (a % 4096 = 0 ∧ n ≠ 0 ∧ n ≤ 274877906944 ∧ 0 ≤ p ∧ p ≤ 7)) (ex : x = numE 0 22) (k : Keeps h.size h h')
  | noroom (c : a % 4096 = 0 ∧ n ≠ 0 ∧ n ≤ 274877906944 ∧ 0 ≤ p ∧ p ≤ 7) (f : fixed = false) (w : whereO M.rs a n = none) (ex : x = numE 0 12) (k : Keeps h.size h h')
  | nospan (c : a % 4096 = 0 ∧ n ≠ 0 ∧ n ≤ 274877906944 ∧ 0 ≤ p ∧ p ≤ 7) (b : Nat) (hb : if fixed then b = a else whereO M.rs a n = some b) (w : spanO b n = none) (ex : x = numE 0 22) (k : Keeps h.size h h')
  | lay (c : a % 4096 = 0 ∧ n ≠ 0 ∧ n ≤ 274877906944 ∧ 0 ≤ p ∧ p ≤ 7) (b : Nat) (hb : if fixed then b = a else whereO M.rs a n = some b) (w : spanO b n = some (b + upN n)) (y : Value) (t : Laid h h' s y M b (b + upN n) p.toNat) (ex : (y = .int .i64 12 ∧ x = numE 0 12) ∨ (y = .int .i64 0 ∧ x = numE b 0))
theorem Laid.widen {h0 h h' : Heap} {s : Nat} {x : Value} {M : MemD} {a e p : Nat} (k : Keeps h0.size h0 h) (t : Laid h h' s x M a e p) : Laid h0 h' s x M a e p := by
  cases t with
  | no c ex q => exact .no c ex (k.of_ext q (Nat.le_refl _))
  | yes c1 c2 ex M' r rs byte most base fin fx sr => exact .yes c1 c2 ex M' r rs byte most base fin ((Fx.of k).trans fx) sr
theorem mmap_c {h : Heap} {s : Nat} {M : MemD} (a n : Nat) (p : Int) (fixed : Bool) (r : MR h s M) (ha : a < 18446744073709551616) (hn : n < 18446744073709551616) :
    Fn Tryz.prog 12 [ptr s 0, .int .u64 a, .int .u64 n, .int .i64 p, .bool fixed] h fun x h' => Mapd h h' s x M a n p fixed := by
  by_cases hc : a % 4096 = 0 ∧ n ≠ 0 ∧ n ≤ 274877906944 ∧ 0 ≤ p ∧ p ≤ 7
  · obtain ⟨c1, c2, c3, c4, c5⟩ := id hc
    obtain ⟨pn, rfl⟩ := Int.eq_ofNat_of_zero_le c4
    have hd1 : ((a : Int) % 4096 = 0) = True := eq_true (by omega)
    have hd2 : ((n : Int) = 0) = False := eq_false (by omega)
    have hd3 : decide ((274877906944 : Int) < n) = false := decide_eq_false (by omega)
    have hd4 : decide ((pn : Int) < 0) = false := decide_eq_false (by omega)
    have hd5 : decide ((7 : Int) < pn) = false := decide_eq_false (by omega)
    cases fixed with
    | true =>
      refine Fn_c Tryz.func12 mixed c12 (by kernel_rfl) ?_; rw [r12]
      refine gs5 @hd1 @hd2 @hd3 @hd4 @hd5 ?_; (try with_reducible exact trivial)
      refine FnK.val (mspan_c h a n ha hn) ?_
      cases hsp : spanO a n with
      | none =>
        rw [placeV_none]
        refine gs0 ?_; (try with_reducible exact trivial)
        exact .nospan hc a rfl hsp rfl Keeps.refl'
      | some e =>
        rw [placeV_some]
        obtain ⟨q1, q2, _⟩ := spanO_some hsp
        subst q2
        refine gs0 ?_; (try with_reducible exact trivial)
        refine FnK.use (lay_c a _ pn r q1 (by omega)) ?_
        intro y h2 hy
        cases id hy with
        | no c ex k => rw [ex] at hy ⊢; refine gs0 ?_; (try with_reducible exact trivial); exact .lay hc a rfl hsp _ hy (.inl ⟨rfl, rfl⟩)
        | yes c1 c2 ex => rw [ex] at hy ⊢; refine gs0 ?_; (try with_reducible exact trivial); exact .lay hc a rfl hsp _ hy (.inr ⟨rfl, rfl⟩)
    | false =>
      refine Fn_c Tryz.func12 mixed c12 (by kernel_rfl) ?_; rw [r12]
      refine gs5 @hd1 @hd2 @hd3 @hd4 @hd5 ?_; (try with_reducible exact trivial)
      refine FnK.use (where_c a n r ha c3) ?_
      intro x h1 hx
      obtain ⟨e1, K1⟩ := hx
      rw [e1]
      cases hw : whereO M.rs a n with
      | none =>
        rw [placeV_none]
        refine gs0 ?_; (try with_reducible exact trivial)
        exact .noroom hc rfl hw rfl K1
      | some b =>
        rw [placeV_some]
        refine gs0 ?_; (try with_reducible exact trivial)
        have hb : b < 18446744073709551616 := by have := whereO_lt hw; omega
        refine FnK.val (mspan_c h1 b n hb hn) ?_
        cases hsp : spanO b n with
        | none =>
          rw [placeV_none]
          refine gs0 ?_; (try with_reducible exact trivial)
          exact .nospan hc b hw hsp rfl K1
        | some e =>
          rw [placeV_some]
          obtain ⟨q1, q2, _⟩ := spanO_some hsp
          subst q2
          refine gs0 ?_; (try with_reducible exact trivial)
          refine FnK.use (lay_c b _ pn (r.ext K1) q1 (by omega)) ?_
          intro y h2 hy
          have hy2 := hy.widen K1
          cases hy with
          | no c ex k => rw [ex] at hy2 ⊢; refine gs0 ?_; (try with_reducible exact trivial); exact .lay hc b hw hsp _ hy2 (.inl ⟨rfl, rfl⟩)
          | yes c1 c2 ex => rw [ex] at hy2 ⊢; refine gs0 ?_; (try with_reducible exact trivial); exact .lay hc b hw hsp _ hy2 (.inr ⟨rfl, rfl⟩)
  · have hbad : ∀ h', Keeps h.size h h' → Mapd h h' s (numE 0 22) M a n p fixed := fun h' k => .bad hc rfl k
    refine Fn_c Tryz.func12 mixed c12 (by kernel_rfl) ?_; rw [r12]
    refine gs0 ?_; (try with_reducible exact trivial)
    repeat' first | intro _ | refine And.intro ?_ ?_
    all_goals first | exact hbad h Keeps.refl' | (exfalso; apply hc; omega)
end Go.SX.G
namespace Go.SX.G
open Go Go.SX Go.Proofs
set_option maxRecDepth 100000
set_option maxHeartbeats 2000000
/-- a change of the space: its regions, its bytes. -/
structure Chg (h h' : Heap) (s : Nat) (M M' : MemD) (n : Nat) (T : Nat → Prop) : Prop where
  r : MR h' s M'
  most : M'.most = M.most
  base : M'.base = M.base
  fin : M'.fin = M.fin
  fx : Fx (mfoot s M) (mfoot s M') h h'
  sr : Sr M.D M'.D n T
/-- the space behind a change of its store. -/
theorem MR.stored {h h1 : Heap} {s : Nat} {M : MemD} {D' : StoreD} (r : MR h s M) (R : SR h1 M.p D') (ft : ∀ b, foot M.p D' b → foot M.p M.D b ∨ h.size ≤ b) (size : h.size ≤ h1.size) (old : ∀ b, b < h.size → ¬ foot M.p M.D b → h1[b]? = h[b]?) :
    MR h1 s { M with D := D' } ∧ Fx (mfoot s M) (mfoot s { M with D := D' }) h h1 := by
  have hsz := fun b f => r.lt (b := b) f
  have hnf : ∀ b, b < h.size → ¬ foot M.p M.D b → ¬ foot M.p D' b := fun b hb hf f => by
    rcases ft b f with q | q
    · exact hf q
    · omega
  refine ⟨⟨by rw [old s (hsz _ (.inl rfl)) r.ds.2.2]; exact r.top, r.lr.mono (old _ r.lr.lt r.dl.2) fun b hb => old b (r.lr.blt hb) (r.db b hb), R, r.wf, r.len, ⟨r.ds.1, r.ds.2.1, hnf _ (hsz _ (.inl rfl)) r.ds.2.2⟩, ⟨r.dl.1, hnf _ r.lr.lt r.dl.2⟩, fun b hb => hnf b (r.lr.blt hb) (r.db b hb), r.num⟩, size, fun b f => ?_, fun b hb hf => old b hb fun f => hf (.inr (.inr (.inr f)))⟩
  rcases f with f | f | f | f
  · exact .inl (.inl f)
  · exact .inl (.inr (.inl f))
  · exact .inl (.inr (.inr (.inl f)))
  · rcases ft b f with q | q
    · exact .inl (.inr (.inr (.inr q)))
    · exact .inr q
end Go.SX.G
namespace Go.SX.G
open Go Go.SX Go.Proofs
set_option maxRecDepth 100000
set_option maxHeartbeats 2000000
theorem msize_c (h : Heap) (n : Int) : Fn Tryz.prog 86 [.int .i64 n] h fun x h' => x = .bool (goodN n) ∧ h' = h := by
  refine Fn_c Tryz.func86 mixed c86 (by kernel_rfl) ?_; rw [r86]
  refine gs0 ?_; (try with_reducible exact trivial)
  unfold goodN
  repeat' first | intro _ | refine And.intro ?_ ?_
  all_goals first | rfl | (congr 1; symm; first | (apply decide_eq_true; omega) | (apply decide_eq_false; omega) | (congr 1; apply propext; omega))
theorem mfirst_c {h : Heap} {s : Nat} {M : MemD} (a n prot : Nat) (r : MR h s M) (ha : a < 18446744073709551616) (hn : n ≤ 4194304) (hp : prot ≤ 7) :
    Fn Tryz.prog 87 [ptr s 0, .int .u64 a, .int .i64 n, .int .i64 prot] h fun x h' => ∃ o, x = placeV o ∧ FirstN M.rs a n prot o ∧ Keeps h.size h h' := by
  have hlen := r.len
  refine Fn_c Tryz.func87 mixed c87 (by kernel_rfl) ?_; rw [r87]
  refine gs0 ?_; (try with_reducible exact trivial)
  obtain ⟨I, hI⟩ : ∃ I : Nat → Fr → Heap → Prop, I = fun k fr hh => ∃ (i : Nat), i + k = n ∧ Keeps h.size h hh ∧ (∀ j, j < i → okAt M.rs prot (adr a j)) ∧
      fr = (((((fr0.up 15 (.int .u64 i)).up 14 (.int .u64 n)).up 3 (.int .i64 prot)).up 1 (.int .u64 a)).up 0 (ptr s 0)) := ⟨_, rfl⟩
  refine LoopK.use I n (by rw [hI]; exact ⟨0, by omega, Keeps.refl', fun j hj => by omega, rfl⟩) ?_
  intro k fr hh hK
  rw [hI] at hK
  obtain ⟨i, hk, K1, hok, hf⟩ := hK
  subst hf
  by_cases hi : i < n
  · have hdi : decide ((i : Int) < n) = true := decide_eq_true (by omega)
    have R1 := r.ext K1
    have ht1 := R1.top
    have hw : IntKind.u64.wrap ((a : Int) + i) = ((adr a i : Nat) : Int) := by rw [wrap_u64]; unfold adr; omega
    refine gs3 @hdi @ht1 @hw ?_; (try with_reducible exact trivial)
    refine FnK.use (at_c (adr a i) R1.lr (by omega)) ?_
    intro x h2 hx
    obtain ⟨e1, K2⟩ := hx
    have K3 := K1.of_ext K2 (Nat.le_refl _)
    rw [e1]
    cases hr : atL M.rs (adr a i) with
    | none =>
      simp only [atV]
      refine gs1 @hw ?_; (try with_reducible exact trivial)
      refine ⟨some (adr a i), rfl, .some i hi (fun ⟨q, h3, _⟩ => by rw [hr] at h3; cases h3) hok, K3.push' (Nat.le_refl _)⟩
    | some q =>
      have hm := atL_mem hr
      have hwq := r.wf.each q hm.1
      have hbit := bitI_and_i64 q.p prot (by omega) (by omega)
      simp only [atV]
      refine gs2 @hbit @hw ?_; (try with_reducible exact trivial)
      refine ⟨fun z => ?_, fun z => ?_⟩
      · have z' : q.p &&& prot = prot := by exact_mod_cast z
        refine ⟨k - 1, by omega, ?_⟩
        rw [hI]
        refine ⟨i + 1, by omega, K3.push' (Nat.le_refl _), fun j hj => ?_, rfl⟩
        by_cases hji : j = i
        · subst hji; exact ⟨q, hr, z'⟩
        · exact hok j (by omega)
      · refine ⟨some (adr a i), rfl, .some i hi (fun ⟨q', h3, h4⟩ => z ?_) hok, K3.push' (Nat.le_refl _)⟩
        rw [hr] at h3; cases h3
        exact_mod_cast h4
  · have hdi : decide ((i : Int) < n) = false := decide_eq_false (by omega)
    have e1 : i = n := by omega
    subst e1
    refine gs1 @hdi ?_; (try with_reducible exact trivial)
    exact ⟨none, rfl, .none hok, K1⟩
/-- what Probe tells. -/
inductive Probd (x : Value) (M : MemD) (a : Nat) (n : Int) : Prop
  | bad (c : goodN n = false) (ex : x = fltA 2 a)
  | flt (c : goodN n = true) (b : Nat) (f : FirstN M.rs a n.toNat 2 (some b)) (ex : x = fltA 2 b)
  | ok (c : goodN n = true) (f : FirstN M.rs a n.toNat 2 none) (ex : x = fltA 0 0)
theorem goodN_le {n : Int} (h : goodN n = true) : ∃ k : Nat, n = k ∧ 1 ≤ k ∧ k ≤ 8 := by
  simp [goodN] at h
  rcases h with h | h | h | h
  · exact ⟨1, h, by omega, by omega⟩
  · exact ⟨2, h, by omega, by omega⟩
  · exact ⟨4, h, by omega, by omega⟩
  · exact ⟨8, h, by omega, by omega⟩
theorem mprobe_c {h : Heap} {s : Nat} {M : MemD} (a : Nat) (n : Int) (r : MR h s M) (ha : a < 18446744073709551616) :
    Fn Tryz.prog 49 [ptr s 0, .int .u64 a, .int .i64 n] h fun x h' => Probd x M a n ∧ Keeps h.size h h' := by
  have K0 : ∀ o, Keeps h.size h (h.push o) := fun o => Keeps.push h o (Nat.le_refl _)
  cases hg : goodN n with
  | false =>
    refine Fn_c Tryz.func49 mixed c49 (by kernel_rfl) ?_; rw [r49]
    refine gs0 ?_; (try with_reducible exact trivial)
    refine FnK.val (msize_c _ n) ?_
    rw [hg]
    refine gs0 ?_; (try with_reducible exact trivial)
    exact ⟨.bad hg rfl, K0 _⟩
  | true =>
    obtain ⟨k, rfl, hk1, hk2⟩ := goodN_le hg
    refine Fn_c Tryz.func49 mixed c49 (by kernel_rfl) ?_; rw [r49]
    refine gs0 ?_; (try with_reducible exact trivial)
    refine FnK.val (msize_c _ k) ?_
    rw [hg]
    refine gs0 ?_; (try with_reducible exact trivial)
    refine FnK.use (mfirst_c a k 2 (r.ext (K0 _)) ha (by omega) (by omega)) ?_
    intro x h1 hx
    obtain ⟨o, e1, F, K1⟩ := hx
    have K2 := (K0 _).of_ext K1 (Nat.le_refl _)
    have hb : h1[h.size]? = some (.cells #[.int .i64 0, .int .u64 0] 41 (0, 0)) := by rw [K1.old _ (by simp)]; refine gs0 ?_; (try with_reducible exact trivial)
    have hb2 := getElem?_lt hb
    rw [e1]
    cases o with
    | none =>
      rw [placeV_none]
      refine gs1 @hb ?_; (try with_reducible exact trivial)
      exact ⟨.ok hg F rfl, K2.set' (Nat.le_refl _)⟩
    | some b =>
      rw [placeV_some]
      refine gs1 @hb ?_; (try with_reducible exact trivial)
      exact ⟨.flt hg b F rfl, K2.set' (Nat.le_refl _)⟩
/-- what Store comes to. -/
inductive Stord (h h' : Heap) (s : Nat) (x : Value) (M : MemD) (a : Nat) (n : Int) (v : Nat) : Prop
  | no (p : Probd x M a n) (k : Keeps h.size h h') (ne : ∃ b, x = fltA 2 b)
  | ok (c : goodN n = true) (f : FirstN M.rs a n.toNat 2 none) (ex : x = fltA 0 0) (M' : MemD) (g : Chg h h' s M M' n.toNat (touched a (a + n.toNat))) (rs : M'.rs = M.rs) (byte : ∀ y, memAt M' y = if a ≤ y ∧ y < a + n.toNat then v / 256 ^ (y - a) % 256 else memAt M y)
theorem Wr.chg {h h' : Heap} {s : Nat} {M : MemD} {D' : StoreD} {lo hi : Nat} {B : Nat → Nat} (r : MR h s M) (w : Wr h h' M.p M.D D' lo hi B) : Chg h h' s M { M with D := D' } (hi - lo) (touched lo hi) := by
  obtain ⟨R, F⟩ := r.stored w.rep w.ft w.size w.old
  exact ⟨R, rfl, rfl, rfl, F, w.sr⟩
theorem Chg.widen {h0 h h' : Heap} {s n : Nat} {M M' : MemD} {T : Nat → Prop} (k : Keeps h0.size h0 h) (g : Chg h h' s M M' n T) : Chg h0 h' s M M' n T := ⟨g.r, g.most, g.base, g.fin, (Fx.of k).trans g.fx, g.sr⟩
theorem Chg.poke {h h' : Heap} {s n c : Nat} {M M' : MemD} {T : Nat → Prop} (g : Chg h h' s M M' n T) (hc : h.size ≤ c) (hn : ¬ mfoot s M' c) (o : Obj) : Chg h (h'.setIfInBounds c o) s M M' n T :=
  ⟨g.r.mono fun b f => h_setN _ _ _ _ (fun e => hn (by rw [← e]; exact f)), g.most, g.base, g.fin, ⟨by simpa using g.fx.size, g.fx.ft, fun b hb hf => by rw [h_setN _ _ _ _ (by omega)]; exact g.fx.old b hb hf⟩, g.sr⟩
theorem mstore_c {h : Heap} {s : Nat} {M : MemD} (a : Nat) (n : Int) (v : Nat) (r : MR h s M) (ha : a < 18446744073709551616) (hv : v < 18446744073709551616) :
    Fn Tryz.prog 17 [ptr s 0, .int .u64 a, .int .i64 n, .int .u64 v] h fun x h' => Stord h h' s x M a n v := by
  have K0 : ∀ o, Keeps h.size h (h.push o) := fun o => Keeps.push h o (Nat.le_refl _)
  refine Fn_c Tryz.func17 mixed c17 (by kernel_rfl) ?_; rw [r17]
  refine gs0 ?_; (try with_reducible exact trivial)
  refine FnK.use (mprobe_c a n (r.ext (K0 _)) ha) ?_
  intro x h1 hx
  obtain ⟨P, K1⟩ := hx
  have K2 := (K0 _).of_ext K1 (Nat.le_refl _)
  have hb : h1[h.size]? = some (.cells #[.int .i64 0, .int .u64 0] 41 (0, 0)) := by rw [K1.old _ (by simp)]; refine gs0 ?_; (try with_reducible exact trivial)
  have hb2 := getElem?_lt hb
  have fault : ∀ b, x = fltA 2 b → Probd (fltA 2 b) M a n := fun b e => e ▸ P
  cases id P with
  | bad c ex =>
    rw [ex]; unfold fltA
    refine gs1 @hb ?_; (try with_reducible exact trivial)
    exact .no (.bad c rfl) ((K2.set' (Nat.le_refl _)).push' (Nat.le_refl _)) ⟨a, rfl⟩
  | flt c b f ex =>
    rw [ex]; unfold fltA
    refine gs1 @hb ?_; (try with_reducible exact trivial)
    exact .no (.flt c b f rfl) ((K2.set' (Nat.le_refl _)).push' (Nat.le_refl _)) ⟨b, rfl⟩
  | ok c f ex =>
    rw [ex]; unfold fltA
    obtain ⟨k, rfl, hk1, hk2⟩ := goodN_le c
    have R1 := r.ext K2
    have ht1 := R1.top
    have hs1 := R1.lt (.inl rfl)
    have hsz := K2.size
    have hs0 := r.lt (.inl rfl)
    have hk : ((k : Int).toNat) = k := rfl
    rw [hk] at f
    obtain ⟨hfar, hadr⟩ := FirstN.far r.wf (by cases f with | none h => exact h) (by omega) ha (by omega)
    have tail : ∀ h2 v2, Keeps h.size h h2 → Ss h2 h1.size v2 5 encB 1 (bytesOf v k) → h2[h.size]? = some (.cells #[.int .i64 0, .int .u64 0] 41 (0, 0)) → Fn Tryz.prog 47 [ptr M.p 0, .int .u64 a, v2] h2 fun _ h' => (∀ o, Stord h (h'.setIfInBounds h.size o) s (fltA 0 0) M a k v) ∧ h'[h.size]? = some (.cells #[.int .i64 0, .int .u64 0] 41 (0, 0)) := by
      intro h2 v2 k2 S2 hb2
      have R2 := r.ext k2
      have hlen2 := bytesOf_len v k
      have hnf : ∀ b, h.size ≤ b → ¬ foot M.p M.D b := fun b hb f => by have := r.sr.lt f; omega
      refine (write_c a R2.sr ha (by rw [hlen2]; omega) S2.vs (fun b hb => hnf b (by have := (S2.blk hb).1; omega)) fun b hb => bytesOf_lt hb).mono ?_
      intro x3 h3 hx3
      obtain ⟨D', W⟩ := hx3
      rw [hlen2] at W
      have G := (Wr.chg R2 W).widen k2
      rw [Nat.add_sub_cancel_left] at G
      have hnm : ¬ mfoot s { M with D := D' } h.size := by
        rintro (q | q | q | q)
        · omega
        · have := r.lr.lt; simp only at q; omega
        · have := r.lr.blt q; omega
        · rcases W.ft _ q with z | z
          · exact hnf _ (Nat.le_refl _) z
          · have := getElem?_lt hb2; omega
      refine ⟨fun o => .ok c f rfl _ (G.poke (Nat.le_refl _) hnm o) rfl fun y => ?_, by rw [W.old _ (getElem?_lt hb2) (hnf _ (Nat.le_refl _))]; exact hb2⟩
      rw [hk]
      show byteAt D'.es y = _
      rw [W.byte]
      by_cases q : a ≤ y ∧ y < a + k
      · rw [if_pos ⟨q.1, q.2, by omega⟩, if_pos q]
        simp only [bytesOf, List.getD_eq_getElem?_getD, List.getElem?_map]
        rw [List.getElem?_range (by omega)]; rfl
      · rw [if_neg (fun z => q ⟨z.1, z.2.1⟩), if_neg q]; rfl
    have hKb : Keeps h.size h (h1.push (.cells #[.int .i64 0, .int .u64 0] 41)) := K2.push' (Nat.le_refl _)
    have hput : Fn Tryz.prog 50 [.slice none 0 0, .int .u64 v, .int .i64 k] (h1.push (.cells #[.int .i64 0, .int .u64 0] 41)) fun v2 h2 => Keeps h.size h h2 ∧ Ss h2 h1.size v2 5 encB 1 (bytesOf v k) ∧ h2[h.size]? = some (.cells #[.int .i64 0, .int .u64 0] 41 (0, 0)) ∧ h2[s]? = h[s]? := by
      refine (wput_c v k hk1 hk2 hv _).mono ?_
      intro v2 h2 ⟨S2, K3⟩
      have k2 := hKb.of_ext K3 (Nat.le_refl _)
      exact ⟨k2, S2.le (by simp), by rw [K3.old _ (by simp; omega), h_pushL _ _ _ (by omega)]; exact hb, k2.old _ hs0⟩
    refine gs2 @hb @ht1 ?_; (try with_reducible exact trivial)
    refine ⟨?_, ?_⟩
    · refine FnK.use hput ?_
      intro v2 h2 ⟨k2, S2, hb2', e2⟩
      refine gs0 ?_; (try with_reducible exact trivial)
      refine FnK.use (tail h2 v2 k2 S2 hb2') ?_
      intro x3 h3 ⟨hS, hb3⟩
      have hb3' := getElem?_lt hb3
      refine gs1 @hb3 ?_; (try with_reducible exact trivial)
      exact hS _
    · refine FnK.use hput ?_
      intro v2 h2 ⟨k2, S2, hb2', e2⟩
      have ht2 := e2.trans r.top
      refine gs1 @ht2 ?_; (try with_reducible exact trivial)
      refine FnK.use (tail h2 v2 k2 S2 hb2') ?_
      intro x3 h3 ⟨hS, hb3⟩
      have hb3' := getElem?_lt hb3
      refine gs1 @hb3 ?_; (try with_reducible exact trivial)
      exact hS _
/-- what Load comes to. -/
inductive Loadd (x : Value) (M : MemD) (a : Nat) (n : Int) : Prop
  | bad (c : goodN n = false) (ex : x = .tuple #[.int .u64 0, fltA 1 a])
  | flt (c : goodN n = true) (b : Nat) (f : FirstN M.rs a n.toNat 1 (some b)) (ex : x = .tuple #[.int .u64 0, fltA 1 b])
  | ok (c : goodN n = true) (f : FirstN M.rs a n.toNat 1 none) (ex : x = .tuple #[.int .u64 (le (peekL M a n.toNat) : Nat), fltA 0 0])
theorem byteAt_lt {h : Heap} {p : Nat} {D : StoreD} (r : SR h p D) (a : Nat) : byteAt D.es a < 256 := by
  unfold byteAt
  split
  · rename_i l hl
    have hm := List.mem_of_find?_eq_some hl
    have h1 := r.leaf l hm
    rw [List.getD_eq_getElem?_getD]
    cases hg : l.dat[a % 4096]? with
    | none => simp
    | some x => exact h1.2.2.2.2 x (List.mem_of_getElem? hg)
  · decide
theorem mload_c {h : Heap} {s : Nat} {M : MemD} (a : Nat) (n : Int) (r : MR h s M) (ha : a < 18446744073709551616) :
    Fn Tryz.prog 133 [ptr s 0, .int .u64 a, .int .i64 n] h fun x h' => Loadd x M a n ∧ Keeps h.size h h' := by
  have K0 : ∀ o, Keeps h.size h (h.push o) := fun o => Keeps.push h o (Nat.le_refl _)
  cases hg : goodN n with
  | false =>
    refine Fn_c Tryz.func133 mixed c133 (by kernel_rfl) ?_; rw [r133]
    refine gs0 ?_; (try with_reducible exact trivial)
    refine FnK.val (msize_c _ n) ?_
    rw [hg]
    refine gs0 ?_; (try with_reducible exact trivial)
    exact ⟨.bad hg rfl, K0 _⟩
  | true =>
    obtain ⟨k, rfl, hk1, hk2⟩ := goodN_le hg
    refine Fn_c Tryz.func133 mixed c133 (by kernel_rfl) ?_; rw [r133]
    refine gs0 ?_; (try with_reducible exact trivial)
    refine FnK.val (msize_c _ k) ?_
    rw [hg]
    refine gs0 ?_; (try with_reducible exact trivial)
    refine FnK.use (mfirst_c a k 1 (r.ext (K0 _)) ha (by omega) (by omega)) ?_
    intro x h1 hx
    obtain ⟨o, e1, F, K1⟩ := hx
    have K2 := (K0 _).of_ext K1 (Nat.le_refl _)
    have hb : h1[h.size]? = some (.cells #[.int .i64 0, .int .u64 0] 41 (0, 0)) := by rw [K1.old _ (by simp)]; refine gs0 ?_; (try with_reducible exact trivial)
    have hb2 := getElem?_lt hb
    rw [e1]
    cases o with
    | some b =>
      rw [placeV_some]
      refine gs1 @hb ?_; (try with_reducible exact trivial)
      exact ⟨.flt hg b F rfl, K2.set' (Nat.le_refl _)⟩
    | none =>
      rw [placeV_none]
      have R1 := r.ext K2
      have ht1 := R1.top
      refine gs2 @hb @ht1 ?_; (try with_reducible exact trivial)
      refine FnK.use (read_c a k R1.sr ha hk1 (by omega)) ?_
      intro v2 h2 ⟨S2, K3⟩
      rw [peekL_get] at S2
      refine gs0 ?_; (try with_reducible exact trivial)
      refine FnK.val (wget_c k hk1 hk2 S2.vs (peekL_len _ _ _) (fun b hb => ?_)) ?_
      · simp only [peekL, List.mem_map] at hb
        obtain ⟨i, _, rfl⟩ := hb
        exact byteAt_lt r.sr _
      · have hb3 := K3.at hb hb2
        have hb4 := getElem?_lt hb3
        refine gs1 @hb3 ?_; (try with_reducible exact trivial)
        exact ⟨.ok hg F rfl, (K2.of_ext K3 (Nat.le_refl _)).set' (Nat.le_refl _)⟩
end Go.SX.G
namespace Go.SX.G
open Go Go.SX Go.Proofs
set_option maxRecDepth 100000
set_option maxHeartbeats 2000000
end Go.SX.G
namespace Go.SX.G
open Go Go.SX Go.Proofs
set_option maxRecDepth 100000
set_option maxHeartbeats 2000000
/-- a part of a slice. -/
theorem Vs_sub {α : Type} {enc : α → List Value} {size : Nat} (he : ∀ x, (enc x).length = size) {h : Heap} {b o m cap i k c' : Nat} {xs : List α} (s : Vs h (.slice (some ⟨b, o, none⟩) m cap) enc size xs) (hi : i + k ≤ xs.length) (hc : k ≤ c') :
    Vs h (.slice (some ⟨b, o + i * size, none⟩) k c') enc size ((xs.drop i).take k) := by
  have hl : ((xs.drop i).take k).length = k := by rw [List.length_take, List.length_drop]; omega
  rcases s.2 with ⟨h0, _⟩ | ⟨b', o', cap', c, e, f, hv, hcc, hB, hr, hL⟩
  · cases h0
  · cases hv
    have hm : i * size + k * size ≤ xs.length * size := by rw [← Nat.add_mul]; exact Nat.mul_le_mul_right _ hi
    refine ⟨flat_len he _, .inr ⟨b, o + i * size, c', c, e, f, by rw [hl], by rw [hl]; exact hc, hB, by rw [hl]; omega, ?_⟩⟩
    rw [hl, ← flat_take he, ← flat_drop he, ← hL, List.drop_take, List.take_take, List.drop_drop, Nat.min_eq_left (by omega)]
/-- pages of what is mapped in a span. -/
def putT (rs : List Reg) (lo hi m : Nat) : Prop := ∃ y, lo ≤ y ∧ y < hi ∧ y < 274877906944 ∧ (atL rs y).isSome = true ∧ y / 4096 = m
/-- two places of a page are in one region. -/
theorem atL_page {rs : List Reg} (w : wfR rs) {a b : Nat} (h : a / 4096 = b / 4096) : atL rs a = atL rs b := by
  have key : ∀ a b, a / 4096 = b / 4096 → ∀ r, atL rs a = some r → atL rs b = some r := by
    intro a b h r hr
    have hm := atL_mem hr
    have he := w.each r hm.1
    exact atL_uniq w hm.1 (by omega) (by omega)
  cases ha : atL rs a with
  | some r => exact (key a b h r ha).symm
  | none =>
    cases hb : atL rs b with
    | none => rfl
    | some r => rw [key b a h.symm r hb] at ha; cases ha
/-- what Put comes to. -/
structure Putd (h h' : Heap) (s : Nat) (M M' : MemD) (lo hi : Nat) (B : Nat → Nat) : Prop where
  g : Chg h h' s M M' (hi - lo) (putT M.rs lo hi)
  rs : M'.rs = M.rs
  byte : ∀ y, memAt M' y = if lo ≤ y ∧ y < hi ∧ y < 274877906944 ∧ (atL M.rs y).isSome = true then B y else memAt M y
theorem Putd.refl {h h' : Heap} {s : Nat} {M : MemD} (r : MR h s M) (k : Keeps h.size h h') (lo : Nat) (B : Nat → Nat) : Putd h h' s M M lo lo B :=
  ⟨⟨r.ext k, rfl, rfl, rfl, Fx.of k, (Sr.refl M.D).le (by omega) fun m ⟨y, h1, h2, _⟩ => by omega⟩, rfl, fun y => by rw [if_neg (by omega)]⟩
theorem Chg.le {h h' : Heap} {s n k : Nat} {M M' : MemD} {S T : Nat → Prop} (g : Chg h h' s M M' n S) (hn : n ≤ k) (q : ∀ m, T m → S m) : Chg h h' s M M' k T := ⟨g.r, g.most, g.base, g.fin, g.fx, g.sr.le hn q⟩
theorem Chg.trans {h h1 h2 : Heap} {s a b : Nat} {M M1 M2 : MemD} {S T : Nat → Prop} (x : Chg h h1 s M M1 a S) (y : Chg h1 h2 s M1 M2 b T) : Chg h h2 s M M2 (a + b) fun m => S m ∨ T m :=
  ⟨y.r, y.most.trans x.most, y.base.trans x.base, y.fin.trans x.fin, x.fx.trans y.fx, x.sr.trans y.sr⟩
theorem Chg.ext {h h1 h2 : Heap} {s n : Nat} {M M' : MemD} {T : Nat → Prop} (g : Chg h h1 s M M' n T) (k : Keeps h1.size h1 h2) : Chg h h2 s M M' n T :=
  ⟨g.r.ext k, g.most, g.base, g.fin, g.fx.trans (Fx.of k), g.sr⟩
/-- one piece more, of one page. -/
theorem Putd.step {h h1 h2 : Heap} {s : Nat} {M M1 M2 : MemD} {lo mid hi : Nat} {B : Nat → Nat} (a : Putd h h1 s M M1 lo mid B) (hl : lo ≤ mid) (hm : mid ≤ hi) (hp : ∀ y, mid ≤ y → y < hi → y / 4096 = mid / 4096) (hm2 : mid < hi → mid < 274877906944) (w : wfR M.rs)
    (b : ((atL M.rs mid).isSome = true ∧ Chg h1 h2 s M1 M2 (hi - mid) (touched mid hi) ∧ M2.rs = M1.rs ∧ ∀ y, memAt M2 y = if mid ≤ y ∧ y < hi ∧ y < 274877906944 then B y else memAt M1 y) ∨ (atL M.rs mid = none ∧ Keeps h1.size h1 h2 ∧ M2 = M1)) :
    Putd h h2 s M M2 lo hi B := by
  rcases b with ⟨b1, b2, b3, b4⟩ | ⟨b1, b2, rfl⟩
  · refine ⟨(a.g.trans b2).le (by omega) fun m ⟨y, q1, q2, q3, q4, q5⟩ => ?_, b3.trans a.rs, fun y => ?_⟩
    · rcases Nat.lt_or_ge y mid with z | z
      · exact .inl ⟨y, q1, z, q3, q4, q5⟩
      · exact .inr ⟨y, z, q2, q3, q5⟩
    · rw [b4, a.byte]
      by_cases z : mid ≤ y ∧ y < hi ∧ y < 274877906944
      · have e : atL M.rs y = atL M.rs mid := atL_page w (hp y z.1 z.2.1)
        rw [if_pos z, if_pos ⟨by omega, z.2.1, z.2.2, by rw [e]; exact b1⟩]
      · rw [if_neg z]
        by_cases z2 : lo ≤ y ∧ y < mid ∧ y < 274877906944 ∧ (atL M.rs y).isSome = true
        · rw [if_pos z2, if_pos ⟨z2.1, by omega, z2.2.2⟩]
        · rw [if_neg z2, if_neg fun q => z2 ⟨q.1, by omega, q.2.2⟩]
  · have no : ∀ y, mid ≤ y → y < hi → (atL M.rs y).isSome ≠ true := by
      intro y h1 h2 h3
      rw [atL_page w (hp y h1 h2), b1] at h3; cases h3
    refine ⟨(a.g.ext b2).le (by omega) fun m ⟨y, q1, q2, q3, q4, q5⟩ => ?_, a.rs, fun y => ?_⟩
    · rcases Nat.lt_or_ge y mid with z | z
      · exact ⟨y, q1, z, q3, q4, q5⟩
      · exact (no y z q2 q4).elim
    · rw [a.byte]
      by_cases z2 : lo ≤ y ∧ y < mid ∧ y < 274877906944 ∧ (atL M.rs y).isSome = true
      · rw [if_pos z2, if_pos ⟨z2.1, by omega, z2.2.2⟩]
      · rw [if_neg z2, if_neg fun q => ?_]
        rcases Nat.lt_or_ge y mid with z | z
        · exact z2 ⟨q.1, z, q.2.2⟩
        · exact no y z q.2.1 q.2.2.2
theorem Putd.far {h h' : Heap} {s : Nat} {M M' : MemD} {lo mid hi : Nat} {B : Nat → Nat} (a : Putd h h' s M M' lo mid B) (hm : mid ≤ hi) (hf : mid < hi → 274877906944 ≤ mid) : Putd h h' s M M' lo hi B := by
  refine ⟨a.g.le (by omega) fun m ⟨y, q1, q2, q3, q4, q5⟩ => ⟨y, q1, by omega, q3, q4, q5⟩, a.rs, fun y => ?_⟩
  rw [a.byte]
  by_cases z2 : lo ≤ y ∧ y < mid ∧ y < 274877906944 ∧ (atL M.rs y).isSome = true
  · rw [if_pos z2, if_pos ⟨z2.1, by omega, z2.2.2⟩]
  · rw [if_neg z2, if_neg fun q => z2 ⟨q.1, by omega, q.2.2⟩]
theorem mput_c {h : Heap} {s : Nat} {M : MemD} {v : Value} {bs : List Nat} (a : Nat) (r : MR h s M) (ha : a < 18446744073709551616) (hn : bs.length < 9223372036854775808) (hv : Vs h v encB 1 bs) (hd : ∀ b, blk v = some b → ¬ mfoot s M b) (hlt : ∀ x ∈ bs, x < 256) :
    Fn Tryz.prog 14 [ptr s 0, .int .u64 a, v] h fun x h' => ∃ M', Putd h h' s M M' a (a + bs.length) (fun y => bs.getD (y - a) 0) := by
  refine Fn_c Tryz.func14 mixed c14 (by kernel_rfl) ?_; rw [r14]
  refine gs0 ?_; (try with_reducible exact trivial)
  obtain ⟨I, hI⟩ : ∃ I : Nat → Fr → Heap → Prop, I = fun k fr hh => ∃ (c : Nat) (w : Value) (M1 : MemD), c + k = bs.length ∧ (a + c < 18446744073709551616) ∧ Vs hh w encB 1 (bs.drop c) ∧ (∀ b, blk w = some b → b < h.size ∧ ¬ mfoot s M b) ∧ Putd h hh s M M1 a (a + c) (fun y => bs.getD (y - a) 0) ∧
      fr = (((fr0.up 2 w).up 1 (.int .u64 ((a + c : Nat) : Int))).up 0 (ptr s 0)) := ⟨_, rfl⟩
  refine LoopK.use I bs.length (by rw [hI]; exact ⟨0, v, M, by omega, by omega, hv, fun b hb => ⟨hv.blk_lt hb, hd b hb⟩, Putd.refl r Keeps.refl' _ _, rfl⟩) ?_
  intro k fr hh hK
  rw [hI] at hK
  obtain ⟨c, w, M1, hk, hac, hw, hb, P, hf⟩ := hK
  subst hf
  obtain ⟨a0, cap0, e1, hcap⟩ := hw.shape
  have hl : (bs.drop c).length = bs.length - c := List.length_drop
  rw [hl] at e1 hcap
  by_cases hc : c < bs.length ∧ a + c < 274877906944
  · obtain ⟨hc, hat⟩ := hc
    obtain ⟨vb, vo, cap', e2, hcap', hvb⟩ := hw.open (i := 0) (by omega)
    rw [e1, hl] at e2
    simp only [Value.slice.injEq, true_and] at e2
    obtain ⟨e3, e4⟩ := e2
    subst e4
    subst e3
    subst e1
    have hdn : decide ((0 : Int) < ((bs.length - c : Nat) : Int)) = true := decide_eq_true (by omega)
    have hda : decide (((a + c : Nat) : Int) < 274877906944) = true := decide_eq_true (by omega)
    obtain ⟨sz, hsz⟩ : ∃ sz, sz = min (bs.length - c) (4096 - (a + c) % 4096) := ⟨_, rfl⟩
    have hmn : (if (4096 : Int) - ((a + c : Nat) : Int) % 4096 < ((bs.length - c : Nat) : Int) then (4096 : Int) - ((a + c : Nat) : Int) % 4096 else ((bs.length - c : Nat) : Int)) = sz := by rw [hsz]; split <;> omega
    have R1 := P.g.r
    have ht1 := R1.top
    refine gs4 @hdn @hda @hmn @ht1 ?_; (try with_reducible exact trivial)
    have hlen := R1.len
    refine FnK.use (at_c (a + c) R1.lr (by omega)) ?_
    intro x h2 ⟨e1, K1⟩
    rw [e1, P.rs]
    have hdrop : (bs.drop c).drop sz = bs.drop (c + sz) := by rw [List.drop_drop]
    have fin : ∀ (h3 : Heap) (M3 : MemD), Putd h h3 s M M3 a (a + (c + sz)) (fun y => bs.getD (y - a) 0) → ∃ k' : Nat, k' < k ∧ I k' (((fr0.up 2 (.slice (if cap0 = sz then some ⟨vb, vo, none⟩ else some ⟨vb, vo + sz * 1, none⟩) (bs.length - c - sz) (cap0 - sz))).up 1 (.int .u64 (((a + c : Nat) : Int) + sz))).up 0 (ptr s 0)) h3 := by
      intro h3 M3 P3
      have hw3 : Vs h3 (.slice (some ⟨vb, vo, none⟩) (bs.length - c) cap0) encB 1 (bs.drop c) := hw.mono fun b q => by
        have := hb b q
        rw [P3.g.fx.old b this.1 this.2, P.g.fx.old b this.1 this.2]
      have hw4 := Vs_sub encB_len hw3 (i := sz) (k := bs.length - c - sz) (c' := cap0 - sz) (by rw [hl]; omega) (by omega)
      rw [hdrop, List.take_of_length_le (by rw [List.length_drop]; omega)] at hw4
      refine ⟨k - sz, by omega, ?_⟩
      rw [hI]
      refine ⟨c + sz, (.slice (if cap0 = sz then some ⟨vb, vo, none⟩ else some ⟨vb, vo + sz * 1, none⟩) (bs.length - c - sz) (cap0 - sz)), M3, by omega, by omega, ?_, ?_, P3, ?_⟩
      · by_cases q : cap0 = sz
        · rw [if_pos q]
          have e5 : bs.drop (c + sz) = [] := List.drop_eq_nil_of_le (by omega)
          rw [e5] at hw4 ⊢
          rcases hw4.2 with ⟨h0, _⟩ | ⟨b', o', c', cs, e, f, e6, _, hB, hr, _⟩
          · cases h0
          · simp only [Value.slice.injEq, Option.some.injEq, Addr.mk.injEq] at e6
            obtain ⟨⟨e7, _⟩, _⟩ := e6
            subst e7
            refine ⟨rfl, .inr ⟨vb, vo, _, cs, e, f, by rw [show bs.length - c - sz = 0 by omega]; rfl, by simp, hB, by simp; omega, by simp [flat]⟩⟩
        · rw [if_neg q]; exact hw4
      · intro b q
        refine hb b ?_
        by_cases z : cap0 = sz
        · rw [if_pos z] at q; exact q
        · rw [if_neg z] at q; exact q
      · rw [show ((a + (c + sz) : Nat) : Int) = (a + c : Nat) + (sz : Int) by omega]
    cases hat2 : atL M.rs (a + c) with
    | none =>
      simp only [atV]
      refine gs0 ?_; (try with_reducible exact trivial)
      have P3 := P.step (h2 := h2.push (.cells #[.int .u64 0, .int .u64 0, .int .i64 0] 96)) (M2 := M1) (hi := a + (c + sz)) (by omega) (by omega) (fun y h1 h2 => by omega) (fun _ => hat) r.wf (.inr ⟨hat2, K1.push' (Nat.le_refl _), rfl⟩)
      exact fin _ _ P3
    | some q =>
      simp only [atV]
      have ht2 := (R1.ext K1).top
      have hs2 := getElem?_lt ht2
      refine gs1 @ht2 ?_; (try with_reducible exact trivial)
      have K2 : Keeps hh.size hh (h2.push (.cells #[.int .u64 q.s, .int .u64 q.e, .int .i64 q.p] 96)) := K1.push' (Nat.le_refl _)
      have R2 := R1.ext K2
      have hwc : Vs (h2.push (.cells #[.int .u64 q.s, .int .u64 q.e, .int .i64 q.p] 96)) (.slice (some ⟨vb, vo, none⟩) sz cap0) encB 1 ((bs.drop c).take sz) := by
        have := Vs_sub encB_len (hw.ext K2) (i := 0) (k := sz) (c' := cap0) (by rw [hl]; omega) (by omega)
        simpa using this
      have hckl : ((bs.drop c).take sz).length = sz := by rw [List.length_take, List.length_drop]; omega
      have hfoot : ∀ b, mfoot s M1 b → mfoot s M b ∨ h.size ≤ b := P.g.fx.ft
      refine FnK.use (write_c (a + c) R2.sr (by omega) (by rw [hckl]; omega) hwc (fun b hq hf => ?_) fun x hx => hlt x (List.mem_of_mem_drop (List.mem_of_mem_take hx))) ?_
      · have := hb b hq
        rcases hfoot b (.inr (.inr (.inr hf))) with z | z
        · exact this.2 z
        · omega
      · intro x h3 ⟨D', W⟩
        rw [hckl] at W
        refine gs0 ?_; (try with_reducible exact trivial)
        have G := (Wr.chg R2 W).widen K2
        have P3 := P.step (h2 := h3) (M2 := { M1 with D := D' }) (hi := a + (c + sz)) (by omega) (by omega) (fun y h1 h2 => by omega) (fun _ => hat) r.wf (.inl ⟨by rw [hat2]; rfl, ⟨G.r, G.most, G.base, G.fin, G.fx, G.sr.le (by omega) (fun m t => by rw [show a + c + sz = a + (c + sz) by omega]; exact t)⟩, rfl, fun y => ?_⟩)
        · exact fin _ _ P3
        · show byteAt D'.es y = _
          rw [W.byte]
          by_cases z : a + c ≤ y ∧ y < a + (c + sz) ∧ y < 274877906944
          · rw [if_pos z, if_pos ⟨z.1, by omega, z.2.2⟩]
            simp only [List.getD_eq_getElem?_getD, List.getElem?_take, List.getElem?_drop]
            rw [if_pos (by omega), show c + (y - (a + c)) = y - a by omega]
          · rw [if_neg z, if_neg fun q => z ⟨q.1, by omega, q.2.2⟩]; rfl
  · have P3 := P.far (hi := a + bs.length) (by omega) (by omega)
    by_cases q : c < bs.length
    · have hdn : decide ((0 : Int) < ((bs.length - c : Nat) : Int)) = true := decide_eq_true (by omega)
      have hda : decide (((a + c : Nat) : Int) < 274877906944) = false := decide_eq_false (by omega)
      subst e1
      refine gs2 @hdn @hda ?_; (try with_reducible exact trivial)
      exact ⟨M1, P3⟩
    · have hdn : decide ((0 : Int) < ((bs.length - c : Nat) : Int)) = false := decide_eq_false (by omega)
      subst e1
      refine gs1 @hdn ?_; (try with_reducible exact trivial)
      exact ⟨M1, P3⟩
end Go.SX.G
namespace Go.SX.G
open Go Go.SX Go.Proofs
set_option maxRecDepth 100000
set_option maxHeartbeats 2000000
/-- a store where all may be written. -/
theorem mstore_ok {h : Heap} {s : Nat} {M : MemD} (a n v : Nat) (r : MR h s M) (ha : a < 18446744073709551616) (hv : v < 18446744073709551616) (hn : goodN n = true) (ok : ∀ i, i < n → okAt M.rs 2 (adr a i)) :
    Fn Tryz.prog 17 [ptr s 0, .int .u64 a, .int .i64 n, .int .u64 v] h fun x h' => x = fltA 0 0 ∧ ∃ M', Chg h h' s M M' n (touched a (a + n)) ∧ M'.rs = M.rs ∧ ∀ y, memAt M' y = if a ≤ y ∧ y < a + n then v / 256 ^ (y - a) % 256 else memAt M y := by
  refine (mstore_c a n v r ha hv).mono ?_
  intro x h' hx
  cases hx with
  | no p k ne =>
    exfalso
    cases p with
    | bad c => rw [hn] at c; cases c
    | flt c b f ex => cases f with | some i hi h1 h2 => exact h1 (ok i hi)
    | ok c f ex => obtain ⟨b, ne⟩ := ne; rw [ex] at ne; simp [fltA] at ne
  | ok c f ex M' g rs byte => exact ⟨ex, M', g, rs, byte⟩
end Go.SX.G
