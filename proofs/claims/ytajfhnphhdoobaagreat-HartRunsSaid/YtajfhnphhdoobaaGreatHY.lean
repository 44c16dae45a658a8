/- The step as a function: what a stop leaves, what stays in range. No program's code here. One step as one function; the cache stays true. No condition but on ranges. The step as a function: registers stay words. No program's code here. -/
import Derived.Test.YtajfhnphhdoobaaGreatHA
import Derived.Test.YtajfhnphhdoobaaGreatHX
set_option linter.unusedVariables false
set_option linter.unusedSimpArgs false
namespace Go.SX
def HS.free (t : HS) : HS := { t with ha := 0, hn := 0 }
end Go.SX
namespace Go.SX.G
open Go Go.SX Go.Proofs
set_option maxRecDepth 100000
set_option maxHeartbeats 1000000
theorem stepC_sk (n : Nat) (o1 : Option Nat) (ha hn ha' hn' a x : Nat) : (stepC n o1 ha hn a x).sk = (stepC n o1 ha' hn' a x).sk ∧ (stepC n o1 ha hn a x).fk = (stepC n o1 ha' hn' a x).fk ∧ (stepC n o1 ha hn a x).fa = (stepC n o1 ha' hn' a x).fa := by
  unfold stepC
  cases o1 with
  | some b => exact ⟨rfl, rfl, rfl⟩
  | none => simp only []; split <;> split <;> exact ⟨rfl, rfl, rfl⟩
theorem stepR_sk (n : Nat) (op : Int) (o1 o2 : Option Nat) (ha hn ha' hn' a x sx nx : Nat) : (stepR n op o1 o2 ha hn a x sx nx).sk = (stepR n op o1 o2 ha' hn' a x sx nx).sk ∧ (stepR n op o1 o2 ha hn a x sx nx).fk = (stepR n op o1 o2 ha' hn' a x sx nx).fk ∧ (stepR n op o1 o2 ha hn a x sx nx).fa = (stepR n op o1 o2 ha' hn' a x sx nx).fa := by
  unfold stepR
  split
  · exact ⟨rfl, rfl, rfl⟩
  · split
    · exact ⟨rfl, rfl, rfl⟩
    · split
      · exact stepC_sk _ _ _ _ _ _ _ _
      · cases o2 with
        | some b => exact ⟨rfl, rfl, rfl⟩
        | none =>
          simp only []
          split
          · exact ⟨rfl, rfl, rfl⟩
          · cases o1 <;> exact ⟨rfl, rfl, rfl⟩
theorem stepR_st (n : Nat) (op : Int) (o1 o2 : Option Nat) (ha hn a x sx nx : Nat) (h : (stepR n op o1 o2 ha hn a x sx nx).sk ≠ 0) : (stepR n op o1 o2 ha hn a x sx nx).st = none := by
  unfold stepR at *
  split
  · rfl
  · rename_i q0
    rw [if_neg q0] at h
    split
    · rfl
    · rename_i q1
      rw [if_neg q1] at h
      split
      · rename_i q2
        rw [if_pos q2] at h
        unfold stepC at *
        cases o1 with
        | some b => rfl
        | none =>
          simp only [] at *
          split
          · rename_i q3; rw [if_pos q3] at h; exact absurd rfl h
          · rfl
      · rename_i q2
        rw [if_neg q2] at h
        cases o2 with
        | some b => rfl
        | none =>
          simp only [] at *
          split
          · rfl
          · rename_i q3
            rw [if_neg q3] at h
            cases o1 with
            | some b => rfl
            | none => exact absurd rfl h
theorem moveF_stop (rs : List Reg) (B : Nat → Nat) (t : HS) (i : InstR) (n : Nat) (sg : Bool) : (moveF rs B t.free i n sg).st = (moveF rs B t i n sg).st ∧ ((moveF rs B t i n sg).st.kind ≠ 0 → (moveF rs B t i n sg).B = B) := by
  unfold moveF
  have e : ∀ r, t.free.get r = t.get r := fun r => rfl
  simp only [e]
  split
  · cases firstF rs (w64 (t.get i.rs1 + w64 i.imm)).toNat n 2 with
    | some b => exact ⟨rfl, fun _ => rfl⟩
    | none => exact ⟨rfl, fun h => absurd rfl h⟩
  · cases firstF rs (w64 (t.get i.rs1 + w64 i.imm)).toNat n 1 with
    | some b => exact ⟨rfl, fun _ => rfl⟩
    | none => exact ⟨rfl, fun h => absurd rfl h⟩
theorem otherF_stop (rs : List Reg) (B : Nat → Nat) (t : HS) (i : InstR) : (otherF rs B t.free i).st = (otherF rs B t i).st ∧ ((otherF rs B t i).st.kind ≠ 0 → (otherF rs B t i).B = B) := by
  unfold otherF
  have e : ∀ r, t.free.get r = t.get r := fun r => rfl
  have e2 : secondF t.free i = secondF t i := rfl
  simp only [e, e2]
  split
  · exact ⟨rfl, fun _ => rfl⟩
  · split
    · exact ⟨rfl, fun _ => rfl⟩
    · split
      · exact ⟨rfl, fun h => absurd rfl h⟩
      · split
        · exact ⟨rfl, fun h => absurd rfl h⟩
        · split
          · exact ⟨rfl, fun h => absurd rfl h⟩
          · cases aluE i.op (t.get i.rs1) (secondF t i) with
            | some x => exact ⟨rfl, fun h => absurd rfl h⟩
            | none =>
              obtain ⟨h1, h2, h3⟩ := stepR_sk (widthI i.op).toNat i.op (firstF rs (t.get i.rs1).toNat (widthI i.op).toNat 2) (firstF rs (t.get i.rs1).toNat (widthI i.op).toNat 1) (0 : Int).toNat (0 : Int).toNat t.ha.toNat t.hn.toNat (t.get i.rs1).toNat (t.get i.rs2).toNat (sxN (le ((List.range (widthI i.op).toNat).map fun k => B ((t.get i.rs1).toNat + k))) (widthI i.op).toNat) (nxN (amoF i.op (le ((List.range (widthI i.op).toNat).map fun k => B ((t.get i.rs1).toNat + k))) (t.get i.rs2).toNat))
              refine ⟨?_, fun h => ?_⟩
              · show (⟨((atomF rs B t.free i).sk : Int), ((atomF rs B t.free i).fk : Int), (atomF rs B t.free i).fa⟩ : StopR) = ⟨((atomF rs B t i).sk : Int), ((atomF rs B t i).fk : Int), (atomF rs B t i).fa⟩
                have a1 : (atomF rs B t.free i).sk = (atomF rs B t i).sk := h1
                have a2 : (atomF rs B t.free i).fk = (atomF rs B t i).fk := h2
                have a3 : (atomF rs B t.free i).fa = (atomF rs B t i).fa := h3
                rw [a1, a2, a3]
              · have hs : (atomF rs B t i).sk ≠ 0 := fun e => h (by show ((atomF rs B t i).sk : Int) = 0; rw [e]; rfl)
                have : (atomF rs B t i).st = none := stepR_st _ _ _ _ _ _ _ _ _ _ hs
                show putB (atomF rs B t i).st _ _ B = B
                rw [this]; rfl
theorem jumpF_free (t : HS) (i : InstR) : (jumpF t.free i).ok = (jumpF t i).ok ∧ (jumpF t.free i).t = (jumpF t i).t.free := by
  unfold jumpF
  have e : ∀ r, t.free.get r = t.get r := fun r => rfl
  simp only [e]
  split
  · exact ⟨rfl, rfl⟩
  · split
    · exact ⟨rfl, rfl⟩
    · split
      · exact ⟨rfl, rfl⟩
      · exact ⟨rfl, rfl⟩
theorem doF_stop (rs : List Reg) (B : Nat → Nat) (t : HS) (i : InstR) (h : (doF rs B t i).st.kind ≠ 0) : (doF rs B t.free i).st = (doF rs B t i).st ∧ (doF rs B t i).B = B := by
  obtain ⟨j1, j2⟩ := jumpF_free t i
  unfold doF at *
  simp only [j1, j2] at *
  by_cases q : (jumpF t i).ok = true
  · simp only [if_pos q] at h; exact absurd rfl h
  · simp only [if_neg q] at *
    by_cases qa : 0 < (accE i.op).1
    · simp only [if_pos qa] at *
      obtain ⟨m1, m2⟩ := moveF_stop rs B (jumpF t i).t i (accE i.op).1.toNat (accE i.op).2
      rw [m1]
      by_cases qk : (moveF rs B (jumpF t i).t i (accE i.op).1.toNat (accE i.op).2).st.kind = 0
      · simp only [if_pos qk] at h; exact absurd rfl h
      · simp only [if_neg qk]
        exact ⟨m1, m2 qk⟩
    · simp only [if_neg qa] at *
      obtain ⟨m1, m2⟩ := otherF_stop rs B (jumpF t i).t i
      rw [m1]
      by_cases qk : (otherF rs B (jumpF t i).t i).st.kind = 0
      · simp only [if_pos qk] at h; exact absurd rfl h
      · simp only [if_neg qk]
        exact ⟨m1, m2 qk⟩
end Go.SX.G
namespace Go.SX.G
open Go Go.SX Go.Proofs
set_option maxRecDepth 100000
set_option maxHeartbeats 4000000
theorem readF_iok {rs : List Reg} {B : Nat → Nat} (a : Nat) (hB : ∀ x, B x < 256) : (readF rs B a).1.ok := by
  unfold readF
  split
  · exact zI_ok
  · rename_i w hw
    split
    · exact zI_ok
    · have := fetchF_lt hB hw
      exact decodeL_ok (by unfold rngI; omega)
theorem step_g {h : Heap} {hb s c m : Nat} {M : MemD} (t : HS) (H : h[hb]? = some (.cells (fnL 37 (hg t s c)).toArray 120 (0, 0))) (tok : t.ok) (r : MR h s M) (k : Ca h s c m M) (nc : ¬ mfoot s M c) (nm : ¬ mfoot s M m) (nh : ¬ mfoot s M hb) (hc : hb ≠ c) (hm : hb ≠ m) :
    Fn Tryz.prog 31 [ptr hb 0] h fun x h' => x = (stepF M.rs (memAt M) t).st.v ∧ h'[hb]? = some (.cells (fnL 37 (hg (stepF M.rs (memAt M) t).t s c)).toArray 120 (0, 0)) ∧ h.size ≤ h'.size ∧ (∃ M', Gone h h' s M M' (stepF M.rs (memAt M) t).B ∧ Ca h' s c m M) ∧ ∀ b, b < h.size → b ≠ hb → b ≠ c → b ≠ m → ¬ mfoot s M b → h'[b]? = h[b]? := by
  have iok := readF_iok (rs := M.rs) (B := memAt M) t.pc.toNat (fun x => byteAt_lt r.sr x)
  obtain ⟨R1, R2, hRR⟩ : ∃ R1 R2, readF M.rs (memAt M) t.pc.toNat = (R1, R2) := ⟨_, _, rfl⟩
  rw [hRR] at iok
  by_cases q : R2.kind = 0
  · by_cases q2 : (doF M.rs (memAt M) t R1).st.kind = 0
    · refine step_o t H tok r k nc nm nh hc hm R1 R2 hRR (eq_true q) iok _ rfl (eq_true q2) _ ?_
      unfold stepF
      simp only [hRR, if_pos q, if_pos q2]
    · have hB := (doF_stop M.rs (memAt M) t R1 q2).2
      refine step_d t H tok r k nc nm nh hc hm R1 R2 hRR (eq_true q) iok _ rfl (eq_false q2) _ ?_
      unfold stepF
      simp only [hRR, if_pos q, if_neg q2, hB]
  · refine step_f t H tok r k nc nm nh hc hm R1 R2 hRR (eq_false q) _ ?_
    unfold stepF
    simp only [hRR, if_neg q]
theorem fetchF_local {rs : List Reg} {B B' : Nat → Nat} {a w : Nat} (h : fetchF rs B a = (w, none)) (e0 : B' a = B a) (e1 : B' (a + 1) = B (a + 1)) (e2 : w % 4 = 3 → B' (a + 2) = B (a + 2) ∧ B' (a + 3) = B (a + 3)) : fetchF rs B' a = (w, none) := by
  unfold fetchF at *
  rw [e0, e1]
  split
  · rename_i q; rw [if_pos q] at h; simp at h
  · rename_i q
    rw [if_neg q] at h
    cases F : firstF rs a 2 4 with
    | some b => rw [F] at h; simp at h
    | none =>
      rw [F] at h
      simp only [] at h ⊢
      split
      · rename_i q3; rw [if_pos q3] at h; exact h
      · rename_i q3
        rw [if_neg q3] at h
        cases F2 : firstF rs (adr a 2) 2 4 with
        | some b => rw [F2] at h; simp at h
        | none =>
          rw [F2] at h
          simp only [Prod.mk.injEq, and_true] at h ⊢
          obtain ⟨x1, x2⟩ := e2 (by omega)
          rw [x1, x2]; exact h
theorem and3_u16 (n : Nat) : bitI .and .u16 (IntKind.u16.wrap (n : Int)) 3 = ((n % 4 : Nat) : Int) := by
  have e1 : IntKind.u16.wrap (n : Int) = ((n % 65536 : Nat) : Int) := by
    have : ∀ x : Int, IntKind.u16.wrap x = x % 65536 := fun x => by simp [IntKind.wrap, IntKind.signed, IntKind.bits]
    rw [this]; omega
  rw [e1]
  show IntKind.u16.wrap ((BitVec.ofInt 16 ((n % 65536 : Nat) : Int) &&& BitVec.ofInt 16 3).toNat : Int) = _
  have e3 : (BitVec.ofInt 16 3).toNat = 2 ^ 2 - 1 := rfl
  have e4 : (BitVec.ofInt 16 ((n % 65536 : Nat) : Int)).toNat = n % 65536 := by rw [BitVec.toNat_ofInt]; simp; omega
  rw [BitVec.toNat_and, e4, e3, Nat.and_two_pow_sub_one_eq_mod]
  have : ∀ x : Int, IntKind.u16.wrap x = x % 65536 := fun x => by simp [IntKind.wrap, IntKind.signed, IntKind.bits]
  rw [this]; omega
theorem readF_local {rs : List Reg} {B B' : Nat → Nat} {a : Nat} {i : InstR} (h : readF rs B a = (i, sOk)) (e : ∀ y, a ≤ y → y < a + i.size.toNat → B' y = B y) : readF rs B' a = (i, sOk) := by
  unfold readF at h ⊢
  split at h
  · simp [sOk] at h
  · rename_i w hw
    split at h
    · simp [sOk] at h
    · rename_i q
      have ei : decodeL w = i := (Prod.mk.inj h).1
      subst ei
      have sz : (decodeL w).size = (if w % 4 = 3 then 4 else 2) := by
        unfold decodeL at q ⊢
        rw [and3_u16] at q ⊢
        by_cases q3 : w % 4 = 3
        · rw [if_pos (by omega)] at q ⊢
          rw [if_pos q3]; exact wordL_size _ q
        · rw [if_neg (by omega)] at q ⊢
          rw [if_neg q3]; exact expandL_size _ q
      have h2 : 2 ≤ (decodeL w).size.toNat := by rw [sz]; split <;> decide
      have hw' := fetchF_local (B' := B') hw (e a (by omega) (by omega)) (e (a + 1) (by omega) (by omega)) (fun q3 => by
        have : (decodeL w).size.toNat = 4 := by rw [sz, if_pos q3]; rfl
        exact ⟨e (a + 2) (by omega) (by omega), e (a + 3) (by omega) (by omega)⟩)
      rw [hw']
      simp only [if_neg q]
/-- an entry stays true while the space goes on. -/
theorem CE.gone {h h' : Heap} {s : Nat} {M M' : MemD} {B' : Nat → Nat} {e : CE} (k : e.ok M) (g : Gone h h' s M M' B') (hc : M.D.clock + 8 < 18446744073709551616) (iv : SInv M.D) : e.ok M' := by
  obtain ⟨T, sr, ch⟩ := g.sr
  obtain ⟨i1, c1, c2, st⟩ := sr hc iv
  refine ⟨k.pc, k.sz, Nat.le_trans k.f (st _).1, Nat.le_trans k.l (st _).1, fun q1 q2 => ?_⟩
  have f0 := k.f
  have l0 := k.l
  have f1 := st (e.pc / 4096)
  have l1 := st (lastP e.pc e.i.size)
  have nf : ¬ T (e.pc / 4096) := fun z => by have := f1.2 z; omega
  have nl : ¬ T (lastP e.pc e.i.size) := fun z => by have := l1.2 z; omega
  have now := k.now (by omega) (by omega)
  rw [g.rs]
  refine readF_local now fun y y1 y2 => ?_
  by_cases z : memAt M' y = memAt M y
  · exact z
  · exfalso
    have tz := ch y z
    have : y / 4096 = e.pc / 4096 ∨ y / 4096 = lastP e.pc e.i.size := by
      unfold lastP
      rcases k.sz with e4 | e4 <;> rw [e4] at y2 ⊢
      · have y2' : y < e.pc + 2 := y2
        show _ ∨ y / 4096 = (e.pc + 2 - 1) / 4096
        omega
      · have y2' : y < e.pc + 4 := y2
        show _ ∨ y / 4096 = (e.pc + 4 - 1) / 4096
        omega
    rcases this with w | w
    · exact nf (w ▸ tz)
    · exact nl (w ▸ tz)
theorem Ca.gone {h h' h2 : Heap} {s c m : Nat} {M M' : MemD} {B' : Nat → Nat} (k : Ca h2 s c m M) (g : Gone h h' s M M' B') (hc : M.D.clock + 8 < 18446744073709551616) (iv : SInv M.D) : Ca h2 s c m M' := by
  rcases k with ⟨mv, pv, e, q⟩ | ⟨n, sp, es, C, hsp, o1⟩
  · exact .inl ⟨mv, pv, e, q⟩
  · exact .inr ⟨n, sp, es, C, hsp, fun q e he => CE.gone (o1 q e he) g hc iv⟩
end Go.SX.G
namespace Go.SX.G
open Go Go.SX Go.Proofs
set_option maxRecDepth 100000
set_option maxHeartbeats 1000000
theorem wrap_R (x : Int) : u64R (IntKind.u64.wrap x) := w64_R x
theorem and_R (a b : Int) : u64R (bitI .and .u64 a b) := wrap_R _
theorem or_R (a b : Int) : u64R (bitI .or .u64 a b) := wrap_R _
theorem xor_R (a b : Int) : u64R (bitI .xor .u64 a b) := wrap_R _
theorem andNot_R (a b : Int) : u64R (bitI .andNot .u64 a b) := wrap_R _
theorem shl_R (a b : Int) : u64R (shlI .u64 a b) := wrap_R _
theorem shr_R {a : Int} (h : u64R a) (b : Int) : u64R (shrI .u64 a b) := by
  unfold u64R at *
  simp only [shrI]
  rw [Int.fdiv_eq_ediv_of_nonneg _ (Int.pow_nonneg (by decide))]
  have h1 : (1 : Int) ≤ 2 ^ (min b.toNat IntKind.u64.bits) := Int.le_of_lt_add_one (by have : (0 : Int) < 2 ^ (min b.toNat IntKind.u64.bits) := Int.pow_pos (by decide); omega)
  refine ⟨Int.ediv_nonneg h.1 (by omega), Int.lt_of_le_of_lt (Int.ediv_le_self _ h.1) h.2⟩
theorem truth_R (b : Bool) : u64R (truthE b) := by
  unfold truthE u64R; split <;> omega
theorem mulhu_R (a b : Int) : u64R (mulhuE a b) := wrap_R _
theorem mulhsu_R (a b : Int) : u64R (mulhsuE a b) := by
  unfold mulhsuE; split
  · exact wrap_R _
  · exact mulhu_R _ _
theorem mulh_R (a b : Int) : u64R (mulhE a b) := by
  unfold mulhE; split
  · exact wrap_R _
  · exact mulhsu_R _ _
theorem max_R : u64R 18446744073709551615 := by unfold u64R; omega
theorem zero_R : u64R 0 := by unfold u64R; omega
theorem divu_R (a b : Int) : u64R (divuE a b) := by
  unfold divuE; split
  · exact max_R
  · exact wrap_R _
theorem remu_R {a b : Int} (h : u64R a) (hb : u64R b) : u64R (remuE a b) := by
  unfold remuE; split
  · exact h
  · unfold u64R at *
    rw [Int.tmod_eq_emod_of_nonneg h.1]
    have := Int.emod_nonneg a (b := b) (by omega)
    have := Int.emod_lt_of_pos a (b := b) (by omega)
    omega
theorem div_R {a : Int} (h : u64R a) (b : Int) : u64R (divE a b) := by
  unfold divE
  split
  · exact max_R
  · split
    · split
      · exact h
      · exact wrap_R _
    · exact wrap_R _
theorem rem_R {a : Int} (h : u64R a) (b : Int) : u64R (remE a b) := by
  unfold remE
  split
  · exact h
  · split
    · split
      · exact zero_R
      · exact wrap_R _
    · exact wrap_R _
theorem some_R {c : Prop} [Decidable c] {x v : Int} {r : Option Int} (h : (if c then some x else r) = some v) (hx : u64R x) (hr : r = some v → u64R v) : u64R v := by
  split at h
  · cases h; exact hx
  · exact hr h
theorem aluE_R {op a b v : Int} (ha : u64R a) (hb : u64R b) (h : aluE op a b = some v) : u64R v := by
  have p1 : ∀ v, plainE op a b = some v → u64R v := fun v h => by
    unfold plainE at h
    repeat (refine some_R h ?_ (fun h2 => ?_); (with_reducible first | exact hb | exact wrap_R _ | exact xor_R _ _ | exact or_R _ _ | exact and_R _ _ | exact truth_R _); clear h; have h := h2; clear h2)
    cases h
  have p2 : ∀ v, shiftsE op a b = some v → u64R v := fun v h => by
    unfold shiftsE at h
    repeat (refine some_R h ?_ (fun h2 => ?_); (with_reducible first | exact shl_R _ _ | exact shr_R ha _ | exact wrap_R _); clear h; have h := h2; clear h2)
    cases h
  have p3 : ∀ v, halvesE op a b = some v → u64R v := fun v h => by
    unfold halvesE at h
    repeat (refine some_R h ?_ (fun h2 => ?_); (with_reducible exact sext_u64 _ _); clear h; have h := h2; clear h2)
    cases h
  have p4 : ∀ v, productsE op a b = some v → u64R v := fun v h => by
    unfold productsE at h
    repeat (refine some_R h ?_ (fun h2 => ?_); (with_reducible first | exact wrap_R _ | exact mulh_R _ _ | exact mulhsu_R _ _ | exact mulhu_R _ _ | exact div_R ha _ | exact divu_R _ _ | exact rem_R ha _ | exact remu_R ha hb); clear h; have h := h2; clear h2)
    cases h
  have p5 : ∀ v, quotientsE op a b = some v → u64R v := fun v h => by
    unfold quotientsE at h
    repeat (refine some_R h ?_ (fun h2 => ?_); (with_reducible exact sext_u64 _ _); clear h; have h := h2; clear h2)
    cases h
  unfold aluE at h
  cases e1 : plainE op a b with
  | some x => rw [e1] at h; cases h; exact p1 _ e1
  | none =>
    rw [e1] at h
    cases e2 : shiftsE op a b with
    | some x => rw [e2] at h; cases h; exact p2 _ e2
    | none =>
      rw [e2] at h
      cases e3 : halvesE op a b with
      | some x => rw [e3] at h; cases h; exact p3 _ e3
      | none =>
        rw [e3] at h
        cases e4 : productsE op a b with
        | some x => rw [e4] at h; cases h; exact p4 _ e4
        | none => rw [e4] at h; exact p5 _ h
theorem nat_R {n : Nat} (h : n < 18446744073709551616) : u64R (n : Int) := by unfold u64R; omega
theorem stepC_R {n : Nat} {o1 : Option Nat} {ha hn a x : Nat} : (stepC n o1 ha hn a x).res < 18446744073709551616 ∧ (stepC n o1 ha hn a x).ha < 18446744073709551616 := by
  unfold stepC
  cases o1 with
  | some b => exact ⟨by show (0 : Nat) < _; omega, by show (0 : Nat) < _; omega⟩
  | none =>
    simp only []
    split
    · exact ⟨by show (0 : Nat) < _; omega, by show (0 : Nat) < _; omega⟩
    · exact ⟨by show (1 : Nat) < _; omega, by show (0 : Nat) < _; omega⟩
theorem stepR_R {n : Nat} {op : Int} {o1 o2 : Option Nat} {ha hn a x sx nx : Nat} (h1 : ha < 18446744073709551616) (h2 : a < 18446744073709551616) (h3 : sx < 18446744073709551616) : (stepR n op o1 o2 ha hn a x sx nx).res < 18446744073709551616 ∧ (stepR n op o1 o2 ha hn a x sx nx).ha < 18446744073709551616 := by
  have z : (0 : Nat) < 18446744073709551616 := by omega
  unfold stepR
  split
  · exact ⟨z, z⟩
  · split
    · exact ⟨z, z⟩
    · split
      · exact stepC_R
      · cases o2 with
        | some b => exact ⟨z, z⟩
        | none =>
          simp only []
          split
          · exact ⟨h3, h2⟩
          · cases o1 with
            | some b => exact ⟨z, z⟩
            | none => exact ⟨h3, h1⟩
theorem HS.pc_ok {t : HS} (k : t.ok) {v : Int} (hv : u64R v) : ({ t with pc := v } : HS).ok := ⟨hv, k.x, k.ha, k.hn⟩
theorem moveF_ok {rs : List Reg} {B : Nat → Nat} {t : HS} (k : t.ok) (i : InstR) {n : Nat} (sg : Bool) (hn : n ≤ 8) (hB : ∀ x, B x < 256) : (moveF rs B t i n sg).t.ok := by
  unfold moveF
  simp only []
  split
  · cases firstF rs (w64 (t.get i.rs1 + w64 i.imm)).toNat n 2 <;> exact k
  · cases firstF rs (w64 (t.get i.rs1 + w64 i.imm)).toNat n 1 with
    | some b => exact k
    | none =>
      refine HS.set_ok k _ _ ?_
      split
      · exact sext_u64 _ _
      · have hl : ((List.range n).map fun k => B ((w64 (t.get i.rs1 + w64 i.imm)).toNat + k)).length ≤ 8 := by simp; omega
        refine nat_R (Nat.lt_of_lt_of_le (le_lt _ (fun b hb => ?_)) (Nat.le_trans (Nat.pow_le_pow_right (n := 256) (by omega) hl) (by decide)))
        obtain ⟨j, _, rfl⟩ := List.mem_map.1 hb
        exact hB _
theorem otherF_ok {rs : List Reg} {B : Nat → Nat} {t : HS} (k : t.ok) (i : InstR) : (otherF rs B t i).t.ok := by
  unfold otherF
  split
  · exact k
  · split
    · exact k
    · split
      · exact k
      · split
        · exact k
        · split
          · exact HS.set_ok k _ _ (w64_R _)
          · cases e : aluE i.op (t.get i.rs1) (secondF t i) with
            | some x => exact HS.set_ok k _ _ (aluE_R (k.x _) (secondF_R k i) e)
            | none =>
              have hR : (atomF rs B t i).res < 18446744073709551616 ∧ (atomF rs B t i).ha < 18446744073709551616 := by
                unfold atomF
                refine stepR_R ?_ ?_ ?_
                · have := k.ha; unfold u64R at this; omega
                · have := k.x i.rs1.toNat; unfold u64R at this; unfold HS.get; omega
                · exact (BitVec.isLt _)
              have s := HS.set_ok k i.rd _ (nat_R hR.1)
              exact ⟨s.pc, s.x, nat_R hR.2, Int.natCast_nonneg _⟩
theorem stepF_ok {rs : List Reg} {B : Nat → Nat} {t : HS} (k : t.ok) (hB : ∀ x, B x < 256) : (stepF rs B t).t.ok := by
  have kf : ({ t with ha := 0, hn := 0 } : HS).ok := ⟨k.pc, k.x, zero_R, by show (0 : Int) ≤ 0; omega⟩
  unfold stepF
  simp only []
  split
  · split
    · unfold doF
      simp only []
      have jk := jumpF_ok k (readF rs B t.pc.toNat).1
      split
      · refine HS.set_ok (HS.pc_ok jk ?_) _ _ zero_R
        unfold jumpF
        split
        · exact w64_R _
        · split
          · exact andNot_R _ _
          · split
            · exact w64_R _
            · exact w64_R _
      · split
        · rename_i qa
          obtain ⟨n, hn, hg⟩ := accE_good qa
          obtain ⟨j, ej, _, j8⟩ := goodN_le hg
          have mk := moveF_ok (rs := rs) (B := B) jk (readF rs B t.pc.toNat).1 (n := (accE (readF rs B t.pc.toNat).1.op).1.toNat) (accE (readF rs B t.pc.toNat).1.op).2 (by rw [hn]; show n ≤ 8; omega) hB
          split
          · exact HS.set_ok (HS.pc_ok mk (w64_R _)) _ _ zero_R
          · exact mk
        · have mk := otherF_ok (rs := rs) (B := B) jk (readF rs B t.pc.toNat).1
          split
          · exact HS.set_ok (HS.pc_ok mk (w64_R _)) _ _ zero_R
          · exact mk
    · exact kf
  · exact kf
end Go.SX.G
