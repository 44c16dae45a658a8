/- Fetching: what is at a place, as one function of regions and bytes; cached instructions. No program. -/
import Derived.Test.YtajfhnphhdoobaaDecPlain
import Derived.Test.YtajfhnphhdoobaaMemSp
set_option linter.unusedVariables false
set_option linter.unusedSimpArgs false
namespace Go.SX
theorem FirstN.same {rs : List Reg} {a n p : Nat} {o o' : Option Nat} (x : FirstN rs a n p o) (y : FirstN rs a n p o') : o = o' := by
  cases x with
  | none h =>
    cases y with
    | none h' => rfl
    | some i hi h1 h' => exact absurd (h i hi) h1
  | some i hi h1 h =>
    cases y with
    | none h' => exact absurd (h' i hi) h1
    | some j hj h2 h' =>
      by_cases e : i = j
      · rw [e]
      · exfalso
        rcases Nat.lt_or_gt_of_ne e with q | q
        · exact h1 (h' i q)
        · exact h2 (h j q)
noncomputable def okB (rs : List Reg) (p a : Nat) : Bool := @decide (okAt rs p a) (Classical.propDecidable _)
theorem okB_true {rs : List Reg} {p a : Nat} : okB rs p a = true ↔ okAt rs p a := by
  unfold okB; simp
/-- the first of 'n' places that may not be used so. -/
noncomputable def firstF (rs : List Reg) (a n p : Nat) : Option Nat := ((List.range n).find? fun i => !okB rs p (adr a i)).map (adr a)
theorem firstF_ok (rs : List Reg) (a n p : Nat) : FirstN rs a n p (firstF rs a n p) := by
  unfold firstF
  cases hf : (List.range n).find? (fun i => !okB rs p (adr a i)) with
  | none =>
    rw [List.find?_eq_none] at hf
    refine .none fun i hi => ?_
    have := hf i (List.mem_range.2 hi)
    rw [← okB_true]
    simpa using this
  | some i =>
    rw [List.find?_range_eq_some] at hf
    obtain ⟨h1, h2, h3⟩ := hf
    refine .some i (List.mem_range.1 h2) (by rw [← okB_true]; simpa using h1) fun j hj => ?_
    have := h3 j hj
    rw [← okB_true]
    simpa using this
theorem FirstN.eqF {rs : List Reg} {a n p : Nat} {o : Option Nat} (x : FirstN rs a n p o) : o = firstF rs a n p := x.same (firstF_ok rs a n p)
def zI : InstR := ⟨0, 0, 0, 0, 0, 0, 0⟩
/-- what a decoder answers. -/
def decV (i : InstR) : Value := if i.op = 0 then .tuple #[zI.v, .bool false] else .tuple #[i.v, .bool true]
structure StopR where
  kind : Int
  fk : Int
  fa : Nat
def StopR.v (s : StopR) : Value := .agg #[.int .i64 s.kind, .int .i64 s.fk, .int .u64 s.fa]
def sOk : StopR := ⟨0, 0, 0⟩
/-- the bits at a place, or the place that may not be done. -/
noncomputable def fetchF (rs : List Reg) (B : Nat → Nat) (a : Nat) : Nat × Option Nat :=
  if a % 2 ≠ 0 then (0, some a) else
  match firstF rs a 2 4 with
  | some b => (0, some b)
  | none =>
    if (B a + 256 * B (a + 1)) % 4 ≠ 3 then (B a + 256 * B (a + 1), none) else
    match firstF rs (adr a 2) 2 4 with
    | some b => (0, some b)
    | none => (B a + 256 * B (a + 1) + 65536 * (B (a + 2) + 256 * B (a + 3)), none)
theorem firstF_far {rs : List Reg} {a n p : Nat} (w : wfR rs) (h : firstF rs a n p = none) (hn : 0 < n) (ha : a < 18446744073709551616) (hn2 : n ≤ 4194304) : a + n ≤ 274877906944 := by
  have F := firstF_ok rs a n p
  rw [h] at F
  cases F with
  | none q => exact (FirstN.far w q hn ha hn2).1
theorem le_two (M : MemD) (a : Nat) : le (peekL M a 2) = memAt M a + 256 * memAt M (a + 1) := by
  simp [peekL, le, List.range_succ]
end Go.SX
set_option linter.unusedVariables false
set_option linter.unusedSimpArgs false
namespace Go.SX
def pickL (n : Int) : InstR := if bitI .and .u16 n 3 = 0 then firstL n else if bitI .and .u16 n 3 = 1 then secondL n else if bitI .and .u16 n 3 = 2 then thirdL n else zI
def expandL (n : Int) : InstR := if (pickL n).op = 0 then zI else { pickL n with size := 2 }
def decodeL (n : Int) : InstR := if bitI .and .u16 (IntKind.u16.wrap n) 3 = 3 then wordL n else expandL (IntKind.u16.wrap n)
noncomputable def readF (rs : List Reg) (B : Nat → Nat) (a : Nat) : InstR × StopR :=
  match fetchF rs B a with
  | (_, some b) => (zI, ⟨4, 3, b⟩)
  | (w, none) => if (decodeL w).op = 0 then (zI, ⟨3, 3, a⟩) else (decodeL w, sOk)
structure CE where
  pc : Nat
  i : InstR
  f : Nat
  l : Nat
  born : Nat
def CE.v (e : CE) : Value := .agg #[.int .i64 e.i.op, .int .i64 e.i.rd, .int .i64 e.i.rs1, .int .i64 e.i.rs2, .int .i64 e.i.imm, .int .i64 e.i.order, .int .i64 e.i.size, .int .u64 e.f, .int .u64 e.l]
def lastP (a : Nat) (size : Int) : Nat := (a + size.toNat - 1) / 4096
structure CE.ok (M : MemD) (e : CE) : Prop where
  pc : e.pc < 274877906944
  sz : e.i.size = 2 ∨ e.i.size = 4
  f : e.f ≤ stampV M.D (e.pc / 4096)
  l : e.l ≤ stampV M.D (lastP e.pc e.i.size)
  now : e.f = stampV M.D (e.pc / 4096) → e.l = stampV M.D (lastP e.pc e.i.size) → readF M.rs (memAt M) e.pc = (e.i, sOk)
theorem expandL_size (n : Int) (h : (expandL n).op ≠ 0) : (expandL n).size = 2 := by
  unfold expandL at *
  split
  · rename_i q; rw [if_pos q] at h; exact absurd rfl h
  · rfl
theorem ite_size {c : Prop} [Decidable c] {a b : InstR} (ha : a.op ≠ 0 → a.size = 4) (hb : b.op ≠ 0 → b.size = 4) : (if c then a else b).op ≠ 0 → (if c then a else b).size = 4 := by
  split
  · exact ha
  · exact hb
theorem wordL_size (n : Int) : (wordL n).op ≠ 0 → (wordL n).size = 4 := by
  unfold wordL
  repeat' refine ite_size ?_ ?_
  all_goals first | exact fun _ => rfl | exact fun h => absurd rfl h
theorem decodeL_size (n : Int) (h : (decodeL n).op ≠ 0) : (decodeL n).size = 2 ∨ (decodeL n).size = 4 := by
  unfold decodeL at *
  split
  · rename_i q; rw [if_pos q] at h; exact .inr (wordL_size n h)
  · rename_i q; rw [if_neg q] at h; exact .inl (expandL_size _ h)
theorem readF_ok {rs : List Reg} {B : Nat → Nat} {a : Nat} {i : InstR} (w : wfR rs) (ha : a < 18446744073709551616) (h : readF rs B a = (i, sOk)) : a + 2 ≤ 274877906944 ∧ (i.size = 2 ∨ i.size = 4) ∧ i.op ≠ 0 ∧ ∃ n : Nat, i = decodeL n ∧ fetchF rs B a = (n, none) := by
  unfold readF at h
  split at h
  · simp [sOk] at h
  · rename_i w0 hw
    split at h
    · simp [sOk] at h
    · rename_i q
      have e : decodeL w0 = i := (Prod.mk.inj h).1
      subst e
      refine ⟨?_, decodeL_size _ q, q, w0, rfl, hw⟩
      unfold fetchF at hw
      split at hw
      · simp at hw
      · split at hw
        · simp at hw
        · rename_i q2
          exact firstF_far w q2 (by omega) ha (by omega)
end Go.SX
