/- Pages one behind the other, each with its own rights, laid at once: plain laws. No program. -/
import Derived.Test.YtcnalkdgdbhedaaKeepPlain
set_option linter.unusedVariables false
set_option linter.unusedSimpArgs false
namespace Go.SX
set_option maxRecDepth 100000
def kP (P : Nat → Nat) (m y : Nat) : Option Nat := if 4096 ≤ y ∧ y < (m + 1) * 4096 then some (P (y / 4096 - 1)) else none
structure KeepQ (rs : List Reg) (P : Nat → Nat) (m : Nat) : Prop where
  wf : wfR rs
  ch : Chain 4096 rs ((m + 1) * 4096)
  pr : ∀ y, protAt rs y = kP P m y
theorem keepQ_nil (P : Nat → Nat) : KeepQ [] P 0 :=
  ⟨wfR.nil, by show (4096 : Nat) = (0 + 1) * 4096; rfl, fun y => by unfold kP; rw [if_neg (by omega)]; rfl⟩
theorem keepQ_map {rs : List Reg} {P : Nat → Nat} {m N N2 : Nat} (eN : N = (m + 1) * 4096) (eN2 : N2 = (m + 2) * 4096) (k : KeepQ rs P m) (hm : m < 6) (hp : P m ≤ 7) : KeepQ (joL (wiL rs ⟨N, N2, P m⟩)) P (m + 1) := by
  have hs : spanB N N2 = true := spanB_iff.2 (by omega)
  obtain ⟨w1, w2⟩ := mapped_at ⟨N, N2, P m⟩ k.wf hs hp
  have hc : Chain 4096 rs N := by rw [eN]; exact k.ch
  have e3 : (m + 1 + 1) * 4096 = N2 := by omega
  refine ⟨w1, by rw [e3]; exact Chain.add hc (by omega), fun y => ?_⟩
  have hy := k.pr y
  have hq : N ≤ y ∧ y < N2 → y / 4096 - 1 = m := by omega
  unfold kP at hy ⊢
  rw [w2 y, hy, e3, ← eN]
  clear w2 hy w1 hs hc
  have hN : 4096 ≤ N := by omega
  have hN2 : N ≤ N2 := by omega
  clear eN eN2 e3 k
  by_cases q : N ≤ y ∧ y < N2
  · have q1 : 4096 ≤ y ∧ y < N2 := by omega
    simp only [q, q1, and_self, if_true, hq q]
  · simp only [q, if_false]
    by_cases q2 : 4096 ≤ y ∧ y < N
    · have q1 : 4096 ≤ y ∧ y < N2 := by omega
      simp only [q2, q1, and_self, if_true]
    · have q1 : ¬ (4096 ≤ y ∧ y < N2) := by omega
      simp only [q2, q1, if_false]
end Go.SX
