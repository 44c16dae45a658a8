/- The space of HartNone: three mappings. No condition. -/
import Derived.Test.YteoiokeiddlchaaGreatHB
set_option linter.unusedVariables false
set_option linter.unusedSimpArgs false
namespace Go.SX.G
open Go Go.SX Go.Proofs
set_option maxRecDepth 100000
set_option maxHeartbeats 2000000
theorem map20_c {h : Heap} {s : Nat} {M : MemD} (a n p : Nat) (rs' : List Reg) (r : MR h s M) (hm : M.most = 20) (hz : ∀ y, memAt M y = 0) (hrs : joL (wiL M.rs ⟨a, a + upN n, p⟩) = rs') (h1 : a % 4096 = 0) (h2 : n ≠ 0) (h3 : n ≤ 274877906944) (h4 : p ≤ 7)
    (ha : a < 18446744073709551616) (hsp : spanO a n = some (a + upN n)) (hl : rs'.length ≤ 256) (hp : pagesL rs' ≤ 20) :
    Fn Tryz.prog 13 [ptr s 0, .int .u64 a, .int .u64 n, .int .i64 p, .bool true] h fun x h' => x = numE a 0 ∧ ∃ M', MR h' s M' ∧ M'.rs = rs' ∧ M'.most = 20 ∧ (∀ y, memAt M' y = 0) ∧ Fx (mfoot s M) (mfoot s M') h h' := by
  refine (mmap_c a n p true r ha (by omega)).mono fun x h' hx => ?_
  cases hx with
  | bad c => exact absurd ⟨h1, h2, h3, by omega, by omega⟩ c
  | noroom c f => cases f
  | nospan c b hb w => simp only [if_true] at hb; subst hb; rw [hsp] at w; cases w
  | lay c b hb w y t ex =>
    simp only [if_true] at hb
    subst hb
    have hp' : ((p : Nat) : Int).toNat = p := rfl
    rw [hp'] at t
    cases t with
    | no c => rw [hrs, hm] at c; omega
    | yes c1 c2 ey M' r' rs byte most base fin fx sr =>
      rcases ex with ⟨e, _⟩ | ⟨_, e⟩
      · rw [ey] at e; cases e
      · exact ⟨e, M', r', rs.trans hrs, most.trans hm, fun y => by rw [byte]; split; rfl; exact hz y, fx⟩
end Go.SX.G
