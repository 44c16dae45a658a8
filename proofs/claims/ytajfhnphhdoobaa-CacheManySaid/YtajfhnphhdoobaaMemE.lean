/- The space: Unmap, Protect, the heap's end. No condition but on sizes. -/
import Derived.Test.YtajfhnphhdoobaaMemD
set_option linter.unusedVariables false
set_option linter.unusedSimpArgs false
namespace Go.SX.G
open Go Go.SX Go.Proofs
set_option maxRecDepth 100000
set_option maxHeartbeats 2000000
/-- a change of the space: its regions, its bytes. -/
structure Chg (h h' : Heap) (s : Nat) (M M' : MemD) (n : Nat) (T : Nat → Prop) : Prop where
  r : MR h' s M'
  most : M'.most = M.most
  base : M'.base = M.base
  fin : M'.fin = M.fin
  fx : Fx (mfoot s M) (mfoot s M') h h'
  sr : Sr M.D M'.D n T
/-- the space behind a change of its list in place. -/
theorem MR.took {h h1 : Heap} {s : Nat} {M : MemD} {rs : List Reg} {bl : Option Nat} (r : MR h s M) (L : LR h1 M.l bl rs) (fresh : ∀ b, bl = some b → h.size ≤ b) (size : h.size ≤ h1.size) (old : ∀ b, b < h.size → b ≠ M.l → h1[b]? = h[b]?) (w : wfR rs) (n : rs.length ≤ 256) :
    MR h1 s { M with bl := bl, rs := rs } ∧ Fx (mfoot s M) (mfoot s { M with bl := bl, rs := rs }) h h1 := by
  have hsz := fun b f => r.lt (b := b) f
  refine ⟨⟨by rw [old s (hsz _ (.inl rfl)) r.ds.1]; exact r.top, L, r.sr.mono fun b f => old b (r.sr.lt f) (fun e => r.dl.2 (by rw [← e]; exact f)), w, n, ⟨r.ds.1, fun e => ?_, r.ds.2.2⟩, ⟨fun e => ?_, r.dl.2⟩, fun b hb f => ?_, r.num⟩, size, fun b f => ?_, fun b hb hf => old b hb fun e => hf (.inr (.inl e))⟩
  · have := fresh s e; have := hsz s (.inl rfl); omega
  · have := fresh M.l e; have := hsz M.l (.inr (.inl rfl)); omega
  · have := fresh b hb; have := r.sr.lt f; omega
  · rcases f with f | f | f | f
    · exact .inl (.inl f)
    · exact .inl (.inr (.inl f))
    · exact .inr (fresh b f)
    · exact .inl (.inr (.inr (.inr f)))
/-- the space behind a change of its store. -/
theorem MR.stored {h h1 : Heap} {s : Nat} {M : MemD} {D' : StoreD} (r : MR h s M) (R : SR h1 M.p D') (ft : ∀ b, foot M.p D' b → foot M.p M.D b ∨ h.size ≤ b) (size : h.size ≤ h1.size) (old : ∀ b, b < h.size → ¬ foot M.p M.D b → h1[b]? = h[b]?) :
    MR h1 s { M with D := D' } ∧ Fx (mfoot s M) (mfoot s { M with D := D' }) h h1 := by
  have hsz := fun b f => r.lt (b := b) f
  have hnf : ∀ b, b < h.size → ¬ foot M.p M.D b → ¬ foot M.p D' b := fun b hb hf f => by
    rcases ft b f with q | q
    · exact hf q
    · omega
  refine ⟨⟨by rw [old s (hsz _ (.inl rfl)) r.ds.2.2]; exact r.top, r.lr.mono (old _ r.lr.lt r.dl.2) fun b hb => old b (r.lr.blt hb) (r.db b hb), R, r.wf, r.len, ⟨r.ds.1, r.ds.2.1, hnf _ (hsz _ (.inl rfl)) r.ds.2.2⟩, ⟨r.dl.1, hnf _ r.lr.lt r.dl.2⟩, fun b hb => hnf b (r.lr.blt hb) (r.db b hb), r.num⟩, size, fun b f => ?_, fun b hb hf => old b hb fun f => hf (.inr (.inr (.inr f)))⟩
  rcases f with f | f | f | f
  · exact .inl (.inl f)
  · exact .inl (.inr (.inl f))
  · exact .inl (.inr (.inr (.inl f)))
  · rcases ft b f with q | q
    · exact .inl (.inr (.inr (.inr q)))
    · exact .inr q
/-- what Unmap comes to. -/
inductive Unmd (h h' : Heap) (s : Nat) (x : Value) (M : MemD) (a n : Nat) : Prop
  | bad (c : spanO a n = none) (ex : x = .int .i64 22) (k : Keeps h.size h h')
  | no (e : Nat) (c : spanO a n = some e) (c2 : 256 < (joL (woL a e M.rs)).length) (ex : x = .int .i64 12) (k : Keeps h.size h h')
  | yes (e : Nat) (c : spanO a n = some e) (c2 : (joL (woL a e M.rs)).length ≤ 256) (ex : x = .int .i64 0) (M' : MemD) (g : Chg h h' s M M' ((e - a) / 4096) (touched a e)) (rs : M'.rs = joL (woL a e M.rs)) (byte : ∀ y, memAt M' y = if a ≤ y ∧ y < e then 0 else memAt M y)
/-- what Protect comes to. -/
inductive Prtd (h h' : Heap) (s : Nat) (x : Value) (M : MemD) (a n : Nat) (p : Int) : Prop
  | bad (c : spanO a n = none ∨ ¬ (0 ≤ p ∧ p ≤ 7)) (ex : x = .int .i64 22) (k : Keeps h.size h h')
  | hole (e : Nat) (c : spanO a n = some e) (c2 : ∃ y, a ≤ y ∧ y < e ∧ atL M.rs y = none) (ex : x = .int .i64 12) (k : Keeps h.size h h')
  | no (e : Nat) (c : spanO a n = some e) (c2 : 256 < (joL (wiL M.rs ⟨a, e, p.toNat⟩)).length) (ex : x = .int .i64 12) (k : Keeps h.size h h')
  | yes (e : Nat) (c : spanO a n = some e) (hp : 0 ≤ p ∧ p ≤ 7) (c1 : ∀ y, a ≤ y → y < e → (atL M.rs y).isSome = true) (c2 : (joL (wiL M.rs ⟨a, e, p.toNat⟩)).length ≤ 256) (ex : x = .int .i64 0) (M' : MemD) (g : Chg h h' s M M' ((e - a) / 4096) (touched a e)) (rs : M'.rs = joL (wiL M.rs ⟨a, e, p.toNat⟩)) (byte : ∀ y, memAt M' y = memAt M y)
end Go.SX.G
