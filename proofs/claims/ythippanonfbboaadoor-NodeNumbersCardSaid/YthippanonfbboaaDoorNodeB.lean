/- The reference's numbers as texts; its tree of a root alone. No condition but on sizes. -/
import Derived.Test.YthippanonfbboaaDoorNodeA
import Derived.Test.YthippanonfbboaaDoorSxStr
set_option linter.unusedVariables false
set_option linter.unusedSimpArgs false
namespace Go.SX.G
open Go Go.SX Go.Proofs
set_option maxRecDepth 100000
set_option maxHeartbeats 1000000
def dgB (u : Nat) : ByteArray := ⟨#[UInt8.ofNat (48 + u % 10)]⟩
/-- the digits of a number, ahead of a text. -/
def udL : Nat → Nat → ByteArray → ByteArray
  | 0, _, s => s
  | k + 1, u, s => if u / 10 = 0 then dgB u ++ s else udL k (u / 10) (dgB u ++ s)
def udS (u : Nat) : ByteArray := udL 20 u ⟨#[]⟩
theorem udL_size : ∀ (k u : Nat) (s : ByteArray), (udL k u s).size ≤ k + s.size
  | 0, u, s => by simp [udL]
  | k + 1, u, s => by
    have h1 : (dgB u ++ s).size = 1 + s.size := by rw [ByteArray.size_append]; rfl
    unfold udL
    split
    · omega
    · have := udL_size k (u / 10) (dgB u ++ s); omega
theorem udec_c (u : Nat) (hu : u < 18446744073709551616) (h : Heap) : Fn Tryd.prog 35 [.int .u64 u] h fun x h' => x = .string (udS u) ∧ Keeps h.size h h' := by
  refine Fn_c Tryd.func35 mixed c35 (by kernel_rfl) ?_; rw [r35]
  simp -implicitDefEqProofs (disch := first | omega | (simp only [h_szP, h_szS]; done) | (simp only [h_szP, h_szS]; omega)) only [go_sem, Nat.reduceBEq, reduceCtorEq, Nat.reduceAdd, Int.reduceEq, Int.reduceLT, Int.reduceLE, Int.reduceMul, Int.reduceAdd, Int.reduceSub, reduceIte, Nat.reduceLeDiff, Nat.reduceLT, Nat.reduceMul, Nat.reduceSub, Int.reduceToNat, s35, Tryd.underlying83, Tryd.underlying5, sl23, ze5, by5, sz5, Tryd.underlying23, Tryd.underlying9]
  obtain ⟨I, hI⟩ : ∃ I : Nat → Fr → Heap → Prop, I = fun k fr hh => ∃ (v : Nat) (s : ByteArray), udL k v s = udS u ∧ 0 < k ∧ v < 10 ^ k ∧ v < 18446744073709551616 ∧ Keeps h.size h hh ∧ s.size + k ≤ 20 ∧
      fr = ((fr0.up 3 (.string s)).up 0 (.int .u64 v)) := ⟨_, rfl⟩
  refine LoopK.use I 20 (by rw [hI]; exact ⟨u, ⟨#[]⟩, rfl, by omega, by omega, hu, Keeps.refl', by decide, rfl⟩) ?_
  intro k fr hh hK
  rw [hI] at hK
  obtain ⟨v, s, he, hk0, hk, hv, K1, hs, hf⟩ := hK
  subst hf
  have hm : (v : Int) % 10 = ((v % 10 : Nat) : Int) := by omega
  have hq : (v : Int) / 10 = ((v / 10 : Nat) : Int) := by omega
  have hsd : (dgB v ++ s).size = 1 + s.size := by rw [ByteArray.size_append]; rfl
  have hsz : (dgB v).size + s.size ≤ 9223372036854775807 := by rw [← ByteArray.size_append]; omega
  obtain ⟨k', rfl⟩ : ∃ k', k = k' + 1 := ⟨k - 1, by omega⟩
  unfold udL at he
  have h48 : ((48 : Int) + ((v % 10 : Nat) : Int)) = ((48 + v % 10 : Nat) : Int) := by omega
  simp -implicitDefEqProofs (disch := first | omega | (simp only [h_szP, h_szS]; done) | (simp only [h_szP, h_szS]; omega)) only [go_sem, Nat.reduceBEq, reduceCtorEq, Nat.reduceAdd, Int.reduceEq, Int.reduceLT, Int.reduceLE, Int.reduceMul, Int.reduceAdd, Int.reduceSub, reduceIte, Nat.reduceLeDiff, Nat.reduceLT, Nat.reduceMul, Nat.reduceSub, Int.reduceToNat, s35, Tryd.underlying83, Tryd.underlying5, sl23, ze5, by5, sz5, Tryd.underlying23, Tryd.underlying9, hm, hq]
  refine cvt_bytes (cs := [.int .u8 ((48 + v % 10 : Nat) : Int)]) (bs := [UInt8.ofNat (48 + v % 10)]) Tryd.underlying23 Tryd.underlying9 Tryd.underlying5 ?_ (by rw [bytesV, bytesV, Option.map_some, Int.toNat_natCast]) ?_
  · rw [h48]; simp [srcCells, cells?]
  have ed : ByteArray.mk [UInt8.ofNat (48 + v % 10)].toArray = dgB v := rfl
  rw [ed]
  simp -implicitDefEqProofs (disch := first | omega | (simp only [h_szP, h_szS]; done) | (simp only [h_szP, h_szS]; omega)) only [go_sem, Nat.reduceBEq, reduceCtorEq, Nat.reduceAdd, Int.reduceEq, Int.reduceLT, Int.reduceLE, Int.reduceMul, Int.reduceAdd, Int.reduceSub, reduceIte, Nat.reduceLeDiff, Nat.reduceLT, Nat.reduceMul, Nat.reduceSub, Int.reduceToNat, s35, Tryd.underlying83, Tryd.underlying5, sl23, ze5, by5, sz5, Tryd.underlying23, Tryd.underlying9, hq, s_add, hsz]
  have KK := K1.push' (o := .cells #[.int .u8 (48 + ((v % 10 : Nat) : Int))] 5) (Nat.le_refl _)
  refine ⟨fun z => ?_, fun z => ?_⟩
  · rw [if_pos (by omega)] at he
    exact ⟨by rw [he], KK⟩
  · rw [if_neg (by omega)] at he
    refine ⟨k', by omega, ?_⟩
    rw [hI]
    have hk' : v / 10 < 10 ^ k' := by
      rw [Nat.pow_succ] at hk
      exact Nat.div_lt_of_lt_mul (by rw [Nat.mul_comm]; exact hk)
    refine ⟨v / 10, dgB v ++ s, he, ?_, hk', by omega, KK, by omega, rfl⟩
    rcases Nat.eq_zero_or_pos k' with q | q
    · subst q; simp at hk'; omega
    · exact q
theorem dec_c (u : Nat) (hu : u < 9223372036854775808) (h : Heap) : Fn Tryd.prog 15 [.int .i64 u] h fun x h' => x = .string (udS u) ∧ Keeps h.size h h' := by
  have hd : decide ((u : Int) < 0) = false := decide_eq_false (by omega)
  refine Fn_c Tryd.func15 mixed c15 (by kernel_rfl) ?_; rw [r15]
  simp -implicitDefEqProofs (disch := first | omega | (simp only [h_szP, h_szS]; done) | (simp only [h_szP, h_szS]; omega)) only [go_sem, Nat.reduceBEq, reduceCtorEq, Nat.reduceAdd, Int.reduceEq, Int.reduceLT, Int.reduceLE, Int.reduceMul, Int.reduceAdd, Int.reduceSub, reduceIte, Nat.reduceLeDiff, Nat.reduceLT, Nat.reduceMul, Nat.reduceSub, Int.reduceToNat, s15, Tryd.underlying3, Tryd.underlying83, Tryd.underlying9, hd]
  refine FnK.use (udec_c u (by omega) h) ?_
  intro x h1 ⟨e1, K1⟩
  rw [e1]
  simp -implicitDefEqProofs (disch := first | omega | (simp only [h_szP, h_szS]; done) | (simp only [h_szP, h_szS]; omega)) only [go_sem, Nat.reduceBEq, reduceCtorEq, Nat.reduceAdd, Int.reduceEq, Int.reduceLT, Int.reduceLE, Int.reduceMul, Int.reduceAdd, Int.reduceSub, reduceIte, Nat.reduceLeDiff, Nat.reduceLT, Nat.reduceMul, Nat.reduceSub, Int.reduceToNat, s15, Tryd.underlying3, Tryd.underlying83, Tryd.underlying9]
  exact K1
/-- a tree of a root. -/
structure Rt (h : Heap) (m bn r : Nat) : Prop where
  t : h[m]? = some (.cells #[.slice (some ⟨bn, 0, none⟩) 1 1] 92 (0, 0))
  n : h[bn]? = some (.cells #[ptr r 0] 87 (0, 0))
  r : h[r]? = some (.cells #[.int .i64 1, .int .i64 2, .int .i64 493, .slice none 0 0, .slice none 0 0, .int .i64 1, .int .i64 0, .int .i64 0] 89 (0, 0))
theorem Rt.ext {h h' : Heap} {m bn r : Nat} (R : Rt h m bn r) (k : Keeps h.size h h') : Rt h' m bn r := ⟨k.at R.t (getElem?_lt R.t), k.at R.n (getElem?_lt R.n), k.at R.r (getElem?_lt R.r)⟩
theorem empty_c (h : Heap) : Fn Tryd.prog 17 [] h fun x h' => (∃ m bn r, x = ptr m 0 ∧ Rt h' m bn r ∧ h.size ≤ m ∧ h.size ≤ bn ∧ h.size ≤ r) ∧ Keeps h.size h h' := by
  refine Fn_c Tryd.func17 mixed c17 (by kernel_rfl) ?_; rw [r17]
  simp -implicitDefEqProofs (disch := first | omega | (simp only [h_szP, h_szS]; done) | (simp only [h_szP, h_szS]; omega)) only [go_sem, Nat.reduceBEq, reduceCtorEq, Nat.reduceAdd, Int.reduceEq, Int.reduceLT, Int.reduceLE, Int.reduceMul, Int.reduceAdd, Int.reduceSub, reduceIte, Nat.reduceLeDiff, Nat.reduceLT, Nat.reduceMul, Nat.reduceSub, Int.reduceToNat, s17, zc89, sd89, pl89_0, pl89_1, pl89_2, pl89_5, sl90, ze87, by87, sz87, zc92, sd92, pl92_0, mk_ptr]
  refine ⟨⟨h.size + 1 + 1, h.size + 1, h.size, rfl, ⟨h_pushE _ _ _ (by simp), ?_, ?_⟩, by omega, by omega, Nat.le_refl _⟩, ((Keeps.push _ _ (Nat.le_refl _)).push' (Nat.le_refl _)).push' (Nat.le_refl _)⟩
  · simp -implicitDefEqProofs (disch := first | omega | (simp only [h_szP, h_szS]; done) | (simp only [h_szP, h_szS]; omega)) only [go_sem, Nat.reduceBEq, reduceCtorEq, Nat.reduceAdd, Int.reduceEq, Int.reduceLT, Int.reduceLE, Int.reduceMul, Int.reduceAdd, Int.reduceSub, reduceIte, Nat.reduceLeDiff, Nat.reduceLT, Nat.reduceMul, Nat.reduceSub, Int.reduceToNat]
  · simp -implicitDefEqProofs (disch := first | omega | (simp only [h_szP, h_szS]; done) | (simp only [h_szP, h_szS]; omega)) only [go_sem, Nat.reduceBEq, reduceCtorEq, Nat.reduceAdd, Int.reduceEq, Int.reduceLT, Int.reduceLE, Int.reduceMul, Int.reduceAdd, Int.reduceSub, reduceIte, Nat.reduceLeDiff, Nat.reduceLT, Nat.reduceMul, Nat.reduceSub, Int.reduceToNat]
theorem rget_r {h : Heap} {m bn r : Nat} (R : Rt h m bn r) : Fn Tryd.prog 71 [ptr m 0, .int .i64 1] h fun x h' => x = ptr r 0 ∧ h' = h := by
  have h1 := R.t
  have h2 := R.n
  refine Fn_c Tryd.func71 mixed c71 (by kernel_rfl) ?_; rw [r71]
  simp -implicitDefEqProofs (disch := first | omega | (simp only [h_szP, h_szS]; done) | (simp only [h_szP, h_szS]; omega)) only [go_sem, Nat.reduceBEq, reduceCtorEq, Nat.reduceAdd, Int.reduceEq, Int.reduceLT, Int.reduceLE, Int.reduceMul, Int.reduceAdd, Int.reduceSub, reduceIte, Nat.reduceLeDiff, Nat.reduceLT, Nat.reduceMul, Nat.reduceSub, Int.reduceToNat, s71, Tryd.underlying3, fo92_0, sh90, Tryd.underlying90, sl90, ze87, by87, sz87, zc89, sd89, sh87, h1, h2]
theorem rget_o {h : Heap} {m bn r : Nat} (R : Rt h m bn r) (n : Int) (hn : n ≠ 1) : Fn Tryd.prog 71 [ptr m 0, .int .i64 n] h fun x h' => x = ptr h.size 0 ∧ h' = h.push (.cells #[.int .i64 0, .int .i64 0, .int .i64 0, .slice none 0 0, .slice none 0 0, .int .i64 0, .int .i64 0, .int .i64 0] 89 (0, 0)) := by
  have h1 := R.t
  have h2 := R.n
  refine Fn_c Tryd.func71 mixed c71 (by kernel_rfl) ?_; rw [r71]
  simp -implicitDefEqProofs (disch := first | omega | (simp only [h_szP, h_szS]; done) | (simp only [h_szP, h_szS]; omega)) only [go_sem, Nat.reduceBEq, reduceCtorEq, Nat.reduceAdd, Int.reduceEq, Int.reduceLT, Int.reduceLE, Int.reduceMul, Int.reduceAdd, Int.reduceSub, reduceIte, Nat.reduceLeDiff, Nat.reduceLT, Nat.reduceMul, Nat.reduceSub, Int.reduceToNat, s71, Tryd.underlying3, fo92_0, sh90, Tryd.underlying90, sl90, ze87, by87, sz87, zc89, sd89, sh87, h1, h2]
  exact fun q1 q2 => absurd (by omega) hn
theorem at_r {h : Heap} {m bn r : Nat} (R : Rt h m bn r) (s : ByteArray) : Fn Tryd.prog 72 [ptr r 0, .string s] h fun x h' => x = .int .i64 (-1) ∧ h' = h := by
  have h1 := R.r
  refine Fn_c Tryd.func72 mixed c72 (by kernel_rfl) ?_; rw [r72]
  simp -implicitDefEqProofs (disch := first | omega | (simp only [h_szP, h_szS]; done) | (simp only [h_szP, h_szS]; omega)) only [go_sem, Nat.reduceBEq, reduceCtorEq, Nat.reduceAdd, Int.reduceEq, Int.reduceLT, Int.reduceLE, Int.reduceMul, Int.reduceAdd, Int.reduceSub, reduceIte, Nat.reduceLeDiff, Nat.reduceLT, Nat.reduceMul, Nat.reduceSub, Int.reduceToNat, s72, fo89_4, sh55, Tryd.underlying55, sl55, ze59, by59, sz59, Tryd.underlying3, fo59_0, sh9, Tryd.underlying9, h1]
  refine LoopK.use (fun k fr hh => hh = h ∧ fr = (((fr0.up 5 (.int .i64 0)).up 1 (.string s)).up 0 (ptr r 0))) 0 ⟨rfl, rfl⟩ ?_
  intro k fr hh ⟨e0, hf⟩
  have e0 := e0.symm
  subst e0
  subst hf
  simp -implicitDefEqProofs (disch := first | omega | (simp only [h_szP, h_szS]; done) | (simp only [h_szP, h_szS]; omega)) only [go_sem, Nat.reduceBEq, reduceCtorEq, Nat.reduceAdd, Int.reduceEq, Int.reduceLT, Int.reduceLE, Int.reduceMul, Int.reduceAdd, Int.reduceSub, reduceIte, Nat.reduceLeDiff, Nat.reduceLT, Nat.reduceMul, Nat.reduceSub, Int.reduceToNat, s72, fo89_4, sh55, Tryd.underlying55, sl55, ze59, by59, sz59, Tryd.underlying3, fo59_0, sh9, Tryd.underlying9, h1]
theorem good_c (s : ByteArray) (hs : s.size ≤ 1000) (h : Heap) : Fn Tryd.prog 76 [.string s] h fun x h' => (∃ b, x = .bool b) ∧ h' = h := by
  refine Fn_c Tryd.func76 mixed c76 (by kernel_rfl) ?_; rw [r76]
  simp -implicitDefEqProofs (disch := first | omega | (simp only [h_szP, h_szS]; done) | (simp only [h_szP, h_szS]; omega)) only [go_sem, Nat.reduceBEq, reduceCtorEq, Nat.reduceAdd, Int.reduceEq, Int.reduceLT, Int.reduceLE, Int.reduceMul, Int.reduceAdd, Int.reduceSub, reduceIte, Nat.reduceLeDiff, Nat.reduceLT, Nat.reduceMul, Nat.reduceSub, Int.reduceToNat, s76, Tryd.underlying9, Tryd.underlying3, Tryd.underlying5]
  obtain ⟨I, hI⟩ : ∃ I : Nat → Fr → Heap → Prop, I = fun k fr hh => hh = h ∧ ∃ (i : Nat), i + k = s.size ∧
      fr = ((fr0.up 3 (.int .i64 i)).up 0 (.string s)) := ⟨_, rfl⟩
  refine LoopK.use I s.size (by rw [hI]; exact ⟨rfl, 0, by omega, rfl⟩) ?_
  intro k fr hh hK
  rw [hI] at hK
  obtain ⟨e0, i, hk, hf⟩ := hK
  have e0 := e0.symm
  subst e0
  subst hf
  by_cases hi : i < s.size
  · have hd : decide ((i : Int) < s.size) = true := decide_eq_true (by omega)
    obtain ⟨b, hb, hix⟩ := idx_str (P := Tryd.prog) .i64 Tryd.underlying9 hi
    simp -implicitDefEqProofs (disch := first | omega | (simp only [h_szP, h_szS]; done) | (simp only [h_szP, h_szS]; omega)) only [go_sem, Nat.reduceBEq, reduceCtorEq, Nat.reduceAdd, Int.reduceEq, Int.reduceLT, Int.reduceLE, Int.reduceMul, Int.reduceAdd, Int.reduceSub, reduceIte, Nat.reduceLeDiff, Nat.reduceLT, Nat.reduceMul, Nat.reduceSub, Int.reduceToNat, s76, Tryd.underlying9, Tryd.underlying3, Tryd.underlying5, hd, hix]
    refine ⟨fun _ => ⟨_, rfl⟩, fun _ => ⟨fun _ => ⟨_, rfl⟩, fun _ => ⟨k - 1, by omega, ?_⟩⟩⟩
    rw [hI]
    exact ⟨rfl, i + 1, by omega, rfl⟩
  · have hd : decide ((i : Int) < s.size) = false := decide_eq_false (by omega)
    simp -implicitDefEqProofs (disch := first | omega | (simp only [h_szP, h_szS]; done) | (simp only [h_szP, h_szS]; omega)) only [go_sem, Nat.reduceBEq, reduceCtorEq, Nat.reduceAdd, Int.reduceEq, Int.reduceLT, Int.reduceLE, Int.reduceMul, Int.reduceAdd, Int.reduceSub, reduceIte, Nat.reduceLeDiff, Nat.reduceLT, Nat.reduceMul, Nat.reduceSub, Int.reduceToNat, s76, Tryd.underlying9, Tryd.underlying3, Tryd.underlying5, hd, s_neq]
    refine ⟨fun _ => ⟨fun _ => ?_, fun _ => ⟨_, rfl⟩⟩, fun _ => ⟨_, rfl⟩⟩
    rw [t_all]
    exact ⟨fun _ => ⟨_, rfl⟩, fun _ => ⟨_, rfl⟩⟩
theorem isdir_r {h : Heap} {m bn r : Nat} (R : Rt h m bn r) : Fn Tryd.prog 66 [ptr m 0, .int .i64 1] h fun x h' => x = .int .i64 0 ∧ h' = h := by
  have h1 := R.r
  refine Fn_c Tryd.func66 mixed c66 (by kernel_rfl) ?_; rw [r66]
  simp -implicitDefEqProofs (disch := first | omega | (simp only [h_szP, h_szS]; done) | (simp only [h_szP, h_szS]; omega)) only [go_sem, Nat.reduceBEq, reduceCtorEq, Nat.reduceAdd, Int.reduceEq, Int.reduceLT, Int.reduceLE, Int.reduceMul, Int.reduceAdd, Int.reduceSub, reduceIte, Nat.reduceLeDiff, Nat.reduceLT, Nat.reduceMul, Nat.reduceSub, Int.reduceToNat, s66, fo89_0, sh3, Tryd.underlying3, fo89_1]
  refine FnK.val (rget_r R) ?_
  simp -implicitDefEqProofs (disch := first | omega | (simp only [h_szP, h_szS]; done) | (simp only [h_szP, h_szS]; omega)) only [go_sem, Nat.reduceBEq, reduceCtorEq, Nat.reduceAdd, Int.reduceEq, Int.reduceLT, Int.reduceLE, Int.reduceMul, Int.reduceAdd, Int.reduceSub, reduceIte, Nat.reduceLeDiff, Nat.reduceLT, Nat.reduceMul, Nat.reduceSub, Int.reduceToNat, s66, fo89_0, sh3, Tryd.underlying3, fo89_1, h1]
theorem isdir_o {h : Heap} {m bn r : Nat} (R : Rt h m bn r) (n : Int) (hn : n ≠ 1) : Fn Tryd.prog 66 [ptr m 0, .int .i64 n] h fun x h' => x = .int .i64 2 ∧ Keeps h.size h h' := by
  refine Fn_c Tryd.func66 mixed c66 (by kernel_rfl) ?_; rw [r66]
  simp -implicitDefEqProofs (disch := first | omega | (simp only [h_szP, h_szS]; done) | (simp only [h_szP, h_szS]; omega)) only [go_sem, Nat.reduceBEq, reduceCtorEq, Nat.reduceAdd, Int.reduceEq, Int.reduceLT, Int.reduceLE, Int.reduceMul, Int.reduceAdd, Int.reduceSub, reduceIte, Nat.reduceLeDiff, Nat.reduceLT, Nat.reduceMul, Nat.reduceSub, Int.reduceToNat, s66, fo89_0, sh3, Tryd.underlying3, fo89_1]
  refine FnK.use (rget_o R n hn) ?_
  intro x h1 ⟨e1, e2⟩
  rw [e1, e2]
  simp -implicitDefEqProofs (disch := first | omega | (simp only [h_szP, h_szS]; done) | (simp only [h_szP, h_szS]; omega)) only [go_sem, Nat.reduceBEq, reduceCtorEq, Nat.reduceAdd, Int.reduceEq, Int.reduceLT, Int.reduceLE, Int.reduceMul, Int.reduceAdd, Int.reduceSub, reduceIte, Nat.reduceLeDiff, Nat.reduceLT, Nat.reduceMul, Nat.reduceSub, Int.reduceToNat, s66, fo89_0, sh3, Tryd.underlying3, fo89_1]
  exact Keeps.push _ _ (Nat.le_refl _)
theorem bytes_c {h : Heap} {m bn r : Nat} (R : Rt h m bn r) (n : Int) : Fn Tryd.prog 79 [ptr m 0, .int .i64 n] h fun x h' => x = .int .i64 (if n = 1 then 21 else 2) ∧ Keeps h.size h h' := by
  have h1 := R.r
  by_cases hn : n = 1
  · subst hn
    refine Fn_c Tryd.func79 mixed c79 (by kernel_rfl) ?_; rw [r79]
    simp -implicitDefEqProofs (disch := first | omega | (simp only [h_szP, h_szS]; done) | (simp only [h_szP, h_szS]; omega)) only [go_sem, Nat.reduceBEq, reduceCtorEq, Nat.reduceAdd, Int.reduceEq, Int.reduceLT, Int.reduceLE, Int.reduceMul, Int.reduceAdd, Int.reduceSub, reduceIte, Nat.reduceLeDiff, Nat.reduceLT, Nat.reduceMul, Nat.reduceSub, Int.reduceToNat, s79, fo89_0, sh3, Tryd.underlying3, fo89_1]
    refine FnK.val (rget_r R) ?_
    simp -implicitDefEqProofs (disch := first | omega | (simp only [h_szP, h_szS]; done) | (simp only [h_szP, h_szS]; omega)) only [go_sem, Nat.reduceBEq, reduceCtorEq, Nat.reduceAdd, Int.reduceEq, Int.reduceLT, Int.reduceLE, Int.reduceMul, Int.reduceAdd, Int.reduceSub, reduceIte, Nat.reduceLeDiff, Nat.reduceLT, Nat.reduceMul, Nat.reduceSub, Int.reduceToNat, s79, fo89_0, sh3, Tryd.underlying3, fo89_1, h1]
    exact Keeps.refl'
  · rw [if_neg hn]
    refine Fn_c Tryd.func79 mixed c79 (by kernel_rfl) ?_; rw [r79]
    simp -implicitDefEqProofs (disch := first | omega | (simp only [h_szP, h_szS]; done) | (simp only [h_szP, h_szS]; omega)) only [go_sem, Nat.reduceBEq, reduceCtorEq, Nat.reduceAdd, Int.reduceEq, Int.reduceLT, Int.reduceLE, Int.reduceMul, Int.reduceAdd, Int.reduceSub, reduceIte, Nat.reduceLeDiff, Nat.reduceLT, Nat.reduceMul, Nat.reduceSub, Int.reduceToNat, s79, fo89_0, sh3, Tryd.underlying3, fo89_1]
    refine FnK.use (rget_o R n hn) ?_
    intro x h1 ⟨e1, e2⟩
    rw [e1, e2]
    simp -implicitDefEqProofs (disch := first | omega | (simp only [h_szP, h_szS]; done) | (simp only [h_szP, h_szS]; omega)) only [go_sem, Nat.reduceBEq, reduceCtorEq, Nat.reduceAdd, Int.reduceEq, Int.reduceLT, Int.reduceLE, Int.reduceMul, Int.reduceAdd, Int.reduceSub, reduceIte, Nat.reduceLeDiff, Nat.reduceLT, Nat.reduceMul, Nat.reduceSub, Int.reduceToNat, s79, fo89_0, sh3, Tryd.underlying3, fo89_1]
    exact Keeps.push _ _ (Nat.le_refl _)
theorem rparent_r {h : Heap} {m bn r : Nat} (R : Rt h m bn r) : Fn Tryd.prog 77 [ptr m 0, .int .i64 1] h fun x h' => x = .int .i64 1 ∧ Keeps h.size h h' := by
  have h1 := R.r
  refine Fn_c Tryd.func77 mixed c77 (by kernel_rfl) ?_; rw [r77]
  simp -implicitDefEqProofs (disch := first | omega | (simp only [h_szP, h_szS]; done) | (simp only [h_szP, h_szS]; omega)) only [go_sem, Nat.reduceBEq, reduceCtorEq, Nat.reduceAdd, Int.reduceEq, Int.reduceLT, Int.reduceLE, Int.reduceMul, Int.reduceAdd, Int.reduceSub, reduceIte, Nat.reduceLeDiff, Nat.reduceLT, Nat.reduceMul, Nat.reduceSub, Int.reduceToNat, s77, Tryd.underlying26, fo89_5, sh3, Tryd.underlying3]
  refine FnK.val (isdir_r R) ?_
  simp -implicitDefEqProofs (disch := first | omega | (simp only [h_szP, h_szS]; done) | (simp only [h_szP, h_szS]; omega)) only [go_sem, Nat.reduceBEq, reduceCtorEq, Nat.reduceAdd, Int.reduceEq, Int.reduceLT, Int.reduceLE, Int.reduceMul, Int.reduceAdd, Int.reduceSub, reduceIte, Nat.reduceLeDiff, Nat.reduceLT, Nat.reduceMul, Nat.reduceSub, Int.reduceToNat, s77, Tryd.underlying26, fo89_5, sh3, Tryd.underlying3]
  refine FnK.val (rget_r R) ?_
  simp -implicitDefEqProofs (disch := first | omega | (simp only [h_szP, h_szS]; done) | (simp only [h_szP, h_szS]; omega)) only [go_sem, Nat.reduceBEq, reduceCtorEq, Nat.reduceAdd, Int.reduceEq, Int.reduceLT, Int.reduceLE, Int.reduceMul, Int.reduceAdd, Int.reduceSub, reduceIte, Nat.reduceLeDiff, Nat.reduceLT, Nat.reduceMul, Nat.reduceSub, Int.reduceToNat, s77, Tryd.underlying26, fo89_5, sh3, Tryd.underlying3, h1]
  refine FnK.val (rget_r R) ?_
  simp -implicitDefEqProofs (disch := first | omega | (simp only [h_szP, h_szS]; done) | (simp only [h_szP, h_szS]; omega)) only [go_sem, Nat.reduceBEq, reduceCtorEq, Nat.reduceAdd, Int.reduceEq, Int.reduceLT, Int.reduceLE, Int.reduceMul, Int.reduceAdd, Int.reduceSub, reduceIte, Nat.reduceLeDiff, Nat.reduceLT, Nat.reduceMul, Nat.reduceSub, Int.reduceToNat, s77, Tryd.underlying26, fo89_5, sh3, Tryd.underlying3, h1]
  exact Keeps.refl'
theorem rread_c {h : Heap} {m bn r : Nat} (R : Rt h m bn r) (n a b : Int) : Fn Tryd.prog 46 [ptr m 0, .int .i64 n, .int .i64 a, .int .i64 b] h fun x h' => x = .tuple #[.slice none 0 0, .int .i64 (if n = 1 then 21 else 2)] ∧ Keeps h.size h h' := by
  have z : ((if n = 1 then (21 : Int) else 2) = 0) = False := eq_false (by split <;> omega)
  refine Fn_c Tryd.func46 mixed c46 (by kernel_rfl) ?_; rw [r46]
  simp -implicitDefEqProofs (disch := first | omega | (simp only [h_szP, h_szS]; done) | (simp only [h_szP, h_szS]; omega)) only [go_sem, Nat.reduceBEq, reduceCtorEq, Nat.reduceAdd, Int.reduceEq, Int.reduceLT, Int.reduceLE, Int.reduceMul, Int.reduceAdd, Int.reduceSub, reduceIte, Nat.reduceLeDiff, Nat.reduceLT, Nat.reduceMul, Nat.reduceSub, Int.reduceToNat, s46, Tryd.underlying26, Tryd.underlying3, fo89_1, sh3, sl23, ze5, by5, sz5, fo89_3, sh23, Tryd.underlying23]
  refine FnK.use (bytes_c R n) ?_
  intro x h1 ⟨e1, K1⟩
  rw [e1]
  simp -implicitDefEqProofs (disch := first | omega | (simp only [h_szP, h_szS]; done) | (simp only [h_szP, h_szS]; omega)) only [go_sem, Nat.reduceBEq, reduceCtorEq, Nat.reduceAdd, Int.reduceEq, Int.reduceLT, Int.reduceLE, Int.reduceMul, Int.reduceAdd, Int.reduceSub, reduceIte, Nat.reduceLeDiff, Nat.reduceLT, Nat.reduceMul, Nat.reduceSub, Int.reduceToNat, s46, Tryd.underlying26, Tryd.underlying3, fo89_1, sh3, sl23, ze5, by5, sz5, fo89_3, sh23, Tryd.underlying23, z]
  exact K1
theorem rwrite_c {h : Heap} {m bn r : Nat} (R : Rt h m bn r) (n a : Int) (v : Value) : Fn Tryd.prog 47 [ptr m 0, .int .i64 n, .int .i64 a, v] h fun x h' => x = .tuple #[.int .i64 0, .int .i64 (if n = 1 then 21 else 2)] ∧ Keeps h.size h h' := by
  have z : ((if n = 1 then (21 : Int) else 2) = 0) = False := eq_false (by split <;> omega)
  refine Fn_c Tryd.func47 mixed c47 (by kernel_rfl) ?_; rw [r47]
  simp -implicitDefEqProofs (disch := first | omega | (simp only [h_szP, h_szS]; done) | (simp only [h_szP, h_szS]; omega)) only [go_sem, Nat.reduceBEq, reduceCtorEq, Nat.reduceAdd, Int.reduceEq, Int.reduceLT, Int.reduceLE, Int.reduceMul, Int.reduceAdd, Int.reduceSub, reduceIte, Nat.reduceLeDiff, Nat.reduceLT, Nat.reduceMul, Nat.reduceSub, Int.reduceToNat, s47, Tryd.underlying26, Tryd.underlying3, fo89_1, sh3, Tryd.underlying23, sl23, ze5, by5, sz5, fo89_3, sh23, sh5, sz23]
  refine FnK.use (bytes_c R n) ?_
  intro x h1 ⟨e1, K1⟩
  rw [e1]
  simp -implicitDefEqProofs (disch := first | omega | (simp only [h_szP, h_szS]; done) | (simp only [h_szP, h_szS]; omega)) only [go_sem, Nat.reduceBEq, reduceCtorEq, Nat.reduceAdd, Int.reduceEq, Int.reduceLT, Int.reduceLE, Int.reduceMul, Int.reduceAdd, Int.reduceSub, reduceIte, Nat.reduceLeDiff, Nat.reduceLT, Nat.reduceMul, Nat.reduceSub, Int.reduceToNat, s47, Tryd.underlying26, Tryd.underlying3, fo89_1, sh3, Tryd.underlying23, sl23, ze5, by5, sz5, fo89_3, sh23, sh5, sz23, z]
  exact K1
theorem rcut_c {h : Heap} {m bn r : Nat} (R : Rt h m bn r) (n a : Int) : Fn Tryd.prog 48 [ptr m 0, .int .i64 n, .int .i64 a] h fun x h' => x = .int .i64 (if n = 1 then 21 else 2) ∧ Keeps h.size h h' := by
  have z : ((if n = 1 then (21 : Int) else 2) = 0) = False := eq_false (by split <;> omega)
  refine Fn_c Tryd.func48 mixed c48 (by kernel_rfl) ?_; rw [r48]
  simp -implicitDefEqProofs (disch := first | omega | (simp only [h_szP, h_szS]; done) | (simp only [h_szP, h_szS]; omega)) only [go_sem, Nat.reduceBEq, reduceCtorEq, Nat.reduceAdd, Int.reduceEq, Int.reduceLT, Int.reduceLE, Int.reduceMul, Int.reduceAdd, Int.reduceSub, reduceIte, Nat.reduceLeDiff, Nat.reduceLT, Nat.reduceMul, Nat.reduceSub, Int.reduceToNat, s48, Tryd.underlying26, fo89_1, sh3, Tryd.underlying3, sl23, ze5, by5, sz5, fo89_3, sh23, Tryd.underlying23, sz23]
  refine FnK.use (bytes_c R n) ?_
  intro x h1 ⟨e1, K1⟩
  rw [e1]
  simp -implicitDefEqProofs (disch := first | omega | (simp only [h_szP, h_szS]; done) | (simp only [h_szP, h_szS]; omega)) only [go_sem, Nat.reduceBEq, reduceCtorEq, Nat.reduceAdd, Int.reduceEq, Int.reduceLT, Int.reduceLE, Int.reduceMul, Int.reduceAdd, Int.reduceSub, reduceIte, Nat.reduceLeDiff, Nat.reduceLT, Nat.reduceMul, Nat.reduceSub, Int.reduceToNat, s48, Tryd.underlying26, fo89_1, sh3, Tryd.underlying3, sl23, ze5, by5, sz5, fo89_3, sh23, Tryd.underlying23, sz23, z]
  exact K1
end Go.SX.G
