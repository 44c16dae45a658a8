/- A tree of a root and files in it: what is looked up. No condition. -/
import Derived.Test.YthippanonfbboaaDoorByB
import Derived.Test.YthippanonfbboaaDoorNuPlain
set_option linter.unusedVariables false
set_option linter.unusedSimpArgs false
namespace Go.SX.G
open Go Go.SX Go.Proofs
set_option maxRecDepth 100000
set_option maxHeartbeats 1000000
/-- a name: n and a number. -/
def nm (k : Nat) : ByteArray := ⟨#[110]⟩ ++ udS k
theorem nm_beq : ∀ a, a < 20 → ∀ b, b < 20 → (nm a == nm b) = decide (a = b) := by decide +kernel
theorem nm_good : ∀ a, a < 20 → (nm a == ⟨#[]⟩) = false ∧ (nm a == ⟨#[46]⟩) = false ∧ (nm a == ⟨#[46, 46]⟩) = false ∧ (nm a).size ≤ 20 ∧ Lib.indexByte (nm a).data.toList (0 : Int).toNat.toUInt8 = -1 ∧ Lib.indexByte (nm a).data.toList (47 : Int).toNat.toUInt8 = -1 := by decide +kernel
def mE (r : Nat) (L : List NF) : List (Int × Value × Nat) := (1, ptr r 0, 0) :: L.map fun l => ((l.no : Int), ptr l.blk 0, l.born)
def eE (L : List NF) : List (ByteArray × Int × Int) := L.map fun l => (nm l.k, (l.no : Int), 1)
def fileC (dv : Value) (n : Int) : Array Value := #[.int .i64 1, .int .i64 0, dv, .slice none 0 0, .int .i64 0, .int .i64 n, .int .i64 0]
def rootC (ev : Value) : Array Value := #[.int .i64 2, .int .i64 493, .slice none 0 0, ev, .int .i64 1, .int .i64 0, .int .i64 0]
/-- a tree of a root and files in it. -/
structure NT (h : Heap) (lo t q r c : Nat) (ev : Value) (L : List NF) : Prop where
  ht : h[t]? = some (.cells #[.map (some q)] 72 (0, 0))
  hq : h[q]? = some (mpO (mE r L) c)
  hr : h[r]? = some (.cells (rootC ev) 69 (0, 0))
  he : Ss h lo ev 59 encEn 3 (eE L)
  hf : ∀ l ∈ L, h[l.blk]? = some (.cells (fileC l.dv 1) 69 (0, 0)) ∧ Ss h lo l.dv 5 encB 1 [l.x] ∧ l.blk ≠ r ∧ lo ≤ l.blk
  lt : lo ≤ t
  lq : lo ≤ q
  lr : lo ≤ r
  ap : Apart L
  hb : ∀ l ∈ L, 2 ≤ l.no ∧ l.k < 20 ∧ l.x < 256
theorem Ss.ne {α : Type} {size : Nat} {enc : α → List Value} {h : Heap} {lo e b : Nat} {v : Value} {xs : List α} {o : Obj} (S : Ss h lo v e enc size xs) (hb : h[b]? = some o) (ho : ∀ cs f, o ≠ .cells cs e f) : blk v ≠ some b := by
  intro q
  rcases S.2 with ⟨e, _⟩ | ⟨b', cap, e, _, _, rest, hB, _⟩
  · rw [e] at q; simp [blk] at q
  · rw [e] at q
    simp only [blk, Option.some.injEq] at q
    subst q
    rw [hb] at hB
    exact ho _ _ (Option.some.inj hB)
theorem Ss.cells {α : Type} {size : Nat} {enc : α → List Value} {h : Heap} {lo e b : Nat} {v : Value} {xs : List α} (S : Ss h lo v e enc size xs) (hb : blk v = some b) : ∃ cs, h[b]? = some (.cells cs e (0, 0)) := by
  rcases S.2 with ⟨e, _⟩ | ⟨b', cap, e, _, _, rest, hB, _⟩
  · rw [e] at hb; simp [blk] at hb
  · rw [e] at hb
    simp only [blk, Option.some.injEq] at hb
    subst hb
    exact ⟨_, hB⟩
theorem Ss.apart {α β : Type} {size size' : Nat} {enc : α → List Value} {enc' : β → List Value} {h : Heap} {lo lo' e e' b : Nat} {v v' : Value} {xs : List α} {ys : List β} (S : Ss h lo v e enc size xs) (S' : Ss h lo' v' e' enc' size' ys) (hne : e ≠ e') (hb : blk v = some b) : blk v' ≠ some b := by
  obtain ⟨cs, hc⟩ := Ss.cells S hb
  exact Ss.ne S' hc fun cs f e1 => by injection e1 with _ e1 _; exact hne e1
theorem NT.mono {h h' : Heap} {lo t q r c : Nat} {ev : Value} {L : List NF} (R : NT h lo t q r c ev L) (kt : h'[t]? = h[t]?) (kq : h'[q]? = h[q]?) (kr : h'[r]? = h[r]?) (ke : ∀ b, blk ev = some b → h'[b]? = h[b]?)
    (kf : ∀ l ∈ L, h'[l.blk]? = h[l.blk]? ∧ ∀ b, blk l.dv = some b → h'[b]? = h[b]?) : NT h' lo t q r c ev L :=
  ⟨kt.trans R.ht, kq.trans R.hq, kr.trans R.hr, R.he.mono ke, fun l hl => ⟨(kf l hl).1.trans (R.hf l hl).1, (R.hf l hl).2.1.mono (kf l hl).2, (R.hf l hl).2.2⟩, R.lt, R.lq, R.lr, R.ap, R.hb⟩
theorem NT.ext {h h' : Heap} {lo t q r c : Nat} {ev : Value} {L : List NF} (R : NT h lo t q r c ev L) (k : Keeps h.size h h') : NT h' lo t q r c ev L :=
  R.mono (k.old _ (getElem?_lt R.ht)) (k.old _ (getElem?_lt R.hq)) (k.old _ (getElem?_lt R.hr)) (fun b hb => k.old b (R.he.vs.blk_lt hb)) fun l hl => ⟨k.old _ (getElem?_lt (R.hf l hl).1), fun b hb => k.old b ((R.hf l hl).2.1.vs.blk_lt hb)⟩
/-- what is of no type of the tree's is none of its blocks. -/
theorem NT.other {h h' : Heap} {lo t q r c b e : Nat} {ev : Value} {L : List NF} {C : Array Value} {ff : Nat × Nat} (R : NT h lo t q r c ev L) (hb : h[b]? = some (.cells C e ff)) (he : e ≠ 72 ∧ e ≠ 69 ∧ e ≠ 59 ∧ e ≠ 5) (k : ∀ x, x < h.size → x ≠ b → h'[x]? = h[x]?) : NT h' lo t q r c ev L := by
  refine R.mono (k _ (getElem?_lt R.ht) fun q => ?_) (k _ (getElem?_lt R.hq) fun q => ?_) (k _ (getElem?_lt R.hr) fun q => ?_) (fun x hx => k x (R.he.vs.blk_lt hx) fun q => ?_) fun l hl => ⟨k _ (getElem?_lt (R.hf l hl).1) fun q => ?_, fun x hx => k x ((R.hf l hl).2.1.vs.blk_lt hx) fun q => ?_⟩
  · have := R.ht; rw [q, hb] at this; injection this with this; injection this with _ e1 _; exact he.1 e1
  · have := R.hq; rw [q, hb] at this; simp [mpO] at this
  · have := R.hr; rw [q, hb] at this; injection this with this; injection this with _ e1 _; exact he.2.1 e1
  · subst q; exact Ss.ne R.he hb (fun cs f e1 => by injection e1 with _ e1 _; exact he.2.2.1 e1) hx
  · have := (R.hf l hl).1; rw [q, hb] at this; injection this with this; injection this with _ e1 _; exact he.2.1 e1
  · subst q; exact Ss.ne (R.hf l hl).2.1 hb (fun cs f e1 => by injection e1 with _ e1 _; exact he.2.2.2 e1) hx
theorem NT.len {h : Heap} {lo t q r c : Nat} {ev : Value} {L : List NF} (R : NT h lo t q r c ev L) : L.length ≤ 20 := R.ap.len fun l hl => (R.hb l hl).2.1
theorem mE_get {r i : Nat} {L : List NF} (hi : i < L.length) : (mE r L)[i + 1]'(by simp [mE]; omega) = ((L[i].no : Int), ptr L[i].blk 0, L[i].born) := by simp [mE]
theorem mE_before {r i : Nat} {L : List NF} (h : Apart L) (h2 : ∀ l ∈ L, 2 ≤ l.no) (hi : i < L.length) (a : Nat) (ha : a < i + 1) : ((mE r L)[a]'(by simp [mE]; omega)).1 ≠ (L[i].no : Int) := by
  cases a with
  | zero =>
    have := h2 _ (List.getElem_mem hi)
    show (1 : Int) ≠ _
    omega
  | succ a =>
    have h3 := mE_get (r := r) (L := L) (i := a) (by omega)
    rw [h3]
    have := (List.pairwise_iff_getElem.1 h) a i (by omega) hi (by omega)
    intro e
    have e' : (L[a].no : Int) = L[i].no := e
    exact this.1 (by omega)
theorem mE_erase {r i : Nat} {L : List NF} : (mE r L).eraseIdx (i + 1) = mE r (L.eraseIdx i) := by
  unfold mE
  rw [List.eraseIdx_cons_succ, eraseIdx_map']
theorem getr_c {h : Heap} {lo t q r c : Nat} {ev : Value} {L : List NF} (R : NT h lo t q r c ev L) : Fn Tryd.prog 29 [ptr t 0, .int .i64 1] h fun x h' => x = ptr r 0 ∧ h' = h := by
  have h1 := R.ht
  refine Fn_c Tryd.func29 mixed c29 (by kernel_rfl) ?_; rw [r29]
  simp -implicitDefEqProofs (disch := first | omega | (simp only [h_szP, h_szS]; done) | (simp only [h_szP, h_szS]; omega)) only [go_sem, Nat.reduceBEq, reduceCtorEq, Nat.reduceAdd, Int.reduceEq, Int.reduceLT, Int.reduceLE, Int.reduceMul, Int.reduceAdd, Int.reduceSub, reduceIte, Nat.reduceLeDiff, Nat.reduceLT, Nat.reduceMul, Nat.reduceSub, Int.reduceToNat, s29, Tryd.underlying25, fo72_0, sh70, Tryd.underlying70, Tryd.underlying3, ze67, h1]
  refine obK.use _ (look_some Tryd.underlying70 Tryd.underlying3 R.hq (j := 0) (by simp [mE]) rfl (fun a ha => absurd ha (by omega)) false) ?_
  simp -implicitDefEqProofs (disch := first | omega | (simp only [h_szP, h_szS]; done) | (simp only [h_szP, h_szS]; omega)) only [go_sem, Nat.reduceBEq, reduceCtorEq, Nat.reduceAdd, Int.reduceEq, Int.reduceLT, Int.reduceLE, Int.reduceMul, Int.reduceAdd, Int.reduceSub, reduceIte, Nat.reduceLeDiff, Nat.reduceLT, Nat.reduceMul, Nat.reduceSub, Int.reduceToNat, s29, Tryd.underlying25, fo72_0, sh70, Tryd.underlying70, Tryd.underlying3, ze67, h1]
  rfl
theorem getl_c {h : Heap} {lo t q r c i : Nat} {ev : Value} {L : List NF} (R : NT h lo t q r c ev L) (hi : i < L.length) : Fn Tryd.prog 29 [ptr t 0, .int .i64 L[i].no] h fun x h' => x = ptr L[i].blk 0 ∧ h' = h := by
  have h1 := R.ht
  refine Fn_c Tryd.func29 mixed c29 (by kernel_rfl) ?_; rw [r29]
  simp -implicitDefEqProofs (disch := first | omega | (simp only [h_szP, h_szS]; done) | (simp only [h_szP, h_szS]; omega)) only [go_sem, Nat.reduceBEq, reduceCtorEq, Nat.reduceAdd, Int.reduceEq, Int.reduceLT, Int.reduceLE, Int.reduceMul, Int.reduceAdd, Int.reduceSub, reduceIte, Nat.reduceLeDiff, Nat.reduceLT, Nat.reduceMul, Nat.reduceSub, Int.reduceToNat, s29, Tryd.underlying25, fo72_0, sh70, Tryd.underlying70, Tryd.underlying3, ze67, h1]
  refine obK.use _ (look_some Tryd.underlying70 Tryd.underlying3 R.hq (j := i + 1) (by simp [mE]; omega) (by rw [mE_get hi]) (mE_before R.ap (fun l hl => (R.hb l hl).1) hi) false) ?_
  rw [mE_get hi]
  simp -implicitDefEqProofs (disch := first | omega | (simp only [h_szP, h_szS]; done) | (simp only [h_szP, h_szS]; omega)) only [go_sem, Nat.reduceBEq, reduceCtorEq, Nat.reduceAdd, Int.reduceEq, Int.reduceLT, Int.reduceLE, Int.reduceMul, Int.reduceAdd, Int.reduceSub, reduceIte, Nat.reduceLeDiff, Nat.reduceLT, Nat.reduceMul, Nat.reduceSub, Int.reduceToNat, s29, Tryd.underlying25, fo72_0, sh70, Tryd.underlying70, Tryd.underlying3, ze67, h1]
theorem dirr_c {h : Heap} {lo t q r c : Nat} {ev : Value} {L : List NF} (R : NT h lo t q r c ev L) : Fn Tryd.prog 36 [ptr t 0, .int .i64 1] h fun x h' => x = .tuple #[ptr r 0, .int .i64 0] ∧ h' = h := by
  have h1 := R.hr
  unfold rootC at h1
  refine Fn_c Tryd.func36 mixed c36 (by kernel_rfl) ?_; rw [r36]
  simp -implicitDefEqProofs (disch := first | omega | (simp only [h_szP, h_szS]; done) | (simp only [h_szP, h_szS]; omega)) only [go_sem, Nat.reduceBEq, reduceCtorEq, Nat.reduceAdd, Int.reduceEq, Int.reduceLT, Int.reduceLE, Int.reduceMul, Int.reduceAdd, Int.reduceSub, reduceIte, Nat.reduceLeDiff, Nat.reduceLT, Nat.reduceMul, Nat.reduceSub, Int.reduceToNat, s36, Tryd.underlying67, fo69_0, sh3, Tryd.underlying3]
  refine FnK.val (getr_c R) ?_
  simp -implicitDefEqProofs (disch := first | omega | (simp only [h_szP, h_szS]; done) | (simp only [h_szP, h_szS]; omega)) only [go_sem, Nat.reduceBEq, reduceCtorEq, Nat.reduceAdd, Int.reduceEq, Int.reduceLT, Int.reduceLE, Int.reduceMul, Int.reduceAdd, Int.reduceSub, reduceIte, Nat.reduceLeDiff, Nat.reduceLT, Nat.reduceMul, Nat.reduceSub, Int.reduceToNat, s36, Tryd.underlying67, fo69_0, sh3, Tryd.underlying3, h1]
theorem plainl_c {h : Heap} {lo t q r c i : Nat} {ev : Value} {L : List NF} (R : NT h lo t q r c ev L) (hi : i < L.length) : Fn Tryd.prog 33 [ptr t 0, .int .i64 L[i].no] h fun x h' => x = .tuple #[ptr L[i].blk 0, .int .i64 0] ∧ h' = h := by
  have h1 := (R.hf _ (List.getElem_mem hi)).1
  unfold fileC at h1
  refine Fn_c Tryd.func33 mixed c33 (by kernel_rfl) ?_; rw [r33]
  simp -implicitDefEqProofs (disch := first | omega | (simp only [h_szP, h_szS]; done) | (simp only [h_szP, h_szS]; omega)) only [go_sem, Nat.reduceBEq, reduceCtorEq, Nat.reduceAdd, Int.reduceEq, Int.reduceLT, Int.reduceLE, Int.reduceMul, Int.reduceAdd, Int.reduceSub, reduceIte, Nat.reduceLeDiff, Nat.reduceLT, Nat.reduceMul, Nat.reduceSub, Int.reduceToNat, s33, Tryd.underlying67, fo69_0, sh3, Tryd.underlying3]
  refine FnK.val (getl_c R hi) ?_
  simp -implicitDefEqProofs (disch := first | omega | (simp only [h_szP, h_szS]; done) | (simp only [h_szP, h_szS]; omega)) only [go_sem, Nat.reduceBEq, reduceCtorEq, Nat.reduceAdd, Int.reduceEq, Int.reduceLT, Int.reduceLE, Int.reduceMul, Int.reduceAdd, Int.reduceSub, reduceIte, Nat.reduceLeDiff, Nat.reduceLT, Nat.reduceMul, Nat.reduceSub, Int.reduceToNat, s33, Tryd.underlying67, fo69_0, sh3, Tryd.underlying3, h1]
/-- what IndexFunc answers. -/
def Hit {α : Type} (p : α → Bool) (es : List α) (z : Int) : Prop := (z = -1 ∧ ∀ e ∈ es, p e = false) ∨ ∃ i, ∃ hi : i < es.length, z = (i : Int) ∧ p es[i] = true
theorem idxF_c {h : Heap} {v : Value} {es : List (ByteArray × Int × Int)} {g : Nat} {cap : Array Value} (p : ByteArray × Int × Int → Bool) (hv : Vs h v encEn 3 es) (hl : es.length ≤ 4000000000)
    (hg : ∀ e ∈ es, ∀ h1, Keeps h.size h h1 → Fn Tryd.prog g ([.agg #[.string e.1, .int .i64 e.2.1, .int .i64 e.2.2]] ++ cap.toList) h1 fun x h' => x = .bool (p e) ∧ Keeps h1.size h1 h') :
    Fn Tryd.prog 63 [v, .func (.func g) #[] cap] h fun x h' => (∃ z, x = .int .i64 z ∧ Hit p es z) ∧ Keeps h.size h h' := by
  obtain ⟨a, cap', e1, hcap⟩ := hv.shape
  subst e1
  refine Fn_c Tryd.func63 mixed c63 (by kernel_rfl) ?_; rw [r63]
  simp -implicitDefEqProofs (disch := first | omega | (simp only [h_szP, h_szS]; done) | (simp only [h_szP, h_szS]; omega)) only [go_sem, Nat.reduceBEq, reduceCtorEq, Nat.reduceAdd, Int.reduceEq, Int.reduceLT, Int.reduceLE, Int.reduceMul, Int.reduceAdd, Int.reduceSub, reduceIte, Nat.reduceLeDiff, Nat.reduceLT, Nat.reduceMul, Nat.reduceSub, Int.reduceToNat, s63, Tryd.underlying55, sl55, ze59, by59, sz59, Tryd.underlying3, sh59]
  refine LoopK.use (fun k fr h1 => ∃ i, i + k = es.length ∧ Keeps h.size h h1 ∧ (∀ j (hj : j < es.length), j < i → p es[j] = false) ∧
      fr = ((((fr0.up 8 (.int .i64 i)).up 7 (.int .i64 es.length)).up 1 (.func (.func g) #[] cap)).up 0 (.slice a es.length cap'))) es.length ?_ ?_
  · exact ⟨0, by omega, Keeps.refl' , fun j _ h => by omega, rfl⟩
  · intro k fr h1 hI
    obtain ⟨i, hk, K1, hb, hf⟩ := hI
    subst hf
    by_cases hi : i < es.length
    · obtain ⟨b, o, cap2, e1, hcap2, hbl⟩ := hv.open hi
      cases e1
      obtain ⟨r, hr⟩ : ∃ r, r = es[i] := ⟨_, rfl⟩
      have hE : cellsO (o + i * 3) 3 h[b]? = some [.string r.1, .int .i64 r.2.1, .int .i64 r.2.2] := by rw [hr]; exact hv.elem encEn_len hi
      have hE' := K1.old b hbl
      have hlt : decide ((i : Int) < es.length) = true := decide_eq_true (by omega)
      have hgr := hg r (by rw [hr]; exact List.getElem_mem hi) h1 K1
      simp -implicitDefEqProofs (disch := first | omega | (simp only [h_szP, h_szS]; done) | (simp only [h_szP, h_szS]; omega)) only [go_sem, Nat.reduceBEq, reduceCtorEq, Nat.reduceAdd, Int.reduceEq, Int.reduceLT, Int.reduceLE, Int.reduceMul, Int.reduceAdd, Int.reduceSub, reduceIte, Nat.reduceLeDiff, Nat.reduceLT, Nat.reduceMul, Nat.reduceSub, Int.reduceToNat, s63, Tryd.underlying55, sl55, ze59, by59, sz59, Tryd.underlying3, sh59, hE', hE, hlt]
      refine FnK.use hgr ?_
      intro x h2 hx
      obtain ⟨e1, K2⟩ := hx
      rw [e1]
      have K3 := K1.of_ext K2 (Nat.le_refl _)
      cases hp : p r with
      | true =>
        simp -implicitDefEqProofs (disch := first | omega | (simp only [h_szP, h_szS]; done) | (simp only [h_szP, h_szS]; omega)) only [go_sem, Nat.reduceBEq, reduceCtorEq, Nat.reduceAdd, Int.reduceEq, Int.reduceLT, Int.reduceLE, Int.reduceMul, Int.reduceAdd, Int.reduceSub, reduceIte, Nat.reduceLeDiff, Nat.reduceLT, Nat.reduceMul, Nat.reduceSub, Int.reduceToNat, s63, Tryd.underlying55, sl55, ze59, by59, sz59, Tryd.underlying3, sh59]
        rw [hr] at hp
        exact ⟨⟨_, rfl, .inr ⟨i, hi, rfl, hp⟩⟩, K3⟩
      | false =>
        simp -implicitDefEqProofs (disch := first | omega | (simp only [h_szP, h_szS]; done) | (simp only [h_szP, h_szS]; omega)) only [go_sem, Nat.reduceBEq, reduceCtorEq, Nat.reduceAdd, Int.reduceEq, Int.reduceLT, Int.reduceLE, Int.reduceMul, Int.reduceAdd, Int.reduceSub, reduceIte, Nat.reduceLeDiff, Nat.reduceLT, Nat.reduceMul, Nat.reduceSub, Int.reduceToNat, s63, Tryd.underlying55, sl55, ze59, by59, sz59, Tryd.underlying3, sh59]
        rw [hr] at hp
        refine ⟨k - 1, by omega, i + 1, by omega, K3, fun j hj hji => ?_, rfl⟩
        by_cases hji' : j = i
        · subst hji'; exact hp
        · exact hb j hj (by omega)
    · have e1 : i = es.length := by omega
      subst e1
      simp -implicitDefEqProofs (disch := first | omega | (simp only [h_szP, h_szS]; done) | (simp only [h_szP, h_szS]; omega)) only [go_sem, Nat.reduceBEq, reduceCtorEq, Nat.reduceAdd, Int.reduceEq, Int.reduceLT, Int.reduceLE, Int.reduceMul, Int.reduceAdd, Int.reduceSub, reduceIte, Nat.reduceLeDiff, Nat.reduceLT, Nat.reduceMul, Nat.reduceSub, Int.reduceToNat, s63, Tryd.underlying55, sl55, ze59, by59, sz59, Tryd.underlying3, sh59]
      refine ⟨⟨_, rfl, .inl ⟨rfl, fun e he => ?_⟩⟩, K1⟩
      obtain ⟨j, hj, rfl⟩ := List.mem_iff_getElem.1 he
      exact hb j hj hj
theorem fat1_c {h : Heap} {bc : Nat} {s : ByteArray} {f : Nat × Nat} {t : Nat} (e : ByteArray × Int × Int) (hb : h[bc]? = some (.cells #[.string s] t f)) :
    Fn Tryd.prog 64 [.agg #[.string e.1, .int .i64 e.2.1, .int .i64 e.2.2], ptr bc 0] h fun x h' => x = .bool (e.1 == s) ∧ Keeps h.size h h' := by
  have hlt := getElem?_lt hb
  have kp : ∀ o, Keeps h.size h (h.push o) := fun o => Keeps.push h o (Nat.le_refl _)
  refine Fn_c Tryd.func64 mixed c64 (by kernel_rfl) ?_; rw [r64]
  simp -implicitDefEqProofs (disch := first | omega | (simp only [h_szP, h_szS]; done) | (simp only [h_szP, h_szS]; omega)) only [go_sem, Nat.reduceBEq, reduceCtorEq, Nat.reduceAdd, Int.reduceEq, Int.reduceLT, Int.reduceLE, Int.reduceMul, Int.reduceAdd, Int.reduceSub, reduceIte, Nat.reduceLeDiff, Nat.reduceLT, Nat.reduceMul, Nat.reduceSub, Int.reduceToNat, s64, fo59_0, sh9, Tryd.underlying9, hb, s_eql]
  repeat' first | intro _ | refine And.intro ?_ ?_
  all_goals first | exact kp _ | rfl
theorem fat_c {h : Heap} {lo t q r c : Nat} {ev : Value} {L : List NF} (R : NT h lo t q r c ev L) (s : ByteArray) :
    Fn Tryd.prog 37 [ptr r 0, .string s] h fun x h' => (∃ z, x = .int .i64 z ∧ Hit (fun e => e.1 == s) (eE L) z) ∧ Keeps h.size h h' := by
  have h1 := R.hr
  unfold rootC at h1
  have l1 := getElem?_lt h1
  have hl := R.len
  have K1 : Keeps h.size h (h.push (.cells #[.string s] 9)) := Keeps.push _ _ (Nat.le_refl _)
  refine Fn_c Tryd.func37 mixed c37 (by kernel_rfl) ?_; rw [r37]
  simp -implicitDefEqProofs (disch := first | omega | (simp only [h_szP, h_szS]; done) | (simp only [h_szP, h_szS]; omega)) only [go_sem, Nat.reduceBEq, reduceCtorEq, Nat.reduceAdd, Int.reduceEq, Int.reduceLT, Int.reduceLE, Int.reduceMul, Int.reduceAdd, Int.reduceSub, reduceIte, Nat.reduceLeDiff, Nat.reduceLT, Nat.reduceMul, Nat.reduceSub, Int.reduceToNat, s37, fo69_3, sh55, h1]
  refine FnK.use (idxF_c (fun e => e.1 == s) (R.he.vs.ext K1) (by simp [eE]; omega) ?_) ?_
  · intro e he h2 K2
    exact fat1_c (t := 9) (f := (0, 0)) e (by rw [K2.old _ (by simp)]; exact h_pushE _ _ _ rfl)
  · intro x h2 ⟨⟨z, e1, hz⟩, K2⟩
    rw [e1]
    simp -implicitDefEqProofs (disch := first | omega | (simp only [h_szP, h_szS]; done) | (simp only [h_szP, h_szS]; omega)) only [go_sem, Nat.reduceBEq, reduceCtorEq, Nat.reduceAdd, Int.reduceEq, Int.reduceLT, Int.reduceLE, Int.reduceMul, Int.reduceAdd, Int.reduceSub, reduceIte, Nat.reduceLeDiff, Nat.reduceLT, Nat.reduceMul, Nat.reduceSub, Int.reduceToNat, s37, fo69_3, sh55]
    exact ⟨⟨z, rfl, hz⟩, K1.trans (K2.le (by simp))⟩
theorem hit_of {h : Heap} {lo t q r c k i : Nat} {ev : Value} {L : List NF} {z : Int} (R : NT h lo t q r c ev L) (hi : i < L.length) (hk : L[i].k = k) (H : Hit (fun e => e.1 == nm k) (eE L) z) : z = i := by
  have hk20 := (R.hb _ (List.getElem_mem hi)).2.1
  rcases H with ⟨_, hn⟩ | ⟨j, hj, rfl, hp⟩
  · have := hn (nm L[i].k, (L[i].no : Int), 1) (List.mem_map.2 ⟨_, List.getElem_mem hi, rfl⟩)
    rw [hk] at this hk20
    have h2 := nm_beq k hk20 k hk20
    have this : (nm k == nm k) = false := this
    rw [this] at h2
    simp at h2
  · have hj' : j < L.length := by simpa [eE] using hj
    simp only [eE, List.getElem_map] at hp
    rw [hk] at hk20
    rw [nm_beq _ (R.hb _ (List.getElem_mem hj')).2.1 _ hk20] at hp
    have e := of_decide_eq_true hp
    by_cases q : j = i
    · rw [q]
    · exfalso
      rcases Nat.lt_or_gt_of_ne q with q | q
      · exact ((List.pairwise_iff_getElem.1 R.ap) j i hj' hi q).2.2 (e.trans hk.symm)
      · exact ((List.pairwise_iff_getElem.1 R.ap) i j hi hj' q).2.2 (hk.trans e.symm)
theorem miss_of {h : Heap} {lo t q r c k : Nat} {ev : Value} {L : List NF} {z : Int} (R : NT h lo t q r c ev L) (hk : k < 20) (hf : ∀ l ∈ L, l.k ≠ k) (H : Hit (fun e => e.1 == nm k) (eE L) z) : z = -1 := by
  rcases H with ⟨e, _⟩ | ⟨j, hj, rfl, hp⟩
  · exact e
  · have hj' : j < L.length := by simpa [eE] using hj
    simp only [eE, List.getElem_map] at hp
    rw [nm_beq _ (R.hb _ (List.getElem_mem hj')).2.1 _ hk] at hp
    exact absurd (of_decide_eq_true hp) (hf _ (List.getElem_mem hj'))
theorem goodn_c (h : Heap) {k : Nat} (hk : k < 20) : Fn Tryd.prog 22 [.string (nm k)] h fun v h' => v = .bool true ∧ h' = h := by
  obtain ⟨n1, n2, n3, n4, i0, i1⟩ := nm_good k hk
  have n5 : decide (((nm k).size : Int) ≤ 255) = true := decide_eq_true (by omega)
  refine Fn_c Tryd.func22 mixed c22 (by kernel_rfl) ?_; rw [r22]
  simp -implicitDefEqProofs (disch := first | omega | (simp only [h_szP, h_szS]; done) | (simp only [h_szP, h_szS]; omega)) only [go_sem, Nat.reduceBEq, reduceCtorEq, Nat.reduceAdd, Int.reduceEq, Int.reduceLT, Int.reduceLE, Int.reduceMul, Int.reduceAdd, Int.reduceSub, reduceIte, Nat.reduceLeDiff, Nat.reduceLT, Nat.reduceMul, Nat.reduceSub, Int.reduceToNat, s22, Tryd.underlying9, Tryd.underlying3, s_neq, n1, n2, n3, n5]
  refine FnK.val (ixb_c _ 0 h) ?_
  rw [i0]
  simp -implicitDefEqProofs (disch := first | omega | (simp only [h_szP, h_szS]; done) | (simp only [h_szP, h_szS]; omega)) only [go_sem, Nat.reduceBEq, reduceCtorEq, Nat.reduceAdd, Int.reduceEq, Int.reduceLT, Int.reduceLE, Int.reduceMul, Int.reduceAdd, Int.reduceSub, reduceIte, Nat.reduceLeDiff, Nat.reduceLT, Nat.reduceMul, Nat.reduceSub, Int.reduceToNat, s22, Tryd.underlying9, Tryd.underlying3]
  refine FnK.val (ixb_c _ 47 h) ?_
  rw [i1]
  simp -implicitDefEqProofs (disch := first | omega | (simp only [h_szP, h_szS]; done) | (simp only [h_szP, h_szS]; omega)) only [go_sem, Nat.reduceBEq, reduceCtorEq, Nat.reduceAdd, Int.reduceEq, Int.reduceLT, Int.reduceLE, Int.reduceMul, Int.reduceAdd, Int.reduceSub, reduceIte, Nat.reduceLeDiff, Nat.reduceLT, Nat.reduceMul, Nat.reduceSub, Int.reduceToNat, s22, Tryd.underlying9, Tryd.underlying3]
theorem deadr_c {h : Heap} {lo t q r c : Nat} {ev : Value} {L : List NF} (R : NT h lo t q r c ev L) : Fn Tryd.prog 34 [ptr r 0] h fun x h' => x = .bool false ∧ h' = h := by
  have h1 := R.hr
  unfold rootC at h1
  refine Fn_c Tryd.func34 mixed c34 (by kernel_rfl) ?_; rw [r34]
  simp -implicitDefEqProofs (disch := first | omega | (simp only [h_szP, h_szS]; done) | (simp only [h_szP, h_szS]; omega)) only [go_sem, Nat.reduceBEq, reduceCtorEq, Nat.reduceAdd, Int.reduceEq, Int.reduceLT, Int.reduceLE, Int.reduceMul, Int.reduceAdd, Int.reduceSub, reduceIte, Nat.reduceLeDiff, Nat.reduceLT, Nat.reduceMul, Nat.reduceSub, Int.reduceToNat, s34, fo69_0, sh3, Tryd.underlying3, fo69_4, h1]
theorem placen_c {h : Heap} {lo t q r c k : Nat} {ev : Value} {L : List NF} (R : NT h lo t q r c ev L) (hk : k < 20) (hf : ∀ l ∈ L, l.k ≠ k) : Fn Tryd.prog 28 [ptr t 0, .int .i64 1, .string (nm k)] h fun x h' => x = .tuple #[ptr r 0, .int .i64 0] ∧ Keeps h.size h h' := by
  obtain ⟨n1, n2, n3, n4, i0, i1⟩ := nm_good k hk
  refine Fn_c Tryd.func28 mixed c28 (by kernel_rfl) ?_; rw [r28]
  simp -implicitDefEqProofs (disch := first | omega | (simp only [h_szP, h_szS]; done) | (simp only [h_szP, h_szS]; omega)) only [go_sem, Nat.reduceBEq, reduceCtorEq, Nat.reduceAdd, Int.reduceEq, Int.reduceLT, Int.reduceLE, Int.reduceMul, Int.reduceAdd, Int.reduceSub, reduceIte, Nat.reduceLeDiff, Nat.reduceLT, Nat.reduceMul, Nat.reduceSub, Int.reduceToNat, s28, Tryd.underlying26, Tryd.underlying9, Tryd.underlying3]
  refine FnK.val (dirr_c R) ?_
  simp -implicitDefEqProofs (disch := first | omega | (simp only [h_szP, h_szS]; done) | (simp only [h_szP, h_szS]; omega)) only [go_sem, Nat.reduceBEq, reduceCtorEq, Nat.reduceAdd, Int.reduceEq, Int.reduceLT, Int.reduceLE, Int.reduceMul, Int.reduceAdd, Int.reduceSub, reduceIte, Nat.reduceLeDiff, Nat.reduceLT, Nat.reduceMul, Nat.reduceSub, Int.reduceToNat, s28, Tryd.underlying26, Tryd.underlying9, Tryd.underlying3, s_eql, n2, n3]
  refine FnK.val (goodn_c h hk) ?_
  simp -implicitDefEqProofs (disch := first | omega | (simp only [h_szP, h_szS]; done) | (simp only [h_szP, h_szS]; omega)) only [go_sem, Nat.reduceBEq, reduceCtorEq, Nat.reduceAdd, Int.reduceEq, Int.reduceLT, Int.reduceLE, Int.reduceMul, Int.reduceAdd, Int.reduceSub, reduceIte, Nat.reduceLeDiff, Nat.reduceLT, Nat.reduceMul, Nat.reduceSub, Int.reduceToNat, s28, Tryd.underlying26, Tryd.underlying9, Tryd.underlying3]
  refine FnK.use (fat_c R _) ?_
  intro x h1 ⟨⟨z, e1, hz⟩, K1⟩
  rw [e1, miss_of R hk hf hz]
  simp -implicitDefEqProofs (disch := first | omega | (simp only [h_szP, h_szS]; done) | (simp only [h_szP, h_szS]; omega)) only [go_sem, Nat.reduceBEq, reduceCtorEq, Nat.reduceAdd, Int.reduceEq, Int.reduceLT, Int.reduceLE, Int.reduceMul, Int.reduceAdd, Int.reduceSub, reduceIte, Nat.reduceLeDiff, Nat.reduceLT, Nat.reduceMul, Nat.reduceSub, Int.reduceToNat, s28, Tryd.underlying26, Tryd.underlying9, Tryd.underlying3]
  refine FnK.val (deadr_c (R.ext K1)) ?_
  simp -implicitDefEqProofs (disch := first | omega | (simp only [h_szP, h_szS]; done) | (simp only [h_szP, h_szS]; omega)) only [go_sem, Nat.reduceBEq, reduceCtorEq, Nat.reduceAdd, Int.reduceEq, Int.reduceLT, Int.reduceLE, Int.reduceMul, Int.reduceAdd, Int.reduceSub, reduceIte, Nat.reduceLeDiff, Nat.reduceLT, Nat.reduceMul, Nat.reduceSub, Int.reduceToNat, s28, Tryd.underlying26, Tryd.underlying9, Tryd.underlying3]
  exact K1
end Go.SX.G
