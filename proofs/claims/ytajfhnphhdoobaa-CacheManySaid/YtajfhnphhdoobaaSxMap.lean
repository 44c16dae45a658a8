/- Maps whose keys are integers, over heaps alone. No condition. -/
import Derived.Test.YtajfhnphhdoobaaSxHeap
set_option linter.unusedVariables false
set_option linter.unusedSimpArgs false
namespace Go.SX
open Go.RowKit
variable {P : Program}
theorem eraseIdx_map' {α β : Type} (f : α → β) : ∀ (xs : List α) (j : Nat), (xs.map f).eraseIdx j = (xs.eraseIdx j).map f
  | [], j => by simp
  | x :: xs, 0 => by simp
  | x :: xs, j + 1 => by simp [eraseIdx_map' f xs j]
section maps
variable {β : Type} {k : IntKind} {kf : β → Int} {vf : β → Value} {bf : β → Nat}
def ent (k : IntKind) (kf : β → Int) (vf : β → Value) (bf : β → Nat) (x : β) : MapEntry := ⟨.int k (kf x), vf x, bf x⟩
def entA (k : IntKind) (kf : β → Int) (vf : β → Value) (bf : β → Nat) (xs : List β) : Array MapEntry := (xs.map (ent k kf vf bf)).toArray
def fnd (kf : β → Int) (vf : β → Value) (n : Int) : List β → Nat → Option (Nat × Value)
  | [], _ => none
  | x :: xs, i => if n = kf x then some (i, vf x) else fnd kf vf n xs (i + 1)
theorem findNow_ent (k : IntKind) (n : Int) : ∀ (xs : List β) (i : Nat), Instr.findNow (.int k) (.int k n) (xs.map (ent k kf vf bf)) i = some (fnd kf vf n xs i)
  | [], i => rfl
  | x :: xs, i => by
    simp only [List.map_cons, Instr.findNow, ent, Instr.sameNow, if_true, fnd]
    by_cases h : n = kf x
    · simp [h]
    · have hb : (n == kf x) = false := by simpa using h
      rw [hb, if_neg h]
      exact findNow_ent k n xs (i + 1)
theorem fnd_none (n : Int) : ∀ (xs : List β) (i : Nat), (∀ x ∈ xs, kf x ≠ n) → fnd kf vf n xs i = none
  | [], i, _ => rfl
  | x :: xs, i, h => by
    simp only [fnd]
    rw [if_neg (fun e => h x (by simp) e.symm)]
    exact fnd_none n xs (i + 1) fun y hy => h y (by simp [hy])
theorem fnd_some (n : Int) : ∀ (xs : List β) (i : Nat) (j : Nat) (hj : j < xs.length), kf xs[j] = n → (∀ a (ha : a < j), kf (xs[a]'(by omega)) ≠ n) → fnd kf vf n xs i = some (i + j, vf xs[j])
  | [], i, j, hj, _, _ => by simp at hj
  | x :: xs, i, 0, _, h, _ => by
    simp only [fnd]
    simp at h
    rw [if_pos h.symm]; rfl
  | x :: xs, i, j + 1, hj, h, hb => by
    simp only [fnd]
    have h0 := hb 0 (by omega)
    simp at h0
    rw [if_neg (fun e => h0 e.symm)]
    have := fnd_some n xs (i + 1) j (by simpa using hj) (by simpa using h) (fun a ha => by have := hb (a + 1) (by omega); simpa using this)
    rw [this]
    simp; omega
/-- is there one, and where. -/
theorem fnd_cases (n : Int) (xs : List β) : (∀ x ∈ xs, kf x ≠ n) ∨ ∃ j, ∃ hj : j < xs.length, kf xs[j] = n ∧ ∀ a (ha : a < j), kf (xs[a]'(by omega)) ≠ n := by
  induction xs with
  | nil => left; intro x hx; cases hx
  | cons x xs ih =>
    by_cases h : kf x = n
    · right; exact ⟨0, by simp, h, fun a ha => by omega⟩
    · rcases ih with h1 | ⟨j, hj, h2, h3⟩
      · left; intro y hy; rcases List.mem_cons.1 hy with rfl | hy
        · exact h
        · exact h1 y hy
      · right; refine ⟨j + 1, by simpa using hj, h2, fun a ha => ?_⟩
        cases a with
        | zero => exact h
        | succ a => exact h3 a (by omega)
variable {h : Heap} {t tk te r c : Nat} {n : Int} {xs : List β} {z : Value}
theorem look_none (ht : P.underlying t = some (.map tk te)) (hk : P.underlying tk = some (.int k)) (hz : zeroP P te = some z) (hr : h[r]? = some (.map (entA k kf vf bf xs) c)) (hn : ∀ x ∈ xs, kf x ≠ n) (ok : Bool) :
    lookV P h t (.map (some r)) (.int k n) ok = some (if ok then .tuple #[z, .bool false] else z) := by
  simp only [lookV, ht, mapEs, hr, entA, Option.bind_some, hk, plainKey, if_true, findNow_ent, fnd_none n xs 0 hn, lookFin, hz, Option.map_some]
theorem look_some (ht : P.underlying t = some (.map tk te)) (hk : P.underlying tk = some (.int k)) (hr : h[r]? = some (.map (entA k kf vf bf xs) c)) {j : Nat} (hj : j < xs.length) (e : kf xs[j] = n) (hb : ∀ a (ha : a < j), kf (xs[a]'(by omega)) ≠ n) (ok : Bool) :
    lookV P h t (.map (some r)) (.int k n) ok = some (if ok then .tuple #[vf xs[j], .bool true] else vf xs[j]) := by
  simp only [lookV, ht, mapEs, hr, entA, Option.bind_some, hk, plainKey, if_true, findNow_ent, fnd_some n xs 0 j hj e hb, lookFin]
theorem mup_none {v : Value} {K : Heap → Prop} (ht : P.underlying t = some (.map tk te)) (hk : P.underlying tk = some (.int k)) (hr : h[r]? = some (.map (entA k kf vf bf xs) c)) (hn : ∀ x ∈ xs, kf x ≠ n) (x' : β) (hx : ent k kf vf bf x' = ⟨.int k n, v, c⟩)
    (K1 : K (h.setIfInBounds r (.map (entA k kf vf bf (xs ++ [x'])) (c + 1)))) : @mupK P h t (.map (some r)) (.int k n) v ⟨K⟩ := by
  unfold mupK mapUpW mapKD
  simp only [ht, hk, obind, plainKey, hr, true_and]
  simp only [entA, findNow_ent, fnd_none n xs 0 hn]
  simpa [entA, hx] using K1
theorem mup_some {v : Value} {K : Heap → Prop} (ht : P.underlying t = some (.map tk te)) (hk : P.underlying tk = some (.int k)) (hr : h[r]? = some (.map (entA k kf vf bf xs) c)) {j : Nat} (hj : j < xs.length) (e : kf xs[j] = n) (hb : ∀ a (ha : a < j), kf (xs[a]'(by omega)) ≠ n)
    (x' : β) (hx : ent k kf vf bf x' = ⟨.int k n, v, bf xs[j]⟩) (K1 : K (h.setIfInBounds r (.map (entA k kf vf bf (xs.set j x')) c))) : @mupK P h t (.map (some r)) (.int k n) v ⟨K⟩ := by
  unfold mupK mapUpW mapKD
  simp only [ht, hk, obind, plainKey, hr, true_and]
  simp only [entA, findNow_ent, fnd_some n xs 0 j hj e hb]
  have hm : ((xs.map (ent k kf vf bf)).toArray.modify (0 + j) fun e => { e with key := .int k n, val := v }) = entA k kf vf bf (xs.set j x') := by
    apply Array.ext_getElem?
    intro i
    simp only [entA, Nat.zero_add, Array.getElem?_modify, List.getElem?_toArray, List.getElem?_map, List.getElem?_set]
    by_cases hij : j = i
    · subst hij
      have hx' := hx
      simp only [ent, MapEntry.mk.injEq, Value.int.injEq, true_and] at hx'
      simp [hj, ent, hx'.1, hx'.2.1, hx'.2.2]
    · simp [hij]
  rw [hm]
  exact K1
theorem del_some {K : Value → Heap → Prop} (ht : P.underlying t = some (.map tk te)) (hk : P.underlying tk = some (.int k)) (hr : h[r]? = some (.map (entA k kf vf bf xs) c)) {j : Nat} (hj : j < xs.length) (e : kf xs[j] = n) (hb : ∀ a (ha : a < j), kf (xs[a]'(by omega)) ≠ n)
    (K1 : K (.tuple #[]) (h.setIfInBounds r (.map (entA k kf vf bf (xs.eraseIdx j)) c))) : @delK P h t (.map (some r)) (.int k n) ⟨K⟩ := by
  unfold delK deleteW mapKD
  simp only [ht, hk, obind, plainKey, hr, true_and]
  simp only [entA, findNow_ent, fnd_some n xs 0 j hj e hb]
  have hm : ((xs.map (ent k kf vf bf)).toArray.eraseIdxIfInBounds (0 + j)) = entA k kf vf bf (xs.eraseIdx j) := by
    simp [entA, Array.eraseIdxIfInBounds, hj, eraseIdx_map']
  rw [hm]
  exact K1
theorem del_none {K : Value → Heap → Prop} (ht : P.underlying t = some (.map tk te)) (hk : P.underlying tk = some (.int k)) (hr : h[r]? = some (.map (entA k kf vf bf xs) c)) (hn : ∀ x ∈ xs, kf x ≠ n)
    (K1 : K (.tuple #[]) (h.setIfInBounds r (.map (entA k kf vf bf xs) c))) : @delK P h t (.map (some r)) (.int k n) ⟨K⟩ := by
  unfold delK deleteW mapKD
  simp only [ht, hk, obind, plainKey, hr, true_and]
  simp only [entA, findNow_ent, fnd_none n xs 0 hn]
  exact K1
theorem range_ent {K : Value → Heap → Prop} (ht : P.underlying t = some (.map tk te)) (hr : h[r]? = some (.map (entA k kf vf bf xs) c)) (K1 : K (ptr h.size 0) (h.push (.mapIter (some r) c #[] c))) : @rngK P h t (.map (some r)) ⟨K⟩ := by
  unfold rngK rangeW
  simp only [ht, hr]
  exact K1
theorem next_ent {K : Value → Heap → Prop} {it : Nat} {seen : Array Nat} (hit : h[it]? = some (.mapIter (some r) c seen c)) (hr : h[r]? = some (.map (entA k kf vf bf xs) c)) (hb : ∀ x ∈ xs, bf x < c)
    (Kend : (∀ x ∈ xs, bf x ∈ seen) → K (.tuple #[.bool false]) h)
    (Kone : ∀ x ∈ xs, bf x ∉ seen → K (.tuple #[.bool true, .int k (kf x), vf x]) (h.setIfInBounds it (.mapIter (some r) c (seen.push (bf x)) c))) : @nxtK h (ptr it 0) false ⟨K⟩ := by
  unfold nxtK nextW
  simp only [hit, hr]
  have hmem : ∀ e, e ∈ entA k kf vf bf xs ↔ ∃ x ∈ xs, ent k kf vf bf x = e := by intro e; simp [entA]
  refine ⟨fun e he => ?_, trivial, trivial, fun hall => Kend fun x hx => ?_, fun e he hn => ?_⟩
  · obtain ⟨x, hx, rfl⟩ := (hmem e).1 he
    exact hb x hx
  · exact hall (ent k kf vf bf x) ((hmem _).2 ⟨x, hx, rfl⟩)
  · obtain ⟨x, hx, rfl⟩ := (hmem e).1 he
    exact Kone x hx hn
theorem entry_ent {it : Nat} {seen : Array Nat} {x : β} (hit : h[it]? = some (.mapIter (some r) c (seen.push (bf x)) c)) (hr : h[r]? = some (.map (entA k kf vf bf xs) c)) (hx : x ∈ xs) (hp : xs.Pairwise fun a b => bf a ≠ bf b) :
    entV h (ptr it 0) = some (.tuple #[.int k (kf x), vf x]) := by
  have hf : ∀ (xs : List β), x ∈ xs → (xs.Pairwise fun a b => bf a ≠ bf b) → (xs.map (ent k kf vf bf)).find? (fun e => e.born == bf x) = some (ent k kf vf bf x) := by
    intro xs
    induction xs with
    | nil => intro h; cases h
    | cons y ys ih =>
      intro hm hp
      have hp' := List.pairwise_cons.1 hp
      rw [List.map_cons, List.find?_cons]
      rcases List.mem_cons.1 hm with rfl | hm'
      · simp [ent]
      · have hne := hp'.1 x hm'
        have : ((ent k kf vf bf y).born == bf x) = false := by simpa [ent] using hne
        rw [this]
        exact ih hm' hp'.2
  simp only [entV, hit, hr, Array.back?_push, Option.bind_some, if_true]
  have : (entA k kf vf bf xs).find? (fun e => e.born == bf x) = some (ent k kf vf bf x) := by
    rw [entA, List.find?_toArray]
    exact hf xs hx hp
  rw [this]
  rfl
end maps
end Go.SX
