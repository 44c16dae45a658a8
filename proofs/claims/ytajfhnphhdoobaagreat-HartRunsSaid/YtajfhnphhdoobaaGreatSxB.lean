/- The operations that write memory, make memory or call. What 'eop' says of an operation is what the model does. The same: append, copy, clear, delete, maps, slices made, ranges, conversions. The same: the other operations, and all of them together. All the operations that write memory, make memory or call. -/
import Derived.Test.YtajfhnphhdoobaaGreatSxA
set_option linter.unusedVariables false
set_option linter.unusedSimpArgs false
namespace Go.SX
open Go.RowKit
variable {P : Program} {w : World}
def addrV : Value → Option (Nat × Nat)
  | .pointer (some ⟨b, o, none⟩) => some (b, o)
  | _ => none
/-- 'n' cells behind a slice value or in a string. -/
def srcCells (h : Heap) (n : Nat) : Value → Option (List Value)
  | .slice (some ⟨b, o, none⟩) _ _ => cells? h b o n
  | .slice none _ _ => some []
  | .string s => some ((s.data.toList.take n).map fun b => .int .u8 b.toNat)
  | _ => none
def lenOfV : Value → Option Nat
  | .slice _ n _ => some n
  | .string s => some s.size
  | _ => none
def wrS (h : Heap) (base : Option Addr) (o : Nat) (vs : List Value) : Option Heap :=
  match base with
  | some ⟨b, off, none⟩ => wr h b (off + o) vs
  | some _ => none
  | none => some h
def zeros (z : Value) (n : Nat) : List Value := (Builtin.zeroCells z.cells n).toList
/-- append: 'new' are the cells that are appended ('n' elements). -/
def AppW (P : Program) (h : Heap) (e size : Nat) (base : Option Addr) (sLen sCap n : Nat) (new : List Value) (K : Value → Heap → Prop) : Prop :=
  (sLen + n ≤ sCap → obind (wrS h base (sLen * size) new) fun h' => K (.slice base (sLen + n) sCap) h') ∧
  (sCap < sLen + n → obind (byP P e) fun by_ => 0 < by_ ∧ (sLen + n) * by_ ≤ 140737488355328 ∧ obind (srcCells h (sLen * size) (.slice base sLen sCap)) fun old => obind (zeroP P e) fun z =>
    ∀ cap, sLen + n ≤ cap → K (.slice (some ⟨h.size, 0, none⟩) (sLen + n) cap) (h.push (.cells (old ++ new ++ zeros z (cap - (sLen + n))).toArray e (0, 0))))
def isIntD : TypeDesc → Bool
  | .int _ => true
  | _ => false
def strOK (size : Nat) : Value → Bool
  | .string _ => size == 1
  | _ => true
def appendW (P : Program) (h : Heap) (t tx : TypeId) (s x : Value) (K : Value → Heap → Prop) : Prop :=
  match s with
  | .slice base sLen sCap => obind (slE P t) fun es => obind (P.underlying tx) fun d =>
    if isIntD d then
      match x with
      | .int .i64 n => (0 ≤ n ∧ n < 9223372036854775808) ∧ obind (byP P es.1) fun by_ => n.toNat * by_ ≤ 281474976710656 ∧ obind (zeroP P es.1) fun z => AppW P h es.1 es.2 base sLen sCap n.toNat (if n.toNat * es.2 = 0 then [] else zeros z n.toNat) K
      | _ => False
    else strOK es.2 x = true ∧ obind (lenOfV x) fun n => obind (srcCells h (n * es.2) x) fun new => AppW P h es.1 es.2 base sLen sCap n new K
  | _ => False
def copyW (P : Program) (h : Heap) (t : TypeId) (d s : Value) (K : Value → Heap → Prop) : Prop :=
  match d with
  | .slice base dLen _ => obind (slE P t) fun es => strOK es.2 s = true ∧ obind (lenOfV s) fun m => obind (srcCells h (min m dLen * es.2) s) fun cs => obind (wrS h base 0 cs) fun h' => K (goInt (min m dLen : Nat)) h'
  | _ => False
def clearW (P : Program) (h : Heap) (t : TypeId) (x : Value) (K : Value → Heap → Prop) : Prop :=
  match x with
  | .map none => K (.tuple #[]) h
  | .map (some r) => match h[r]? with | some (.map _ c) => K (.tuple #[]) (h.setIfInBounds r (.map #[] c)) | _ => False
  | .slice none _ _ => K (.tuple #[]) h
  | .slice (some ⟨b, o, none⟩) n _ => obind (slE P t) fun es => obind (zeroP P es.1) fun z => obind (wr h b o (zeros z n)) fun h' => K (.tuple #[]) h'
  | _ => False
def mapKD (P : Program) (t : TypeId) : Option TypeDesc :=
  match P.underlying t with
  | some (.map k _) => P.underlying k
  | _ => none
def deleteW (P : Program) (h : Heap) (t : TypeId) (m key : Value) (K : Value → Heap → Prop) : Prop :=
  obind (mapKD P t) fun d => plainKey d key = true ∧
  match m with
  | .map none => K (.tuple #[]) h
  | .map (some r) => match h[r]? with
    | some (.map es c) => match Instr.findNow d key es.toList 0 with
      | some (some (i, _)) => K (.tuple #[]) (h.setIfInBounds r (.map (es.eraseIdxIfInBounds i) c))
      | some none => K (.tuple #[]) (h.setIfInBounds r (.map es c))
      | none => False
    | _ => False
  | _ => False
def mapUpW (P : Program) (h : Heap) (t : TypeId) (m key v : Value) (K : Heap → Prop) : Prop :=
  obind (mapKD P t) fun d => plainKey d key = true ∧
  match m with
  | .map (some r) => match h[r]? with
    | some (.map es c) => match Instr.findNow d key es.toList 0 with
      | some (some (i, _)) => K (h.setIfInBounds r (.map (es.modify i fun e => { e with key, val := v }) c))
      | some none => K (h.setIfInBounds r (.map (es.push { key, val := v, born := c }) (c + 1)))
      | none => False
    | _ => False
  | _ => False
/-- so many cells of zeros. -/
def mkCells (z : Value) (n : Nat) : List Value := ((Array.range n).map fun i => z.cells[i % z.cells.size]!).toList
def makeSliceW (P : Program) (h : Heap) (t : TypeId) (l c : Value) (K : Value → Heap → Prop) : Prop :=
  match l, c with
  | .int _ l, .int _ c => obind (slE P t) fun es => obind (byP P es.1) fun by_ => (0 ≤ l ∧ l ≤ c ∧ by_ * c ≤ 281474976710656 ∧ c < 9223372036854775808) ∧ obind (zeroP P es.1) fun z =>
      K (.slice (some ⟨h.size, 0, none⟩) l.toNat c.toNat) (h.push (.cells (if c.toNat * es.2 = 0 then [] else mkCells z (c.toNat * es.2)).toArray es.1 (0, 0)))
  | _, _ => False
def rangeW (P : Program) (h : Heap) (t : TypeId) (x : Value) (K : Value → Heap → Prop) : Prop :=
  match P.underlying t, x with
  | some .string, .string s => K (ptr h.size 0) (h.push (.stringIter s 0))
  | some (.map _ _), .map none => K (ptr h.size 0) (h.push (.mapIter none 0 #[] 0))
  | some (.map _ _), .map (some m) => match h[m]? with
    | some (.map _ clock) => K (ptr h.size 0) (h.push (.mapIter (some m) clock #[] clock))
    | _ => False
  | _, _ => False
/-- the next entry of a map that no new key has come into since the loop began. -/
def nextW (h : Heap) (it : Value) (str : Bool) (K : Value → Heap → Prop) : Prop :=
  match it with
  | .pointer (some ⟨r, 0, _⟩) => match h[r]?, str with
    | some (.stringIter s pos), true => if pos < s.size then K (.tuple #[.bool true, goInt pos, .int .i32 (Utf8.decode s pos).1]) (h.setIfInBounds r (.stringIter s (pos + (Utf8.decode s pos).2))) else K (.tuple #[.bool false]) h
    | some (.mapIter none _ _ _), false => K (.tuple #[.bool false]) h
    | some (.mapIter (some m) since seen last), false => match h[m]? with
      | some (.map es clock) =>
        (∀ e ∈ es, e.born < since) ∧ last = since ∧ clock = since ∧
        ((∀ e ∈ es, e.born ∈ seen) → K (.tuple #[.bool false]) h) ∧
        ∀ e ∈ es, e.born ∉ seen → K (.tuple #[.bool true, e.key, e.val]) (h.setIfInBounds r (.mapIter (some m) since (seen.push e.born) since))
      | _ => False
    | _, _ => False
  | _ => False
def bytesV : List Value → Option (List UInt8)
  | [] => some []
  | .int .u8 n :: r => (bytesV r).map (UInt8.ofNat n.toNat :: ·)
  | _ => none
/-- []byte(s), string(b). -/
def convW (P : Program) (h : Heap) (s d : TypeId) (x : Value) (K : Value → Heap → Prop) : Prop :=
  match P.underlying s, P.underlying d, x with
  | some _, some (.slice e), .string x => match P.underlying e with
    | some (.int .u8) => ∀ cap, x.size ≤ cap → K (.slice (some ⟨h.size, 0, none⟩) x.size cap)
        (h.push (.cells ((x.data.toList.map fun b => Value.int .u8 b.toNat) ++ List.replicate (cap - x.size) (Value.int .u8 0)).toArray e (cap, cap + 1)))
    | _ => False
  | some (.slice e), some .string, .slice a n _ => match P.underlying e with
    | some (.int .u8) => obind (srcCells h n (.slice a n n)) fun cs => obind (bytesV cs) fun bs => K (.string ⟨bs.toArray⟩) h
    | _ => False
  | some (.slice _), some (.slice e), .slice (some ⟨b, o, none⟩) n c => if s = d then (match P.underlying e with
    | some (.int .u8) => (match h[b]? with
      | some (.cells cs t (0, 0)) => K (.slice (some ⟨b, o, none⟩) n c) (h.setIfInBounds b (.cells cs t (cs.size, cs.size + 1)))
      | _ => False)
    | _ => False) else False
  | _, _, _ => obind (convV P s d x) fun v => K v h
def callW (P : Program) (f : Value) (args : List Value) (h : Heap) (K : Value → Heap → Prop) : Prop :=
  match f with
  | .func (.func f) first cap => Fn P f (first.toList ++ args ++ cap.toList) h K
  | _ => False
def eop (P : Program) (fr : Fr) (h : Heap) (op : Op) (K : Value → Heap → Prop) : Prop :=
  match op with
  | .alloc t => obind (zc P t) fun z => K (ptr h.size 0) (h.push (.cells z.toArray t (0, 0)))
  | .box t x => obind (ev fr x) fun v => K (ptr h.size 0) (h.push (.cells v.cells t (0, 0)))
  | .buildSlice t n ps => obind (evP fr ps.toList) fun vs => obind (slE P t) fun es => n * es.2 ≤ 16777216 ∧ obind (zeroP P es.1) fun z =>
      obind (fillL (if n * es.2 = 0 then [] else mkCells z (n * es.2)) (vs.map fun p => (p.1 * es.2, es.2, p.2))) fun cs => K (.slice (some ⟨h.size, 0, none⟩) n n) (h.push (.cells cs.toArray es.1 (0, 0)))
  | .store t a x => obind (ev fr a) fun a => obind (ev fr x) fun v => obind (addrV a) fun bo => obind (szP P t) fun n => v.cells.size = n ∧ obind (wr h bo.1 bo.2 v.cells.toList) fun h' => K undef h'
  | .mapUpdate t m k v | .insert t m k v => obind (ev fr m) fun m => obind (ev fr k) fun k => obind (ev fr v) fun v => mapUpW P h t m k v fun h' => K undef h'
  | .makeMap _ none => K (.map (some h.size)) (h.push (.map #[] 0))
  | .makeMap t (some n) => obind (ev fr n) fun n => match P.underlying t, n with | some (.map _ _), .int _ _ => K (.map (some h.size)) (h.push (.map #[] 0)) | _, _ => False
  | .makeSlice t l c => obind (ev fr l) fun l => obind (ev fr c) fun c => makeSliceW P h t l c K
  | .range t x => obind (ev fr x) fun x => rangeW P h t x K
  | .next it s => obind (ev fr it) fun it => nextW h it s K
  | .convert s d x => obind (ev fr x) fun x => convW P h s d x K
  | .call c => obind (evL fr c.args.toList) fun args =>
    match c.callee with
    | .value f => obind (ev fr f) fun f => callW P f args h K
    | .builtin .append => match args, c.argTypes.toList with | [s, x], t :: tx :: _ => appendW P h t tx s x K | _, _ => False
    | .builtin .copy => match args, c.argTypes.toList with | [d, s], t :: _ => copyW P h t d s K | _, _ => False
    | .builtin .clear => match args, c.argTypes.toList with | [x], t :: _ => (P.underlying t).isSome = true ∧ clearW P h t x K | _, _ => False
    | .builtin .delete => match args, c.argTypes.toList with | [m, k], t :: _ => deleteW P h t m k K | _, _ => False
    | _ => False
  | _ => False
end Go.SX
namespace Go.SX
open Go.RowKit
variable {P : Program}
theorem one_one {v : Value} (h : one v = true) : v.oneCell' = true := by cases v <;> simp [one] at h <;> rfl
theorem heap_same {h : Heap} {b : Nat} {x : Obj} (e : h[b]? = some x) : h.setIfInBounds b x = h := by
  apply Array.ext_getElem?
  intro i
  by_cases hi : b = i
  · subst hi; simp [Array.getElem?_setIfInBounds]; split <;> simp_all
  · simp [Array.getElem?_setIfInBounds, hi]
theorem heap_setset {h : Heap} {b : Nat} {x y : Obj} : (h.setIfInBounds b x).setIfInBounds b y = h.setIfInBounds b y := by
  apply Array.ext_getElem?
  intro i
  by_cases hi : b = i
  · subst hi; simp [Array.getElem?_setIfInBounds]
  · simp [Array.getElem?_setIfInBounds, hi]
theorem run_storeCells {b o : Nat} {e : TypeId} {lo hi : Nat} : ∀ (vs : List Value) (i : Nat) (c : Array Value) (w : World), w.heap[b]? = some (.cells c e (lo, hi)) → o + i + vs.length ≤ c.size →
    (hi ≤ lo ∨ hi ≤ o + i ∨ o + i + vs.length ≤ lo) → vs.all one = true →
    (storeCells ⟨b, o, none⟩ vs i).run P w = .ok () { w with heap := w.heap.setIfInBounds b (.cells (setL c.toList (o + i) vs).toArray e (lo, hi)) }
  | [], i, c, w, hb, _, _, _ => by
    simp [storeCells, setL_nil, heap_same hb]
  | v :: vs, i, c, w, hb, hl, hf, ha => by
    simp only [List.all_cons, Bool.and_eq_true] at ha
    simp only [List.length_cons] at hl hf
    have hadd : (⟨b, o, none⟩ : Addr).add i = ⟨b, o + i, none⟩ := Addr_add_none b o i
    have hlt : o + i < c.size := by omega
    have hcell : w.cell? ⟨b, o + i, none⟩ = some c[o + i] := by rw [cell?_world]; simp [cell?, hb, hlt]
    have hfz : w.frozen? ⟨b, o + i, none⟩ = false := by
      simp [World.frozen?, hb]; omega
    let w1 := w.setCell ⟨b, o + i, none⟩ v
    have hw1 : w1.heap = w.heap.setIfInBounds b (.cells (c.setIfInBounds (o + i) v) e (lo, hi)) := by
      apply Array.ext_getElem?
      intro j
      have hbs : b < w.heap.size := (Array.getElem?_eq_some_iff.1 hb).1
      simp only [w1, World.setCell, Array.getElem?_modify, Array.getElem?_setIfInBounds]
      by_cases hj : b = j
      · subst hj
        have hb2 : w.heap[b] = .cells c e (lo, hi) := by simpa [Array.getElem?_eq_getElem hbs] using hb
        simp [hbs, hb2]
      · simp [hj]
    have hstore : (store ⟨b, o + i, none⟩ v .plain).run P w = .ok () w1 := by
      rw [run_store P w _ v .plain (one_one ha.1)]
      simp [stored, hcell, hfz, w1]
    have hb1 : w1.heap[b]? = some (.cells (c.setIfInBounds (o + i) v) e (lo, hi)) := by
      have hbs : b < w.heap.size := (Array.getElem?_eq_some_iff.1 hb).1
      rw [hw1]; simp [hbs]
    have hrec := run_storeCells (o := o) vs (i + 1) (c.setIfInBounds (o + i) v) w1 hb1 (by simp; omega) (by omega) ha.2
    simp only [storeCells, hadd, Sem.run_bind]
    have hs2 : (store ⟨b, o + i, none⟩ v).run P w = .ok () w1 := hstore
    rw [hs2]
    simp only [Result.andThen_ok]
    rw [hrec]
    have : w1.os = w.os ∧ w1.tape = w.tape ∧ w1.output = w.output ∧ w1.drawn = w.drawn := ⟨rfl, rfl, rfl, rfl⟩
    congr 1
    show ({ w1 with heap := _ } : World) = { w with heap := _ }
    have e5 : (setL (c.setIfInBounds (o + i) v).toList (o + (i + 1)) vs) = setL c.toList (o + i) (v :: vs) := by
      rw [setL_cons]; simp [Nat.add_assoc]
    rw [e5, hw1, heap_setset]
    rfl
theorem run_wr {h' : Heap} {b o : Nat} {vs : List Value} {w : World} (h : wr w.heap b o vs = some h') : (storeCells ⟨b, o, none⟩ vs).run P w = .ok () { w with heap := h' } := by
  unfold wr at h
  split at h
  · rename_i c e lo hi hb
    split at h
    · rename_i hc
      cases h
      have := run_storeCells (P := P) (o := o) vs 0 c w hb (by omega) (by omega) hc.2.2
      simpa using this
    · cases h
  · cases h
theorem cells?_length {h : Heap} {b o n : Nat} {l : List Value} (hl : cells? h b o n = some l) : l.length = n := by
  unfold cells? at hl
  split at hl
  · split at hl
    · cases hl; simp; omega
    · cases hl
  · cases hl
theorem run_loadCells_of {b o n : Nat} {l : List Value} {w : World} (hl : cells? w.heap b o n = some l) : (loadCells ⟨b, o, none⟩ n).run P w = .ok l.toArray w := by
  have hlen := cells?_length hl
  have hall : ∀ j v, l[j]? = some v → w.cell? ((⟨b, o, none⟩ : Addr).add j) = some v := by
    intro j v hj
    unfold cells? at hl
    split at hl
    · rename_i c e fz hb
      split at hl
      · cases hl
        have hj' : j < n := by
          rcases Nat.lt_or_ge j n with h' | h'
          · exact h'
          · simp [List.getElem?_take, Nat.not_lt.2 h'] at hj
        rw [Addr_add_none, cell?_world]
        simp [cell?, hb]
        simp [List.getElem?_take, hj'] at hj
        simpa using hj
      · cases hl
    · cases hl
  have hrun := run_loadCells_list (P := P) (w := w) ⟨b, o, none⟩ l hall
  rw [hlen] at hrun
  exact hrun
theorem srcCells_run {k : Nat} {x : Value} {cs : List Value} {w : World} (size m : Nat) (hx : lenOfV x = some k) (h : srcCells w.heap (m * size) x = some cs) (hm : m ≤ k) (hstr : ∀ s, x = .string s → size = 1) :
    (Builtin.firstCells size m x).run P w = .ok cs.toArray w := by
  cases x <;> simp [lenOfV] at hx
  · rename_i s
    simp [srcCells] at h
    have := hstr s rfl
    subst this
    simp at h
    simp [Builtin.firstCells]
    rw [← h]
    apply Array.ext'
    simp
  · rename_i a l c
    cases a with
    | none => simp [srcCells] at h; subst h; simp [Builtin.firstCells]
    | some a =>
      obtain ⟨b, o, sp⟩ := a
      cases sp with
      | some s => simp [srcCells] at h
      | none =>
        simp only [srcCells] at h
        simp [Builtin.firstCells, run_loadCells_of h]
theorem wrS_run {w : World} {base : Option Addr} {o : Nat} {vs : List Value} {h' : Heap} (h : wrS w.heap base o vs = some h') :
    (do if let some a := base then storeCells (a.add o) vs : Sem Unit).run P w = .ok () { w with heap := h' } := by
  unfold wrS at h
  split at h
  · rename_i b off
    have e : (⟨b, off, none⟩ : Addr).add o = ⟨b, off + o, none⟩ := Addr_add_none b off o
    simp [e, run_wr h]
  · cases h
  · cases h; simp
theorem run_byP {t n : Nat} {w : World} (h : byP P t = some n) : ∃ i, P.info? t = some i ∧ i.bytes = n := by
  unfold byP at h
  cases hi : P.info? t with
  | none => simp [hi] at h
  | some i => simp [hi] at h; exact ⟨i, rfl, h⟩
theorem nextcap_bytes {n c b : Nat} (h : c < n) (hb : n * b ≤ 140737488355328) : Builtin.nextslicecap n c * b ≤ 281474976710656 := by
  unfold Builtin.nextslicecap
  split
  · omega
  · rename_i h1
    split
    · rename_i h2
      have : 2 * c * b ≤ 2 * (n * b) := by rw [Nat.mul_assoc]; exact Nat.mul_le_mul_left 2 (Nat.mul_le_mul_right b (by omega))
      omega
    · rename_i h2
      have h3 : Builtin.growBy n 4 c ≤ 2 * n := by
        have g : ∀ r c, 256 ≤ c → c < n → Builtin.growBy n r c ≤ 2 * n := by
          intro r
          induction r with
          | zero => intro c _ h; simp [Builtin.growBy]; omega
          | succ r ih =>
            intro c hc h
            unfold Builtin.growBy
            split
            · omega
            · by_cases h2 : c + (c + 768) / 4 < n
              · exact ih _ (by omega) h2
              · cases r with
                | zero => simp [Builtin.growBy]; omega
                | succ r => unfold Builtin.growBy; rw [if_pos (by omega)]; omega
        exact g 4 c (by omega) h
      have : Builtin.growBy n 4 c * b ≤ 2 * n * b := Nat.mul_le_mul_right b h3
      rw [Nat.mul_assoc] at this
      omega
theorem zeros_eq (z : Value) (n : Nat) : (Builtin.zeroCells z.cells n) = (zeros z n).toArray := by simp [zeros]
end Go.SX
namespace Go.SX
open Go.RowKit
variable {P : Program}
/-- the run ends well. -/
def Ends (P : Program) (w : World) (s : Sem Value) (K : Value → Heap → Prop) : Prop := ∃ v w', s.run P w = .ok v w' ∧ K v w'.heap ∧ Rest w w'
theorem Ends.ok {w : World} {s : Sem Value} {K : Value → Heap → Prop} {v : Value} {h' : Heap} (e : s.run P w = .ok v { w with heap := h' }) (k : K v h') : Ends P w s K := ⟨v, _, e, k, rfl, rfl, rfl⟩
theorem lenOfV_run {x : Value} {n : Nat} {w : World} (h : lenOfV x = some n) : (Builtin.lenOf x).run P w = .ok n w := by
  cases x <;> simp [lenOfV] at h <;> subst h <;> simp [Builtin.lenOf]
theorem choose_cap {w : World} (need old : Nat) (e : TypeId) : need ≤ (Question.appendCap need old e).cut (w.tape w.drawn (.appendCap need old e)) ∧ (Question.appendCap need old e).forced = false ∧ Rest w w.drew :=
  ⟨by simp only [Question.cut]; omega, rfl, rfl, rfl, rfl⟩
theorem append_plain {w : World} {t tx e size sLen sCap n ty : Nat} {base : Option Addr} {x : Value} {new : List Value} {K : Value → Heap → Prop} {d : TypeDesc}
    (he : slE P t = some (e, size)) (hd : P.underlying tx = some d) (hnd : ∀ k, d ≠ .int k) (hlen : lenOfV x = some n) (hnew : srcCells w.heap (n * size) x = some new) (hstr : ∀ s, x = .string s → size = 1)
    (h : AppW P w.heap e size base sLen sCap n new K) : Ends P w (Builtin.append_ #[t, tx] ty #[.slice base sLen sCap, x]) K := by
  obtain ⟨h1, h2⟩ := h
  obtain ⟨hu, hs⟩ := slE_spec he
  have hz : (match d with | .int _ => true | _ => false) = false := by cases d <;> simp at hnd ⊢
  by_cases hc : sLen + n ≤ sCap
  · obtain ⟨h', hw, hk⟩ := obind_elim (h1 hc)
    refine Ends.ok ?_ hk
    have hrun := wrS_run (P := P) hw
    cases base with
    | none =>
      simp [wrS] at hw; subst hw
      simp [Builtin.append_, run_underlying hu, szP_run hs, run_underlying hd, hz, lenOfV_run hlen, hc, srcCells_run size n hlen hnew (Nat.le_refl _) hstr]
    | some a =>
      simp at hrun
      simp [Builtin.append_, run_underlying hu, szP_run hs, run_underlying hd, hz, lenOfV_run hlen, hc, srcCells_run size n hlen hnew (Nat.le_refl _) hstr, hrun]
  · obtain ⟨by_, hby, hpos, hle, h3⟩ := obind_elim (h2 (by omega))
    obtain ⟨old, hold, h4⟩ := obind_elim h3
    obtain ⟨z, hzv, h5⟩ := obind_elim h4
    obtain ⟨i, hi, hib⟩ := run_byP (w := w) hby
    have hbytes := nextcap_bytes (n := sLen + n) (c := sCap) (by omega) hle
    have hmax : sLen + n < 9223372036854775808 := by
      have : sLen + n ≤ (sLen + n) * by_ := Nat.le_mul_of_pos_right _ hpos
      omega
    · obtain ⟨hcap, hch, hrest⟩ := choose_cap (w := w) (sLen + n) sCap e
      generalize hcp : Question.cut _ _ = cap at hcap
      obtain ⟨w', hw1⟩ : ∃ w', w' = w.drew := ⟨_, rfl⟩
      have hw' : w'.heap = w.heap := by rw [hw1]; rfl
      rw [← hw1] at hrest
      have hold' : (Builtin.firstCells size sLen (.slice base sLen sCap)).run P w' = .ok old.toArray w' := srcCells_run size sLen rfl (by rw [hw']; exact hold) (Nat.le_refl _) (by simp)
      have hnew' : (Builtin.firstCells size n x).run P w' = .ok new.toArray w' := srcCells_run size n hlen (by rw [hw']; exact hnew) (Nat.le_refl _) hstr
      refine ⟨_, { w' with heap := w'.heap.push (.cells (old ++ new ++ zeros z (cap - (sLen + n))).toArray e (0, 0)) }, ?_, by rw [← hw'] at h5; exact h5 cap hcap, hrest⟩
      have hni : ¬ (9223372036854775807 < ((sLen : Int) + n) ∧ i.bytes = 0) := by omega
      have hm : IntKind.i64.max = 9223372036854775807 := by decide
      have hb2 : ¬ (281474976710656 < Builtin.nextslicecap (sLen + n) sCap * i.bytes) := by rw [hib]; omega
      have hgoal : (Builtin.append_ #[t, tx] ty #[.slice base sLen sCap, x]).run P w = .ok (.slice (some ⟨w'.heap.size, 0, none⟩) (sLen + n) cap) { w' with heap := w'.heap.push (.cells (old ++ new ++ zeros z (cap - (sLen + n))).toArray e (0, 0)) } := by
        simp [← hw1, Builtin.append_, run_underlying hu, szP_run hs, run_underlying hd, hz, lenOfV_run hlen, hc, typeInfo, hi, hm, hni, hb2, hch, hcp, hold', hnew', run_zeroP hzv, newRow, zeros_eq]
      rw [hgoal, hw']
theorem append_make {w : World} {t tx e size sLen sCap ty : Nat} {base : Option Addr} {n : Int} {by_ : Nat} {z : Value} {K : Value → Heap → Prop} {k : IntKind}
    (he : slE P t = some (e, size)) (hd : P.underlying tx = some (.int k)) (h0 : 0 ≤ n) (hn : n < 9223372036854775808) (hby : byP P e = some by_) (hb : n.toNat * by_ ≤ 281474976710656) (hzv : zeroP P e = some z)
    (h : AppW P w.heap e size base sLen sCap n.toNat (if n.toNat * size = 0 then [] else zeros z n.toNat) K) : Ends P w (Builtin.append_ #[t, tx] ty #[.slice base sLen sCap, .int .i64 n]) K := by
  obtain ⟨h1, h2⟩ := h
  obtain ⟨hu, hs⟩ := slE_spec he
  obtain ⟨i, hi, hib⟩ := run_byP (w := w) hby
  obtain ⟨m, rfl⟩ := Int.eq_ofNat_of_zero_le h0
  simp only [Int.toNat_natCast] at h1 h2 hb
  have hwrap : IntKind.i64.wrap (m : Int) = m := IntWalk.i64_in _ (by omega)
  have hb2 : ¬ ((281474976710656 : Int) < m * (i.bytes : Int)) := by rw [hib]; omega
  have hlt : ¬ ((m : Int) < 0) := by omega
  have hnew : ∀ w' : World, (if m * size = 0 then (Pure.pure #[] : Sem (Array Value)) else (do pure (Builtin.zeroCells (← zeroValue e).cells m))).run P w' = .ok (if m * size = 0 then [] else zeros z m).toArray w' := by
    intro w'
    split
    · simp
    · simp [run_zeroP hzv, zeros_eq]
  by_cases hc : sLen + m ≤ sCap
  · obtain ⟨h', hw, hk⟩ := obind_elim (h1 hc)
    refine Ends.ok ?_ hk
    have hrun := wrS_run (P := P) hw
    have hnw := hnew w
    simp at hnw
    cases base with
    | none =>
      simp [wrS] at hw; subst hw
      simp [Builtin.append_, run_underlying hu, szP_run hs, run_underlying hd, asInt, asIntOf, hwrap, hlt, typeInfo, hi, hb2, hc]
      intro _; simp [run_zeroP hzv]
    | some a =>
      simp at hrun
      simp [Builtin.append_, run_underlying hu, szP_run hs, run_underlying hd, asInt, asIntOf, hwrap, hlt, typeInfo, hi, hb2, hc]
      by_cases hz0 : m = 0 ∨ size = 0
      · have hz1 : m * size = 0 := by rcases hz0 with h | h <;> simp [h]
        simp [hz0, hz1] at hrun ⊢
        simp [hrun]
      · have hz1 : ¬ m * size = 0 := fun e => hz0 (Nat.mul_eq_zero.1 e)
        simp [hz0, hz1] at hrun ⊢
        simp [run_zeroP hzv, zeros_eq, hrun]
  · obtain ⟨by2, hby2, hpos, hle, h3⟩ := obind_elim (h2 (by omega))
    obtain rfl : by2 = by_ := by rw [hby] at hby2; exact (Option.some.inj hby2).symm
    obtain ⟨old, hold, h4⟩ := obind_elim h3
    obtain ⟨z2, hzv2, h5⟩ := obind_elim h4
    obtain rfl : z2 = z := by rw [hzv] at hzv2; exact (Option.some.inj hzv2).symm
    have hbytes := nextcap_bytes (n := sLen + m) (c := sCap) (by omega) hle
    have hmax : sLen + m < 9223372036854775808 := by
      have : sLen + m ≤ (sLen + m) * by2 := Nat.le_mul_of_pos_right _ hpos
      omega
    obtain ⟨hcap, hch, hrest⟩ := choose_cap (w := w) (sLen + m) sCap e
    generalize hcp : Question.cut _ _ = cap at hcap
    obtain ⟨w', hw1⟩ : ∃ w', w' = w.drew := ⟨_, rfl⟩
    have hw' : w'.heap = w.heap := by rw [hw1]; rfl
    rw [← hw1] at hrest
    have hold' : (Builtin.firstCells size sLen (.slice base sLen sCap)).run P w' = .ok old.toArray w' := srcCells_run size sLen rfl (by rw [hw']; exact hold) (Nat.le_refl _) (by simp)
    refine ⟨_, { w' with heap := w'.heap.push (.cells (old ++ (if m * size = 0 then [] else zeros z2 m) ++ zeros z2 (cap - (sLen + m))).toArray e (0, 0)) }, ?_, by rw [← hw'] at h5; exact h5 cap hcap, hrest⟩
    have hni : ¬ (9223372036854775807 < ((sLen : Int) + m)) := by omega
    have hm : IntKind.i64.max = 9223372036854775807 := by decide
    have hb3 : ¬ (281474976710656 < Builtin.nextslicecap (sLen + m) sCap * i.bytes) := by rw [hib]; omega
    have hgoal : (Builtin.append_ #[t, tx] ty #[.slice base sLen sCap, .int .i64 m]).run P w = .ok (.slice (some ⟨w'.heap.size, 0, none⟩) (sLen + m) cap) { w' with heap := w'.heap.push (.cells (old ++ (if m * size = 0 then [] else zeros z2 m) ++ zeros z2 (cap - (sLen + m))).toArray e (0, 0)) } := by
      simp [← hw1, Builtin.append_, run_underlying hu, szP_run hs, run_underlying hd, asInt, asIntOf, hwrap, hlt, typeInfo, hi, hb2, hc, hm, hni, hb3, hch, hcp, hold']
      by_cases hz1 : m * size = 0
      · simp [hz1, newRow, zeros_eq, run_zeroP hzv]
      · simp [hz1, newRow, zeros_eq, run_zeroP hzv]
    rw [hgoal, hw']
end Go.SX
namespace Go.SX
open Go.RowKit
variable {P : Program}
theorem strOK_spec {size : Nat} {x : Value} (h : strOK size x = true) : ∀ s, x = .string s → size = 1 := by
  intro s e; subst e; simpa [strOK] using h
theorem appendW_sound {w : World} {t tx ty : Nat} {s x : Value} {K : Value → Heap → Prop} (h : appendW P w.heap t tx s x K) : Ends P w (Builtin.append_ #[t, tx] ty #[s, x]) K := by
  cases s <;> simp only [appendW] at h <;> try (exact h.elim)
  rename_i base sLen sCap
  obtain ⟨⟨e, size⟩, he, h⟩ := obind_elim h
  obtain ⟨d, hd, h⟩ := obind_elim h
  split at h
  · rename_i hi
    have hdi : ∃ k, d = .int k := by cases d <;> simp [isIntD] at hi; exact ⟨_, rfl⟩
    obtain ⟨k, rfl⟩ := hdi
    have hx : ∃ n, x = .int .i64 n := by
      cases x with
      | int k' n => cases k' <;> first | exact ⟨_, rfl⟩ | exact h.elim
      | _ => exact h.elim
    obtain ⟨n, rfl⟩ := hx
    obtain ⟨⟨h0, hn⟩, h⟩ := h
    obtain ⟨by_, hby, hb, h⟩ := obind_elim h
    obtain ⟨z, hz, h⟩ := obind_elim h
    exact append_make he hd h0 hn hby hb hz h
  · rename_i hi
    obtain ⟨hst, h⟩ := h
    obtain ⟨n, hn, h⟩ := obind_elim h
    obtain ⟨new, hnew, h⟩ := obind_elim h
    exact append_plain he hd (fun k e => by subst e; simp [isIntD] at hi) hn hnew (strOK_spec hst) h
theorem copyW_sound {w : World} {t ty : Nat} {ts : List TypeId} {d s : Value} {K : Value → Heap → Prop} (h : copyW P w.heap t d s K) : Ends P w (Builtin.copy_ (t :: ts).toArray ty #[d, s]) K := by
  cases d <;> simp only [copyW] at h <;> try (exact h.elim)
  rename_i base dLen dCap
  obtain ⟨⟨e, size⟩, he, hst, h⟩ := obind_elim h
  obtain ⟨m, hm, h⟩ := obind_elim h
  obtain ⟨cs, hcs, h⟩ := obind_elim h
  obtain ⟨h', hw, hk⟩ := obind_elim h
  obtain ⟨hu, hs⟩ := slE_spec he
  refine Ends.ok ?_ hk
  have hrun := wrS_run (P := P) hw
  have hsrc : (Builtin.firstCells size (min m dLen) s).run P w = .ok cs.toArray w := srcCells_run size (min m dLen) hm hcs (Nat.min_le_left _ _) (strOK_spec hst)
  have hmin : Nat.min m dLen = min m dLen := rfl
  cases base with
  | none =>
    simp [wrS] at hw; subst hw
    simp [Builtin.copy_, run_underlying hu, lenOfV_run hm, szP_run hs, hmin, hsrc]
  | some a =>
    have ha : a.add 0 = a := rfl
    simp [ha] at hrun
    simp [Builtin.copy_, run_underlying hu, lenOfV_run hm, szP_run hs, hmin, hsrc, hrun]
theorem clearW_sound {w : World} {t ty : Nat} {ts : List TypeId} {x : Value} {K : Value → Heap → Prop} (hu : (P.underlying t).isSome = true) (h : clearW P w.heap t x K) : Ends P w (Builtin.clear_ (t :: ts).toArray ty #[x]) K := by
  obtain ⟨d, hd⟩ := Option.isSome_iff_exists.1 hu
  unfold clearW at h
  split at h
  · refine Ends.ok (h' := w.heap) ?_ h
    simp [Builtin.clear_, run_underlying hd]
  · rename_i r
    split at h
    · rename_i es c hr
      refine Ends.ok ?_ h
      simp [Builtin.clear_, run_underlying hd, run_getMap hr, setObj, Sem.run, hr]
    · exact h.elim
  · refine Ends.ok (h' := w.heap) ?_ h
    simp [Builtin.clear_, run_underlying hd]
  · rename_i b o n c
    obtain ⟨⟨e, size⟩, he, h⟩ := obind_elim h
    obtain ⟨z, hz, h⟩ := obind_elim h
    obtain ⟨h', hw, hk⟩ := obind_elim h
    obtain ⟨hu', hs⟩ := slE_spec he
    refine Ends.ok ?_ hk
    cases n with
    | zero =>
      have : zeros z 0 = [] := by simp [zeros, Builtin.zeroCells]
      rw [this] at hw
      have h2 := run_wr (P := P) hw
      simp [storeCells] at h2
      simp [Builtin.clear_, run_underlying hd]
      exact h2
    | succ n => 
      have h2 := run_wr (P := P) hw
      simp [Builtin.clear_, run_underlying hu', run_zeroP hz, zeros_eq, h2]
  · exact h.elim
theorem mapKD_spec {t : Nat} {d : TypeDesc} (h : mapKD P t = some d) : ∃ k e, P.underlying t = some (.map k e) ∧ P.underlying k = some d := by
  unfold mapKD at h
  split at h
  · rename_i k e hu; exact ⟨k, e, hu, h⟩
  · cases h
theorem deleteW_sound {w : World} {t ty : Nat} {ts : List TypeId} {m key : Value} {K : Value → Heap → Prop} (h : deleteW P w.heap t m key K) : Ends P w (Builtin.delete_ (t :: ts).toArray ty #[m, key]) K := by
  unfold deleteW at h
  obtain ⟨d, hd, hp, h⟩ := obind_elim h
  obtain ⟨k, e, hu, hk⟩ := mapKD_spec hd
  split at h
  · refine Ends.ok (h' := w.heap) ?_ h
    simp [Builtin.delete_, run_underlying hu, run_checkKey 9999 hk hp]
  · rename_i r
    split at h
    · rename_i es c hr
      split at h
      · rename_i i v hf
        refine Ends.ok ?_ h
        simp [Builtin.delete_, run_underlying hu, run_getMap hr, run_checkKey 9999 hk hp, run_findKey hk hf, setObj, Sem.run, hr]
      · rename_i hf
        refine Ends.ok ?_ h
        simp [Builtin.delete_, run_underlying hu, run_getMap hr, run_checkKey 9999 hk hp, run_findKey hk hf, setObj, Sem.run, hr]
      · exact h.elim
    · exact h.elim
  · exact h.elim
theorem findNow_same {d : TypeDesc} {key : Value} (hp : plainKey d key = true) : ∀ (es : List MapEntry) (j i : Nat) (v : Value), Instr.findNow d key es j = some (some (i, v)) → ∃ e, j ≤ i ∧ es[i - j]? = some e ∧ Instr.sameBits 10000 e.key key = true
  | [], j, i, v, h => by simp [Instr.findNow] at h
  | e :: es, j, i, v, h => by
    simp only [Instr.findNow] at h
    split at h
    · rename_i hs
      cases h
      refine ⟨e, Nat.le_refl _, by simp, ?_⟩
      cases d <;> cases key <;> simp [plainKey] at hp <;> cases hek : e.key <;> simp [hek, Instr.sameNow] at hs <;> simp [Instr.sameBits, hs]
      rw [beq_toListBytes] at hs ⊢; simp at hs ⊢; exact hs.symm
    · obtain ⟨e', h1, h2, h3⟩ := findNow_same hp es (j + 1) i v h
      refine ⟨e', by omega, ?_, h3⟩
      have : i - j = (i - (j + 1)) + 1 := by omega
      rw [this]; simpa using h2
    · cases h
theorem mapUpW_sound {w : World} {t : Nat} {m key v : Value} {K : Heap → Prop} (h : mapUpW P w.heap t m key v K) : ∃ h', (Instr.mapUpdate t m key v).run P w = .ok () { w with heap := h' } ∧ K h' := by
  unfold mapUpW at h
  obtain ⟨d, hd, hp, h⟩ := obind_elim h
  obtain ⟨k, e, hu, hk⟩ := mapKD_spec hd
  split at h
  · rename_i r
    split at h
    · rename_i es c hr
      split at h
      · rename_i i u hf
        refine ⟨_, ?_, h⟩
        obtain ⟨e0, _, h2, h3⟩ := findNow_same hp es.toList 0 i u hf
        have h2' : es[i]? = some e0 := by simpa using h2
        simp [Instr.mapUpdate, run_underlying hu, run_getMap hr, run_checkKey 9999 hk hp, run_findKey hk hf, Instr.keyThatStays, h2', h3, setObj, Sem.run, hr]
      · rename_i hf
        refine ⟨_, ?_, h⟩
        simp [Instr.mapUpdate, run_underlying hu, run_getMap hr, run_checkKey 9999 hk hp, run_findKey hk hf, setObj, Sem.run, hr]
      · exact h.elim
    · exact h.elim
  · exact h.elim
theorem makeSliceW_sound {w : World} {t : Nat} {l c : Value} {K : Value → Heap → Prop} (h : makeSliceW P w.heap t l c K) : Ends P w (Instr.makeSlice t l c) K := by
  unfold makeSliceW at h
  split at h
  · rename_i k l k' c
    obtain ⟨⟨e, size⟩, he, h⟩ := obind_elim h
    obtain ⟨by_, hby, ⟨h0, hlc, hb, hmax⟩, h⟩ := obind_elim h
    obtain ⟨z, hz, hk⟩ := obind_elim h
    obtain ⟨hu, hs⟩ := slE_spec he
    obtain ⟨i, hi, hib⟩ := run_byP (w := w) hby
    have hwl : IntKind.i64.wrap l = l := IntWalk.i64_in _ (by omega)
    have hwc : IntKind.i64.wrap c = c := IntWalk.i64_in _ (by omega)
    have e1 : (c < 0) = False := by simp; omega
    have e2 : ((281474976710656 : Int) < i.bytes * c) = False := by simp [hib]; omega
    have e3 : (l < 0) = False := by simp; omega
    have e4 : (c < l) = False := by simp; omega
    refine Ends.ok ?_ hk
    simp only at *
    by_cases hn : c.toNat * size = 0
    · simp [Instr.makeSlice, run_underlying hu, asInt, asIntOf, typeInfo, hi, hwl, hwc, e1, e2, e3, e4, szP_run hs, hn, newRow]
      congr 2; exact Array.ext' (by simp)
    · simp [Instr.makeSlice, run_underlying hu, asInt, asIntOf, typeInfo, hi, hwl, hwc, e1, e2, e3, e4, szP_run hs, hn, newRow, run_zeroP hz, mkCells]
      congr 2; apply Array.ext'; simp
  · exact h.elim
theorem rangeW_sound {w : World} {t : Nat} {x : Value} {K : Value → Heap → Prop} (h : rangeW P w.heap t x K) : Ends P w (Instr.range t x) K := by
  unfold rangeW at h
  split at h
  · rename_i hu; refine Ends.ok ?_ h; simp [Instr.range, run_underlying hu]
  · rename_i hu; refine Ends.ok ?_ h; simp [Instr.range, run_underlying hu]
  · rename_i hu
    split at h
    · rename_i hr; refine Ends.ok ?_ h; simp [Instr.range, run_underlying hu, run_getMap hr]
    · exact h.elim
  · exact h.elim
theorem run_getIter {w : World} {r : Nat} {o : Obj} (hr : w.heap[r]? = some o) (ho : ∀ c e f, o ≠ .cells c e f) : (getObj r).run P w = .ok o w := by
  unfold getObj
  cases o <;> first | (exact absurd rfl (ho _ _ _)) | simp [Sem.run, hr]
theorem run_setIter {w : World} {r : Nat} {o o' : Obj} (hr : w.heap[r]? = some o) (ho : ∀ c e f, o ≠ .cells c e f) : (setObj r o').run P w = .ok () { w with heap := w.heap.setIfInBounds r o' } := by
  unfold setObj
  cases o <;> first | (exact absurd rfl (ho _ _ _)) | simp [Sem.run, hr]
theorem nextW_sound {w : World} {it : Value} {str : Bool} {ty : TypeId} {K : Value → Heap → Prop} (h : nextW w.heap it str K) : Ends P w (Instr.next it str ty) K := by
  unfold nextW at h
  split at h
  · rename_i r sp
    split at h
    · rename_i s pos hr
      have hg := run_getIter (P := P) hr (by simp)
      split at h
      · rename_i hlt
        refine Ends.ok ?_ h
        simp [Instr.next, hg, hlt, run_setIter (P := P) hr (by simp)]
      · rename_i hlt
        refine Ends.ok (h' := w.heap) ?_ h
        simp [Instr.next, hg, hlt]
    · rename_i hr
      have hg := run_getIter (P := P) hr (by simp)
      refine Ends.ok (h' := w.heap) ?_ h
      simp [Instr.next, hg]
    · rename_i m since seen last hr
      have hg := run_getIter (P := P) hr (by simp)
      split at h
      · rename_i es clock hm
        obtain ⟨hb, rfl, rfl, hend, hmore⟩ := h
        have hgm := run_getMap (P := P) hm
        have hbad : (!seen.isEmpty && !es.isEmpty && es.all (fun e => decide (e.born ≥ clock))) = false := by
          cases hes : es.isEmpty with
          | true => simp
          | false =>
            have hpos : 0 < es.size := by
              rcases Nat.eq_zero_or_pos es.size with h0 | h0
              · simp [Array.isEmpty, h0] at hes
              · exact h0
            have hlt := hb es[0] (Array.getElem_mem hpos)
            have : es.all (fun e => decide (e.born ≥ clock)) = false := by
              rw [Array.all_eq_false]
              exact ⟨0, hpos, by simpa using hlt⟩
            simp [this]
        have hnew : (es.filter fun e => !seen.contains e.born).filter (fun e => decide (e.born ≥ clock)) = #[] := by
          rw [Array.filter_eq_empty_iff]
          intro e he
          have := hb e (Array.mem_filter.1 he).1
          simp; omega
        have hold : (es.filter fun e => !seen.contains e.born).filter (fun e => decide (e.born < clock)) = es.filter fun e => !seen.contains e.born := by
          rw [Array.filter_eq_self]
          intro e he
          simpa using hb e (Array.mem_filter.1 he).1
        generalize hL : (es.filter fun e => !seen.contains e.born) = L at hnew hold
        have hmem : ∀ e, e ∈ L ↔ e ∈ es ∧ e.born ∉ seen := by
          intro e; rw [← hL]; simp [Array.mem_filter]
        have hrun : (Instr.next (.pointer (some ⟨r, 0, sp⟩)) false ty).run P w = (do
            match ((if L.isEmpty then #[none] else #[]) ++ (L ++ #[]).map some)[← choose (.mapNext ((if L.isEmpty then #[none] else #[]) ++ (L ++ #[]).map some).size)]? with
            | some (some e) =>
              setObj r (.mapIter (some m) clock (seen.push e.born) clock)
              pure (.tuple #[.bool true, e.key, e.val])
            | some none => pure (.tuple #[.bool false])
            | none => stuck "Next: no such candidate" : Sem Value).run P w := by
          simp only [Instr.next, Sem.run_bind, hg, Result.andThen_ok, hgm, hbad, Bool.false_eq_true, if_false, Sem.run_pure, hL]
          rw [hold, hnew]
          rfl
        unfold Ends
        rw [hrun]
        by_cases hemp : L.isEmpty = true
        · have hL0 : L = #[] := by simpa using hemp
          refine ⟨.tuple #[.bool false], w, ?_, hend (fun e he => ?_), Rest.refl _⟩
          · simp [hL0, choose, Sem.run, Question.forced]
          · rcases Classical.em (e.born ∈ seen) with h1 | h1
            · exact h1
            · have := (hmem e).2 ⟨he, h1⟩; rw [hL0] at this; simp at this
        · have hpos : 0 < L.size := by
            rcases Nat.eq_zero_or_pos L.size with h0 | h0
            · simp [Array.isEmpty, h0] at hemp
            · exact h0
          have hc : ∃ k w1, (choose (.mapNext L.size)).run P w = .ok k w1 ∧ k < L.size ∧ w1.heap = w.heap ∧ Rest w w1 := by
            by_cases h1 : L.size ≤ 1
            · exact ⟨0, w, by simp [choose, Sem.run, Question.forced, h1], hpos, rfl, Rest.refl _⟩
            · exact ⟨(w.tape w.drawn (.mapNext L.size)) % L.size, w.drew, by simp [choose, Sem.run, Question.forced, h1, Question.cut], Nat.mod_lt _ hpos, rfl, rfl, rfl, rfl⟩
          obtain ⟨k, w1, hk1, hk2, hk3, hk4⟩ := hc
          obtain ⟨e, he⟩ : ∃ e, L[k]? = some e := ⟨L[k], by simp [hk2]⟩
          obtain ⟨hin, hns⟩ := (hmem e).1 (Array.mem_of_getElem? he)
          have hr1 : w1.heap[r]? = some (.mapIter (some m) clock seen clock) := by rw [hk3]; exact hr
          refine ⟨.tuple #[.bool true, e.key, e.val], { w1 with heap := w1.heap.setIfInBounds r (.mapIter (some m) clock (seen.push e.born) clock) }, ?_, by rw [← hk3] at hmore; exact hmore e hin hns, hk4⟩
          have e1 : (if L.isEmpty then (#[none] : Array (Option MapEntry)) else #[]) ++ (L ++ #[]).map some = L.map some := by simp [hemp]
          rw [e1]
          simp only [Array.size_map, Sem.run_bind, hk1, Result.andThen_ok, Array.getElem?_map, he, Option.map_some, run_setIter (P := P) hr1 (by simp), Sem.run_pure]
      · exact h.elim
    · exact h.elim
  · exact h.elim
theorem bytesV_run {w : World} (f : Value → ByteArray → Sem (ForInStep ByteArray)) (hf : ∀ n s, f (.int .u8 n) s = pure (ForInStep.yield (s.push (UInt8.ofNat n.toNat)))) : ∀ (cs : List Value) (bs : List UInt8) (s : ByteArray), bytesV cs = some bs →
    (forIn (m := Sem) cs s f).run P w = .ok ⟨(s.data.toList ++ bs).toArray⟩ w
  | [], bs, s, h => by
    simp [bytesV] at h; subst h
    simp
  | c :: cs, bs, s, h => by
    have hc : ∃ n, c = .int .u8 n := by
      cases c with
      | int k n => cases k <;> first | exact ⟨n, rfl⟩ | (simp [bytesV] at h)
      | _ => simp [bytesV] at h
    obtain ⟨n, rfl⟩ := hc
    simp only [bytesV] at h
    cases hb : bytesV cs with
    | none => simp [hb] at h
    | some bs' =>
      simp [hb] at h; subst h
      have := bytesV_run (w := w) f hf cs bs' (s.push (UInt8.ofNat n.toNat)) hb
      rw [List.forIn_cons]
      simp only [Sem.run_bind, hf, Sem.run_pure, Result.andThen_ok]
      rw [this]
      simp [ByteArray.push]
theorem convW_sound {w : World} {s d : Nat} {x : Value} {K : Value → Heap → Prop} (h : convW P w.heap s d x K) : Ends P w (convert s d x) K := by
  unfold convW at h
  split at h
  · rename_i ds e x hs hd
    split at h
    · rename_i he
      obtain ⟨hcap, hch, hrest⟩ := choose_cap (w := w) x.size 0 e
      generalize hcp : Question.cut _ _ = cap at hcap
      refine ⟨.slice (some ⟨w.heap.size, 0, none⟩) x.size cap, { w.drew with heap := w.heap.push (.cells ((x.data.toList.map fun b => Value.int .u8 b.toNat) ++ List.replicate (cap - x.size) (Value.int .u8 0)).toArray e (cap, cap + 1)) }, ?_, h cap hcap, rfl, rfl, rfl⟩
      simp [convert, run_underlying hs, run_underlying hd, run_underlying he, Conv.stringToBytes, hch, hcp, newRow, markStringish]
      generalize hcs : Array.map (fun b : UInt8 => Value.int .u8 b.toNat) x.data ++ Array.replicate (cap - x.size) (Value.int .u8 0) = cs
      have hsz : cs.size = cap := by
        have h1 : x.data.size = x.size := rfl
        rw [← hcs]; simp [h1]; omega
      have hcl : ((x.data.toList.map fun b => Value.int .u8 b.toNat) ++ List.replicate (cap - x.size) (Value.int .u8 0)).toArray = cs := by
        rw [← hcs]; apply Array.ext'; simp
      rw [hcl]
      have hsh : (w.drew.alloc (.cells cs e)).shape? w.heap.size = some (e, cap) := by
        show (match (w.heap.push (.cells cs e))[w.heap.size]? with | some (.cells c elem _) => some (elem, c.size) | _ => none) = _
        simp [hsz]
      rw [hsh]
      have hfr : ((w.drew.alloc (.cells cs e)).freeze ⟨w.heap.size, cap, none⟩ 1) = { w.drew with heap := w.heap.push (.cells cs e (cap, cap + 1)) } := by
        have : (w.heap.push (.cells cs e)).modify w.heap.size (fun
            | .cells c elem (lo, hi) => .cells c elem (if lo == hi then (cap, cap + 1) else (min lo cap, max hi (cap + 1)))
            | o => o) = w.heap.push (.cells cs e (cap, cap + 1)) := by
          apply Array.ext_getElem?
          intro i
          rw [Array.getElem?_modify]
          by_cases hi : w.heap.size = i
          · subst hi; simp
          · simp [hi, Array.getElem?_push, Ne.symm hi]
        show ({ w.drew with heap := _ } : World) = _
        rw [← this]
        rfl
      simp only [run_freeze, Result.andThen_ok]
      rw [hfr]
      rfl
    · exact h.elim
  · rename_i e a n c hs hd
    split at h
    · rename_i he
      obtain ⟨cs, hcs, h⟩ := obind_elim h
      obtain ⟨bs, hbs, hk⟩ := obind_elim h
      refine Ends.ok (h' := w.heap) ?_ hk
      cases a with
      | none =>
        simp [srcCells] at hcs; subst hcs
        simp [bytesV] at hbs; subst hbs
        simp [convert, run_underlying hs, run_underlying hd, run_underlying he, Conv.bytesToString]
        rfl
      | some a =>
        obtain ⟨b, o, sp⟩ := a
        cases sp with
        | some sp => simp [srcCells] at hcs
        | none =>
          simp only [srcCells] at hcs
          have hl := run_loadCells_of (P := P) hcs
          simp [convert, run_underlying hs, run_underlying hd, run_underlying he, Conv.bytesToString, hl]
          rw [bytesV_run (P := P) (w := w) _ (fun n s => rfl) cs bs ByteArray.empty hbs]
          simp
    · exact h.elim
  · rename_i e0 e b o n c hs hd
    split at h
    · rename_i hsd
      subst hsd
      split at h
      · rename_i he
        split at h
        · rename_i cs t hb
          refine Ends.ok (h' := w.heap.setIfInBounds b (.cells cs t (cs.size, cs.size + 1))) ?_ h
          have hmod : w.heap.modify b (fun
              | .cells c elem (lo, hi) => .cells c elem (if lo == hi then (cs.size, cs.size + 1) else (min lo cs.size, max hi (cs.size + 1)))
              | o => o) = w.heap.setIfInBounds b (.cells cs t (cs.size, cs.size + 1)) := by
            apply Array.ext_getElem?
            intro i
            rw [Array.getElem?_modify, Array.getElem?_setIfInBounds]
            by_cases hi : b = i
            · subst hi
              have hg := Array.getElem?_eq_some_iff.1 hb
              simp [hg.1, hg.2]
            · simp [hi]
          have hsh : w.shape? b = some (t, cs.size) := by simp [World.shape?, hb]
          have ee : e0 = e := by rw [hs] at hd; injection hd with h1; injection h1
          subst ee
          have hfr : w.freeze ⟨b, cs.size, none⟩ 1 = { w with heap := w.heap.setIfInBounds b (.cells cs t (cs.size, cs.size + 1)) } := by
            rw [← hmod]; rfl
          simp [convert, run_underlying hs, run_underlying he, markStringish, hsh]
          exact hfr
        · exact h.elim
      · exact h.elim
    · exact h.elim
  · obtain ⟨v, hv, hk⟩ := obind_elim h
    exact Ends.ok (h' := w.heap) (by simp [run_convV hv]) hk
end Go.SX
namespace Go.SX
open Go.RowKit
variable {P : Program}
theorem Ends.upn {w : World} {s : Sem Value} {K : Value → Heap → Prop} (h : Ends P w s K) : Upn P w K ((do pure (Next.value (← s)) : Sem Next).run P w) := by
  obtain ⟨v, w', h1, h2, h3⟩ := h
  simp [h1]
  exact ⟨h2, h3⟩
theorem eop_sound {fr : Fr} {w : World} {op : Op} {K : Value → Heap → Prop} (h : eop P fr w.heap op K) {ρ : Operand → Value} (hρ : Tells fr ρ) (d : Option Tmp) (ty : TypeId) (pos : String) (af : Array Edge) (g : Option (Nat × Bool)) :
    Upn P w K ((execOp ρ ⟨d, op, ty, pos, af, g⟩).run P w) := by
  cases op <;> simp only [eop] at h <;> try (exact h.elim)
  case alloc t =>
    obtain ⟨z, hz, hk⟩ := obind_elim h
    unfold zc at hz
    cases hz0 : zeroP P t with
    | none => simp [hz0] at hz
    | some z0 =>
      simp [hz0] at hz
      have ez : z.toArray = z0.cells := by rw [← hz]
      rw [ez] at hk
      refine Ends.upn (Ends.ok (h' := w.heap.push (.cells z0.cells t (0, 0))) ?_ hk)
      simp [Instr.alloc, run_zeroP hz0, newVar, newRow]
  case box t x =>
    obtain ⟨v, hv, hk⟩ := obind_elim h
    simp only [execOp, hρ x v hv]
    refine Ends.upn (Ends.ok ?_ hk)
    simp [Instr.box, newVar, newRow]
  case buildSlice t n ps =>
    obtain ⟨vs, hvs, h⟩ := obind_elim h
    obtain ⟨⟨e, size⟩, he, hn, h⟩ := obind_elim h
    obtain ⟨z, hz, h⟩ := obind_elim h
    obtain ⟨cs, hcs, hk⟩ := obind_elim h
    obtain ⟨hu, hs⟩ := slE_spec he
    have e0 := evP_tells hρ hvs
    have e1 : ps.map (fun p => (p.1, ρ p.2)) = vs.toArray := by obtain ⟨ps⟩ := ps; subst e0; simp
    simp only [execOp]
    have e2 : (ps.map fun (x : Nat × Operand) => match x with | (i, x) => (i, ρ x)) = vs.toArray := e1
    rw [e2]
    refine Ends.upn (Ends.ok ?_ hk)
    simp only at hcs hn
    have hfill := fill_eq (fun i => some (i * size, size)) vs (vs.map fun p => (p.1 * size, size, p.2)) (if n * size = 0 then [] else mkCells z (n * size)) cs
      (fun i hi => ⟨vs[i], (vs[i].1 * size, size, vs[i].2), by simp [hi], by simp [hi], rfl, rfl⟩) (by simp) hcs
    by_cases hz1 : n * size = 0
    · simp [hz1] at hfill
      have em : (Array.range 0).map (fun _ : Nat => (default : Value)) = #[] := Array.ext' (by simp)
      simp [Instr.buildSlice, run_underlying hu, szP_run hs, hz1, newRow, hfill, em]
    · have hmk : (mkCells z (n * size)).toArray = (Array.range (n * size)).map (fun i => z.cells[i % z.cells.size]!) := by simp [mkCells]; apply Array.ext'; simp
      rw [if_neg hz1, hmk] at hfill
      have hn' : ¬ (16777216 < n * size) := by omega
      simp [Instr.buildSlice, run_underlying hu, szP_run hs, hz1, hn', run_zeroP hz, newRow, hfill]
  case store t a x =>
    obtain ⟨av, ha, h⟩ := obind_elim h
    obtain ⟨v, hv, h⟩ := obind_elim h
    obtain ⟨⟨b, o⟩, hbo, h⟩ := obind_elim h
    obtain ⟨n, hn, hsz, h⟩ := obind_elim h
    obtain ⟨h', hw, hk⟩ := obind_elim h
    have hav : av = ptr b o := by
      unfold addrV at hbo
      split at hbo
      · cases hbo; rfl
      · cases hbo
    subst hav
    simp only [execOp, hρ a _ ha, hρ x v hv]
    have hrun := run_wr (P := P) hw
    have : (Instr.storeAt t (ptr b o) v).run P w = .ok () { w with heap := h' } := by
      simp [Instr.storeAt, Instr.sureAddr, storeVar, szP_run hn, hsz, hrun]
    simp [this]
    exact ⟨hk, rfl, rfl, rfl⟩
  case mapUpdate t m k v =>
    obtain ⟨mv, hm, h⟩ := obind_elim h
    obtain ⟨kv, hk, h⟩ := obind_elim h
    obtain ⟨vv, hv, h⟩ := obind_elim h
    obtain ⟨h', hrun, hK⟩ := mapUpW_sound h
    simp only [execOp, hρ m _ hm, hρ k _ hk, hρ v _ hv]
    simp [hrun]
    exact ⟨hK, rfl, rfl, rfl⟩
  case insert t m k v =>
    obtain ⟨mv, hm, h⟩ := obind_elim h
    obtain ⟨kv, hk, h⟩ := obind_elim h
    obtain ⟨vv, hv, h⟩ := obind_elim h
    obtain ⟨h', hrun, hK⟩ := mapUpW_sound h
    simp only [execOp, hρ m _ hm, hρ k _ hk, hρ v _ hv]
    simp [hrun]
    exact ⟨hK, rfl, rfl, rfl⟩
  case makeMap t n =>
    cases n with
    | none =>
      simp only at h
      refine Ends.upn (Ends.ok ?_ h)
      simp [Instr.makeMap]
    | some n =>
      simp only at h
      obtain ⟨nv, hn, h⟩ := obind_elim h
      split at h
      · rename_i hu
        simp only [execOp, Option.map_some, hρ n _ hn]
        refine Ends.upn (Ends.ok ?_ h)
        simp [Instr.makeMap, run_underlying hu, asInt, asIntOf]
      · exact h.elim
  case makeSlice t l c =>
    obtain ⟨lv, hl, h⟩ := obind_elim h
    obtain ⟨cv, hc, h⟩ := obind_elim h
    simp only [execOp, hρ l _ hl, hρ c _ hc]
    exact (makeSliceW_sound h).upn
  case range t x =>
    obtain ⟨v, hv, h⟩ := obind_elim h
    simp only [execOp, hρ x _ hv]
    exact (rangeW_sound h).upn
  case next it s =>
    obtain ⟨v, hv, h⟩ := obind_elim h
    simp only [execOp, hρ it _ hv]
    exact (nextW_sound h).upn
  case convert s d x =>
    obtain ⟨v, hv, h⟩ := obind_elim h
    simp only [execOp, hρ x _ hv]
    exact (convW_sound h).upn
  case call c =>
    obtain ⟨callee, args, ats⟩ := c
    obtain ⟨args⟩ := args
    obtain ⟨ats⟩ := ats
    obtain ⟨vs, hvs, h⟩ := obind_elim h
    have e0 : args.map ρ = vs := evL_tells hρ hvs
    cases callee with
    | invoke r m => exact h.elim
    | value f =>
      simp only at h
      obtain ⟨fv, hf, h⟩ := obind_elim h
      unfold callW at h
      split at h
      · rename_i f' first cap
        have := h w rfl
        simp only [execOp, resolve, hρ f _ hf, Deferred.ofValue]
        have e3 : (first.toList ++ vs ++ cap.toList).toArray = first ++ (vs.toArray ++ cap) := by apply Array.ext'; simp
        rw [e3] at this
        simp [invoke, e0]
        exact this
      · exact h.elim
    | builtin b =>
      cases b <;> simp only at h <;> try (exact h.elim)
      case append =>
        rcases vs with _ | ⟨s, _ | ⟨x, _ | ⟨y, l⟩⟩⟩ <;> rcases ats with _ | ⟨t, _ | ⟨tx, ats⟩⟩ <;> simp only at h <;> try (exact h.elim)
        have hs := appendW_sound (ty := ty) h
        have e1 : (args.toArray.map ρ) = #[s, x] := by simp [e0]
        have e2 : (Builtin.append_ (t :: tx :: ats).toArray ty #[s, x]) = Builtin.append_ #[t, tx] ty #[s, x] := by simp [Builtin.append_]
        simp only [execOp, resolve, e1]
        have := hs.upn
        rw [← e2] at this
        simpa [invoke, builtin] using this
      case copy =>
        rcases vs with _ | ⟨s, _ | ⟨x, _ | ⟨y, l⟩⟩⟩ <;> rcases ats with _ | ⟨t, ats⟩ <;> simp only at h <;> try (exact h.elim)
        have hs := copyW_sound (ty := ty) (ts := ats) h
        have e1 : (args.toArray.map ρ) = #[s, x] := by simp [e0]
        simp only [execOp, resolve, e1]
        simpa [invoke, builtin] using hs.upn
      case clear =>
        rcases vs with _ | ⟨x, _ | ⟨y, l⟩⟩ <;> rcases ats with _ | ⟨t, ats⟩ <;> simp only at h <;> try (exact h.elim)
        obtain ⟨hu, h⟩ := h
        have hs := clearW_sound (ty := ty) (ts := ats) hu h
        have e1 : (args.toArray.map ρ) = #[x] := by simp [e0]
        simp only [execOp, resolve, e1]
        simpa [invoke, builtin] using hs.upn
      case delete =>
        rcases vs with _ | ⟨s, _ | ⟨x, _ | ⟨y, l⟩⟩⟩ <;> rcases ats with _ | ⟨t, ats⟩ <;> simp only at h <;> try (exact h.elim)
        have hs := deleteW_sound (ty := ty) (ts := ats) h
        have e1 : (args.toArray.map ρ) = #[s, x] := by simp [e0]
        simp only [execOp, resolve, e1]
        simpa [invoke, builtin] using hs.upn
end Go.SX
