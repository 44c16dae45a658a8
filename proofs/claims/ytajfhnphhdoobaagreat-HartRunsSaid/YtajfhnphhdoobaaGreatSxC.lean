/- The intermediate code, its meaning, and the function that makes it out of the model's code. A great function's compiled text, checked region by region: each region that draws its order in a theorem of its own. The meaning of the compiled code holds of the code. Regions that draw their order. The compiled code's meaning holds of the code: regions that draw, whole codes, whole functions. A great function's compiled text, checked without working out what is live: the text itself says which slots are kept; each region that draws its order in a theorem of its own. -/
import Derived.Test.YtajfhnphhdoobaaGreatSxB
set_option linter.unusedVariables false
set_option linter.unusedSimpArgs false
namespace Go.SX
open Go.RowKit
variable {P : Program}
structure SOp where
  dst : Option Tmp
  op : Op
  eff : Bool
  grd : Option (Tmp × Bool)
inductive SC where
  | skip
  | ops (l : List SOp)
  | seq (a b : SC)
  | keep (l : List Nat)
  | cond (c : Operand) (a b : SC)
  | block (id : Nat) (b : SC)
  | loop (b : SC)
  | amb (a b : SC)
  | exit (id : Nat)
  | ret
  | done
inductive Ex | norm | exit (id : Nat) | ret
def oneW (P : Program) (o : SOp) (fr : Fr) (h : Heap) (K : Fr → Heap → Prop) : Prop :=
  bif o.eff then eop P fr h o.op fun v h' => K (fr.put o.dst v) h' else obind (rop P fr h o.op) fun v => K (fr.put o.dst v) h
def iOps (P : Program) : List SOp → Fr → Heap → (Fr → Heap → Prop) → Prop
  | [], fr, h, K => K fr h
  | o :: r, fr, h, K =>
    match o.grd with
    | none => oneW P o fr h fun fr h => iOps P r fr h K
    | some (d, want) => obind (fr d) fun v => match v with
      | .bool t => (t = want → oneW P o (fr.up d (.bool want)) h fun fr h => iOps P r fr h K) ∧ (t = (!want) → iOps P r ((fr.up d (.bool (!want))).put o.dst undef) h K)
      | _ => iOps P r (fr.put o.dst undef) h K
def seqK (K : Fr → Heap → Prop) (Q : Ex → Fr → Heap → Prop) : Ex → Fr → Heap → Prop
  | .norm => K
  | .exit id => Q (.exit id)
  | .ret => Q .ret
def blockK (id : Nat) (Q : Ex → Fr → Heap → Prop) : Ex → Fr → Heap → Prop
  | .norm => Q .norm
  | .exit id' => bif id' == id then Q .norm else Q (.exit id')
  | .ret => Q .ret
/-- A loop: a relation 'I' that holds at every round's head, with a number that falls. -/
def LoopW (body : (Ex → Fr → Heap → Prop) → Fr → Heap → Prop) (Q : Ex → Fr → Heap → Prop) (fr : Fr) (h : Heap) : Prop :=
  ∃ I : Nat → Fr → Heap → Prop, (∃ k, I k fr h) ∧ ∀ k fr h, I k fr h → body (seqK (fun fr' h' => ∃ k', k' < k ∧ I k' fr' h') Q) fr h
def iS (P : Program) : SC → (Ex → Fr → Heap → Prop) → Fr → Heap → Prop
  | .skip, Q, fr, h => Q .norm fr h
  | .ops l, Q, fr, h => iOps P l fr h (Q .norm)
  | .seq a b, Q, fr, h => iS P a (seqK (fun fr h => iS P b Q fr h) Q) fr h
  | .keep l, Q, fr, h => Q .norm (fr.keep l) h
  | .cond c a b, Q, fr, h => obind (ev fr c) fun v => match v with
    | .bool t => (t = true → iS P a Q fr h) ∧ (t = false → iS P b Q fr h)
    | _ => False
  | .block id b, Q, fr, h => iS P b (blockK id Q) fr h
  | .loop b, Q, fr, h => LoopW (iS P b) Q fr h
  | .amb a b, Q, fr, h => iS P a Q fr h ∧ iS P b Q fr h
  | .exit id, Q, fr, h => Q (.exit id) fr h
  | .ret, Q, fr, h => Q .ret fr h
  | .done, _, _, _ => True
/-- does the operation only read (so that 'rop' speaks of it)? -/
def calmOp (P : Program) : Op → Bool
  | .move _ | .assign _ | .pick .. | .load .. | .nilCheck _ | .binOp .. | .unOp .. | .makeInterface .. | .makeFunc .. | .slice .. | .fieldAddr .. | .field .. | .indexAddr .. | .index .. | .lookup .. | .extract .. | .entry _ | .build .. => true
  | .convert _ d _ => match P.underlying d with | some (.int _) => true | _ => false
  | .call c => match c.callee with
    | .builtin .len | .builtin .cap | .builtin .min | .builtin .max => true
    | _ => false
  | _ => false
/-- an operand that points to nothing. -/
def noPtr : Operand → Bool
  | .const (.pointer (some _)) => false
  | .const _ => true
  | _ => false
def flatT (P : Program) (t : TypeId) : Bool := match P.underlying t with | some (.pointer _) => false | _ => true
/-- does it not even look at memory? -/
def pureOp (P : Program) : Op → Bool
  | .binOp _ t x y _ => flatT P t || noPtr x || noPtr y
  | .load .. | .lookup .. | .entry _ => false
  | .call c => match c.callee with
    | .builtin .cap | .builtin .min | .builtin .max => true
    | .builtin .len => match c.argTypes.toList with
      | t :: _ => match P.underlying t with | some (.slice _) | some .string => true | _ => false
      | _ => false
    | _ => false
  | o => calmOp P o
def slotOf (ops : Array Oper) (j : Nat) : Option Tmp := (ops[j]?).bind (·.dst)
def cvt (P : Program) (ops : Array Oper) (o : Oper) : Option SOp :=
  match o.guard with
  | none => some ⟨o.dst, o.op, !calmOp P o.op, none⟩
  | some (j, want) => (slotOf ops j).map fun d => ⟨o.dst, o.op, !calmOp P o.op, some (d, want)⟩
def cvtAll (P : Program) (ops : Array Oper) : List Oper → Option (List SOp)
  | [] => some []
  | o :: l => (cvt P ops o).bind fun s => (cvtAll P ops l).map (s :: ·)
/-- what waits for operation i, directly or through others. -/
def waiters (ops : Array Oper) (i : Nat) : List Nat :=
  (List.range ops.size).foldl (fun acc j => if j ≠ i && ((ops[j]?).map fun o => o.after.any fun e => Region.binds .any e && acc.contains e.on).getD false then j :: acc else acc) [i]
/-- as long as i waits, no operation comes up that does more than read. -/
def domOK (P : Program) (ops : Array Oper) (listed : Array Bool) (i : Nat) (B : List Nat) : Bool :=
  B.contains i && (B.all fun j => !listed.getD j false && (j == i || match ops[j]? with | some o => o.after.any fun e => Region.binds .any e && B.contains e.on | none => false)) &&
  (List.range ops.size).all fun j => listed.getD j true || B.contains j || ((ops[j]?).map fun o => calmOp P o.op).getD true
/-- does it make a block, and nothing else? -/
def growOp (P : Program) : Op → Bool
  | .alloc t => (zeroP P t).isSome
  | _ => false
def isLoad : Op → Bool
  | .load .. => true
  | _ => false
/-- as long as i waits, no operation comes up that does more than read or make a block. -/
def growOK (P : Program) (ops : Array Oper) (listed : Array Bool) (i : Nat) (B : List Nat) : Bool :=
  B.contains i && (B.all fun j => !listed.getD j false && (j == i || match ops[j]? with | some o => o.after.any fun e => Region.binds .any e && B.contains e.on | none => false)) &&
  (List.range ops.size).all fun j => listed.getD j true || B.contains j || ((ops[j]?).map fun o => calmOp P o.op || growOp P o.op).getD true
def okCalm (P : Program) (ops : Array Oper) (listed : Array Bool) (i : Nat) : Bool :=
  match ops[i]? with
  | none => false
  | some o => calmOp P o.op && Region.free .any ops listed i &&
      (pureOp P o.op || domOK P ops listed i (waiters ops i) || (isLoad o.op && growOK P ops listed i (waiters ops i)))
def calmI (P : Program) (ops : Array Oper) (i : Nat) : Bool := match ops[i]? with | some o => calmOp P o.op | none => false
/-- may two operations that only read change places? -/
def apB (ops : Array Oper) (i j : Nat) : Bool := match ops[i]?, ops[j]? with
  | some a, some b => a.apart ops b && b.apart ops a && !Nat.beq i j
  | _, _ => false
def mkAmb (t r : SC) : SC := match r with | .done => t | r => .amb t r
/-- each of them as the next; what sleeps is told elsewhere: it only reads, and the orders in which it comes next are among those told. -/
def brZ (P : Program) (ops : Array Oper) (f : Nat → List Nat → Option SC) : List Nat → List Nat → Option SC
  | _, [] => some .done
  | Z, i :: l => if Z.contains i = true then brZ P ops f Z l else
    (f i (if calmI P ops i = true then Z.filter (apB ops i) else [])).bind fun t => (brZ P ops f (if calmI P ops i = true then i :: Z else Z) l).map fun r => mkAmb t r
/-- all orders, up to changes of place among operations that only read; 'Z': what sleeps. -/
def orders (P : Program) (ops : Array Oper) : Nat → List Nat → Array Bool → Option SC
  | 0, _, _ => none
  | n + 1, Z, listed =>
    let f := fun i Z' => (ops[i]?).bind fun o => (cvt P ops o).bind fun s => (orders P ops n Z' (listed.setIfInBounds i true)).map fun t => SC.seq (.ops [s]) t
    match Region.ready .any ops listed with
    | [] => some .skip
    | i0 :: rest =>
      match (i0 :: rest).find? (fun i => !Z.contains i && okCalm P ops listed i) with
      | some i => f i (Z.filter (apB ops i))
      | none => brZ P ops f Z (i0 :: rest)
def cbr (P : Program) (ops : Array Oper) (f : Nat → List Nat → Nat → Nat) : List Nat → List Nat → Nat → Nat
  | _, [], b => b
  | Z, i :: l, b => if Z.contains i = true then cbr P ops f Z l b else
    let b' := f i (if calmI P ops i = true then Z.filter (apB ops i) else []) b
    bif Nat.beq b' 0 then 0 else cbr P ops f (if calmI P ops i = true then i :: Z else Z) l b'
/-- how many orders there are, up to a limit; 'b': what is left of the limit; 0: there are more. -/
def cnt (P : Program) (ops : Array Oper) : Nat → List Nat → Array Bool → Nat → Nat
  | 0, _, _, b => b
  | n + 1, Z, listed, b =>
    match Region.ready .any ops listed with
    | [] => b - 1
    | i0 :: rest =>
      match (i0 :: rest).find? (fun i => !Z.contains i && okCalm P ops listed i) with
      | some i => cnt P ops n (Z.filter (apB ops i)) (listed.setIfInBounds i true) b
      | none => cbr P ops (fun i Z' b => cnt P ops n Z' (listed.setIfInBounds i true) b) Z (i0 :: rest) (b - 1)
/-- code of which nothing is said. -/
def badC : SC := .cond (.const .nilFunc) .skip .skip
def ins (x : Nat) : List Nat → List Nat
  | [] => [x]
  | y :: l => if Nat.blt x y then x :: y :: l else if Nat.beq x y then y :: l else y :: ins x l
def uni (a b : List Nat) : List Nat := a.foldl (fun acc x => ins x acc) b
def opdTmp : Operand → Option Nat | .tmp t => some t | _ => none
def liveOps (ops : Array Oper) (L : List Nat) : List Nat :=
  ops.toList.foldr (fun o acc =>
    let acc := match o.dst with | some d => acc.filter fun x => !Nat.beq x d | none => acc
    let acc := match o.guard with | some (j, _) => (match slotOf ops j with | some d => ins d acc | none => acc) | none => acc
    o.op.operands.toList.foldl (fun acc x => match opdTmp x with | some t => ins t acc | none => acc) acc) L
def look (ex : List (Nat × List Nat)) (id : Nat) : List Nat := match ex with | [] => [] | (i, l) :: r => if Nat.beq i id then l else look r id
/-- the compiled code, and the slots that it asks for; 'R': the results', 'ex': at the exits, 'L': behind. -/
def compile (P : Program) (R : List Nat) : List (Nat × List Nat) → List Nat → Code → Option (SC × List Nat)
  | _, L, .skip => some (.skip, L)
  | _, L, .region _ ops false => (cvtAll P ops ops.toList).map fun l => (.ops l, liveOps ops L)
  | _, L, .region _ ops true => if (Region.noSelect ops && !(cnt P ops (ops.size + 1) [] (Array.replicate ops.size false) 200 == 0)) = true then (orders P ops (ops.size + 1) [] (Array.replicate ops.size false)).map fun t => (t, liveOps ops L) else some (badC, liveOps ops L)
  | ex, L, .seq a b => (compile P R ex L b).bind fun t => (compile P R ex t.2 a).map fun s => (.seq s.1 (.seq (.keep t.2) t.1), s.2)
  | ex, L, .cond c a b => (compile P R ex L a).bind fun s => (compile P R ex L b).map fun t => (.cond c s.1 t.1, match opdTmp c with | some t' => ins t' (uni s.2 t.2) | none => uni s.2 t.2)
  | ex, L, .block id b => (compile P R ((id, L) :: ex) L b).map fun s => (.block id s.1, s.2)
  | ex, _, .loop b => (compile P R ex [] b).bind fun s => (compile P R ex s.2 b).bind fun t => (compile P R ex t.2 b).map fun u => (.loop (.seq u.1 (.keep u.2)), u.2)
  | ex, L, .scope b => compile P R ex L b
  | ex, _, .exit id => some (.exit id, look ex id)
  | _, _, .ret => some (.ret, R)
  | _, L, _ => some (badC, L)
/-- all that the code writes lies in the frame. -/
def fitsOps (n : Nat) (ops : Array Oper) : Bool := ops.toList.all fun o => match o.dst with | some d => d < n | none => true
def fits (n : Nat) : Code → Bool
  | .region _ ops _ => fitsOps n ops
  | .seq a b | .cond _ a b => fits n a && fits n b
  | .block _ b | .loop b | .scope b => fits n b
  | _ => true
end Go.SX
namespace Go.SX
/-- the regions that draw their orders, in the order of the text. -/
def regs : Code → List (Array Oper)
  | .region _ ops true => [ops]
  | .seq a b => regs a ++ regs b
  | .cond _ a b => regs a ++ regs b
  | .block _ b => regs b
  | .loop b => regs b
  | .scope b => regs b
  | _ => []
def nreg : Code → Nat
  | .region _ _ true => 1
  | .seq a b => nreg a + nreg b
  | .cond _ a b => nreg a + nreg b
  | .block _ b => nreg b
  | .loop b => nreg b
  | .scope b => nreg b
  | _ => 0
/-- what such a region compiles to. -/
def regC (P : Program) (ops : Array Oper) : Option SC :=
  if (Region.noSelect ops && !(cnt P ops (ops.size + 1) [] (Array.replicate ops.size false) 200 == 0)) = true then orders P ops (ops.size + 1) [] (Array.replicate ops.size false) else some badC
def lookO : List (Nat × SC) → Nat → Option SC
  | [], _ => none
  | (i, t) :: l, k => if Nat.beq i k then some t else lookO l k
end Go.SX
namespace Go.SX
open Go.RowKit
variable {P : Program}
/-- The post of a code, said of acts and worlds. -/
def QL (n : Nat) (w : World) (Q : Ex → Fr → Heap → Prop) : Exit → Act → World → Prop
  | .normal, a, w' => Rest w w' ∧ ∃ fr, Agree n fr a ∧ Q .norm fr w'.heap
  | .exit id, a, w' => Rest w w' ∧ ∃ fr, Agree n fr a ∧ Q (.exit id) fr w'.heap
  | .ret, a, w' => Rest w w' ∧ ∃ fr, Agree n fr a ∧ Q .ret fr w'.heap
  | _, _, _ => False
def SemC (P : Program) (n : Nat) (c : Code) (Q : Ex → Fr → Heap → Prop) (fr : Fr) (h : Heap) : Prop :=
  ∀ a w, Agree n fr a → w.heap = h → c.wp P (QL n w Q) a w
theorem QL.rest {n : Nat} {w w1 : World} {Q : Ex → Fr → Heap → Prop} (hr : Rest w w1) : ∀ e a w', QL n w1 Q e a w' → QL n w Q e a w' := by
  intro e a w' h
  cases e <;> simp only [QL] at h ⊢ <;> exact ⟨hr.trans h.1, h.2⟩
theorem upn_upon {o : Oper} {a : Act} {w : World} {K : Value → Heap → Prop} {next : Act → World → Prop} {Q : Exit → Act → World → Prop} {r : Result Next} (h : Upn P w K r)
    (hn : ∀ v w', K v w'.heap → Rest w w' → next (a.put o.dst v) w') : o.upon P a next Q r := by
  unfold Upn at h
  split at h
  · exact hn _ _ h.1 h.2
  · exact hn _ _ h.1 h.2
  · refine h.2.mono ?_
    rintro e w'' ⟨v, rfl, hk, hr⟩
    exact hn _ _ hk (h.1.trans hr)
  · exact h.elim
theorem Agree.tells {n : Nat} {fr : Fr} {a : Act} (h : Agree n fr a) : Tells fr a.eval := fun _ _ e => h.ev e
theorem oneW_sound {o : Oper} {s : SOp} {n : Nat} {fr : Fr} {a : Act} {w : World} {K : Fr → Heap → Prop} {next : Act → World → Prop} {Q : Exit → Act → World → Prop}
    (h1 : s.dst = o.dst) (h2 : s.op = o.op) (hd : ∀ d, o.dst = some d → d < n) (ha : Agree n fr a) (h : oneW P s fr w.heap K)
    (hn : ∀ fr' a' w', Agree n fr' a' → K fr' w'.heap → Rest w w' → next a' w') : o.wp P a w next Q := by
  unfold oneW at h
  rw [h1, h2] at h
  unfold Oper.wp
  cases he : s.eff with
  | true =>
    rw [he] at h
    simp only [cond_true] at h
    exact upn_upon (eop_sound h ha.tells o.dst o.type o.pos o.after o.guard) fun v w' hk hr => hn _ _ _ (ha.put hd v) hk hr
  | false =>
    rw [he] at h
    simp only [cond_false] at h
    obtain ⟨v, hv, hk⟩ := obind_elim h
    have hrun := rop_sound hv ha.tells o.dst o.type o.pos o.after o.guard
    have hrun' : (execOp a.eval o).run P w = .ok (.value v) w := hrun
    rw [hrun']
    exact hn _ _ _ (ha.put hd v) hk (Rest.refl w)
theorem undef_noBool (t : Bool) : undef ≠ .bool t := by unfold undef; simp
theorem slot_yielded {ops : Array Oper} {a : Act} {j d n : Nat} {fr : Fr} {t : Bool} (ha : Agree n fr a) (hs : slotOf ops j = some d) (hf : fr d = some (.bool t)) : yielded ops a.tmps j = some t := by
  have h1 := ha.2.2 d _ hf
  unfold slotOf at hs
  unfold yielded
  rw [hs]
  simp only [Option.bind_some]
  cases hx : a.tmps[d]? with
  | none => rw [Array.getD_eq_getD_getElem?, hx] at h1; exact absurd h1 (undef_noBool t)
  | some v => rw [Array.getD_eq_getD_getElem?, hx] at h1; simp at h1; subst h1; rfl
theorem slot_none {ops : Array Oper} {a : Act} {j d n : Nat} {fr : Fr} {v : Value} (ha : Agree n fr a) (hs : slotOf ops j = some d) (hf : fr d = some v) (hv : ∀ t, v ≠ .bool t) : yielded ops a.tmps j = none := by
  have h1 := ha.2.2 d _ hf
  unfold slotOf at hs
  unfold yielded
  rw [hs]
  simp only [Option.bind_some]
  cases hx : a.tmps[d]? with
  | none => rfl
  | some u =>
    rw [Array.getD_eq_getD_getElem?, hx] at h1
    simp at h1
    cases u with
    | bool t => exact absurd h1.symm (hv t)
    | _ => rfl
theorem Agree.upSame {n : Nat} {fr : Fr} {a : Act} (ha : Agree n fr a) {d : Nat} {v : Value} (h : fr d = some v) : Agree n (fr.up d v) a := by
  refine ⟨ha.1, ha.2.1, fun i u e => ?_⟩
  unfold Fr.up at e
  cases hb : (i == d) with
  | true => rw [hb] at e; have := eq_of_beq hb; subst this; simp at e; subst e; exact ha.2.2 _ _ h
  | false => rw [hb] at e; exact ha.2.2 i u (by simpa using e)
theorem op_sound {ops : Array Oper} {i : Nat} {o : Oper} {s : SOp} {n : Nat} {fr : Fr} {a : Act} {w : World} {K : Fr → Heap → Prop} {next : Act → World → Prop} {Q : Exit → Act → World → Prop}
    (hi : ops[i]? = some o) (hs : cvt P ops o = some s) (hd : ∀ d, o.dst = some d → d < n) (ha : Agree n fr a) (h : iOps P [s] fr w.heap K)
    (hn : ∀ fr' a' w', Agree n fr' a' → K fr' w'.heap → Rest w w' → next a' w') : wpOp P ops Q i next a w := by
  unfold wpOp
  simp only [hi]
  unfold cvt at hs
  cases hg : o.guard with
  | none =>
    rw [hg] at hs
    cases hs
    rw [if_pos (by simp [Region.wanted, hg])]
    exact .inl (oneW_sound rfl rfl hd ha h hn)
  | some jw =>
    obtain ⟨j, want⟩ := jw
    rw [hg] at hs
    simp only at hs
    cases hsl : slotOf ops j with
    | none => simp [hsl] at hs
    | some d =>
      simp [hsl] at hs
      subst hs
      obtain ⟨v, hv, h⟩ := obind_elim h
      by_cases hb : ∀ t, v ≠ .bool t
      · have hy := slot_none ha hsl hv hb
        rw [if_neg (by simp [Region.wanted, hg, hy])]
        have h' : K (fr.put o.dst undef) w.heap := by
          cases v <;> first | exact h | exact absurd rfl (hb _)
        exact hn _ _ _ (ha.put hd undef) h' (Rest.refl w)
      have hb2 : ∃ t, v = .bool t := Classical.byContradiction fun hc => hb fun t e => hc ⟨t, e⟩
      obtain ⟨t, rfl⟩ := hb2
      simp only at h
      have hy := slot_yielded ha hsl hv
      by_cases htw : t = want
      · subst htw
        rw [if_pos (by simp [Region.wanted, hg, hy])]
        exact .inl (oneW_sound rfl rfl hd (ha.upSame hv) (h.1 rfl) hn)
      · have ht : t = !want := by cases t <;> cases want <;> simp_all
        rw [if_neg (by simp [Region.wanted, hg, hy]; exact htw)]
        subst ht
        exact hn _ _ _ ((ha.upSame hv).put hd undef) (h.2 rfl) (Rest.refl w)
theorem iOps_cons (s : SOp) (r : List SOp) (fr : Fr) (h : Heap) (K : Fr → Heap → Prop) : iOps P (s :: r) fr h K = iOps P [s] fr h fun fr h => iOps P r fr h K := by
  cases hg : s.grd with
  | none => simp [iOps, hg]
  | some d => simp [iOps, hg]
theorem fitsOps_spec {n : Nat} {ops : Array Oper} (h : fitsOps n ops = true) {i : Nat} {o : Oper} (hi : ops[i]? = some o) : ∀ d, o.dst = some d → d < n := by
  intro d hd
  have hm : o ∈ ops.toList := by simpa using Array.mem_of_getElem? hi
  have := List.all_eq_true.1 h o hm
  simpa [hd] using this
theorem cvtAll_spec {ops : Array Oper} : ∀ {l : List Oper} {ss : List SOp}, cvtAll P ops l = some ss → l.length = ss.length ∧ ∀ (i : Nat) (o : Oper) (s : SOp), l[i]? = some o → ss[i]? = some s → cvt P ops o = some s
  | [], ss, h => by simp [cvtAll] at h; subst h; simp
  | o :: l, ss, h => by
    simp only [cvtAll] at h
    cases h1 : cvt P ops o with
    | none => simp [h1] at h
    | some s =>
      cases h2 : cvtAll P ops l with
      | none => simp [h1, h2] at h
      | some ss' =>
        simp [h1, h2] at h; subst h
        obtain ⟨e1, e2⟩ := cvtAll_spec h2
        refine ⟨by simp [e1], fun i o' s' ho hs => ?_⟩
        cases i with
        | zero => simp at ho hs; subst ho; subst hs; exact h1
        | succ i => exact e2 i o' s' (by simpa using ho) (by simpa using hs)
/-- a region in the order of its text. -/
theorem region_sound {ops : Array Oper} {n : Nat} {Q : Exit → Act → World → Prop} (hf : fitsOps n ops = true) (ss : List SOp) (hlen : ops.size = ss.length) (hss : ∀ (i : Nat) (o : Oper) (s : SOp), ops[i]? = some o → ss[i]? = some s → cvt P ops o = some s) :
    ∀ (k m : Nat) (fr : Fr) (a : Act) (w : World) (K : Fr → Heap → Prop), m + k = ops.size → Agree n fr a → iOps P (ss.drop m) fr w.heap K →
    (∀ fr' a' w', Agree n fr' a' → K fr' w'.heap → Rest w w' → Q .normal a' w') → wpOps P ops Q (List.range' m k) a w := by
  intro k
  induction k with
  | zero =>
    intro m fr a w K hm ha h hn
    have : ss.drop m = [] := by rw [List.drop_eq_nil_iff]; omega
    rw [this] at h
    exact hn _ _ _ ha h (Rest.refl w)
  | succ k ih =>
    intro m fr a w K hm ha h hn
    rw [List.range'_succ, wpOps_cons]
    have hlt : m < ops.size := by omega
    have hlt' : m < ss.length := by omega
    have hi : ops[m]? = some ops[m] := by simp [hlt]
    have hsi : ss[m]? = some ss[m] := by simp [hlt']
    have hdrop : ss.drop m = ss[m] :: ss.drop (m + 1) := by rw [List.drop_eq_getElem_cons hlt']
    rw [hdrop, iOps_cons] at h
    refine op_sound hi (hss m _ _ hi hsi) (fitsOps_spec hf hi) ha h fun fr' a' w' ha' h' hr => ?_
    exact ih (m + 1) fr' a' w' K (by omega) ha' h' fun fr'' a'' w'' h1 h2 h3 => hn _ _ _ h1 h2 (hr.trans h3)
end Go.SX
namespace Go.SX
open Go.RowKit
variable {P : Program} {ops : Array Oper} {Q : Exit → Act → World → Prop}
/-- In every world with this heap operation 'o' leaves 'v'. -/
def YH (P : Program) (ops : Array Oper) (o : Oper) (v : Value) (a : Act) (h : Heap) : Prop :=
  (Region.wanted o (yielded ops a.tmps) = true ∧ ∀ w : World, w.heap = h → (execOp a.eval o).run P w = .ok (.value v) w) ∨
  (Region.wanted o (yielded ops a.tmps) = false ∧ v = undef)
def wpOpC (P : Program) (ops : Array Oper) (Q : Exit → Act → World → Prop) (i : Nat) (K : Act → World → Prop) (a : Act) (w : World) : Prop :=
  match ops[i]? with
  | none => K a w
  | some o => if calmOp P o.op = true then ∃ v, YH P ops o v a w.heap ∧ K (a.put o.dst v) w else wpOp P ops Q i K a w
def wpAnyC (P : Program) (ops : Array Oper) (Q : Exit → Act → World → Prop) : Nat → Array Bool → Act → World → Prop
  | 0, listed, a, w => Region.ready .any ops listed = [] ∧ Q .normal a w
  | fuel + 1, listed, a, w =>
    (Region.ready .any ops listed = [] → Q .normal a w) ∧
    ∀ i ∈ Region.ready .any ops listed, wpOpC P ops Q i (wpAnyC P ops Q fuel (listed.setIfInBounds i true)) a w
theorem wpOp_of_C {i : Nat} {K K' : Act → World → Prop} {a : Act} {w : World} (hK : ∀ a w, K a w → K' a w) (h : wpOpC P ops Q i K a w) : wpOp P ops Q i K' a w := by
  unfold wpOpC at h
  cases hi : ops[i]? with
  | none => rw [hi] at h; unfold wpOp; simp only [hi]; exact hK _ _ h
  | some o =>
    rw [hi] at h
    simp only at h
    split at h
    · obtain ⟨v, hy, hk⟩ := h
      unfold wpOp
      simp only [hi]
      rcases hy with ⟨hw, hr⟩ | ⟨hw, rfl⟩
      · rw [if_pos hw]
        refine .inl ?_
        unfold Oper.wp
        rw [hr w rfl]
        exact hK _ _ hk
      · rw [if_neg (by simp [hw])]
        exact hK _ _ hk
    · exact wpOp_mono hK h
theorem wpAny_of_C : ∀ (fuel : Nat) (listed : Array Bool) (a : Act) (w : World), wpAnyC P ops Q fuel listed a w → wpAny P .any ops Q fuel listed a w
  | 0, _, _, _, h => h
  | fuel + 1, _, _, _, h => ⟨h.1, fun i hi => wpOp_of_C (fun a w => wpAny_of_C fuel _ a w) (h.2 i hi)⟩
theorem YH.put {oi oj : Oper} {v u : Value} {a : Act} {h : Heap} (hap : oi.apart ops oj = true) (hsi : ∀ cs b, oi.op ≠ .select cs b) (hy : YH P ops oi v a h) : YH P ops oi v (a.put oj.dst u) h := by
  obtain ⟨h1, h2, h3⟩ := Oper.apart_spec hap
  unfold YH at *
  rw [execOp_put oi hsi a oj.dst u h3, wanted_put oi a oj.dst u h3]
  exact hy
theorem YH.unput {oi oj : Oper} {v u : Value} {a : Act} {h : Heap} (hap : oi.apart ops oj = true) (hsj : ∀ cs b, oj.op ≠ .select cs b) (hy : YH P ops oj u (a.put oi.dst v) h) : YH P ops oj u a h := by
  obtain ⟨h1, h2, h3⟩ := Oper.apart_spec hap
  unfold YH at *
  rw [execOp_put oj hsj a oi.dst v h1, wanted_put oj a oi.dst v h1] at hy
  exact hy
/-- blocks were made, and nothing else was done. -/
def Grown (h h' : Heap) : Prop := h.size ≤ h'.size ∧ ∀ b : Nat, b < h.size → h'[b]? = h[b]?
theorem Grown.refl (h : Heap) : Grown h h := ⟨Nat.le_refl _, fun _ _ => rfl⟩
theorem Grown.trans {h h1 h2 : Heap} (a : Grown h h1) (b : Grown h1 h2) : Grown h h2 := ⟨Nat.le_trans a.1 b.1, fun x hx => by rw [b.2 x (Nat.lt_of_lt_of_le hx a.1), a.2 x hx]⟩
/-- an operation that makes a block, and another that reads, change places. -/
theorem wpOp_unput {j : Nat} {oi oj : Oper} {v : Value} (hj : ops[j]? = some oj) (hap : oi.apart ops oj = true) (hsj : ∀ cs b, oj.op ≠ .select cs b) (hg : growOp P oj.op = true) {K : Act → World → Prop} {a : Act} {w : World}
    (h : wpOp P ops Q j K (a.put oi.dst v) w) : wpOp P ops Q j (fun a' w' => ∃ u, a' = a.put oj.dst u ∧ K (a'.put oi.dst v) w' ∧ Grown w.heap w'.heap) a w := by
  obtain ⟨h1, h2, h3⟩ := Oper.apart_spec hap
  have hx := execOp_put oj hsj a oi.dst v h1
  have hw0 := wanted_put oj a oi.dst v h1
  obtain ⟨d, op, ty, pos, af, g⟩ := oj
  cases op <;> simp only [growOp] at hg <;> try (cases hg; done)
  rename_i t
  cases hz : zeroP P t with
  | none => rw [hz] at hg; cases hg
  | some z =>
    unfold wpOp at *
    simp only [hj] at *
    rw [hw0] at h
    have hr : ∃ u, (execOp a.eval ⟨d, .alloc t, ty, pos, af, g⟩).run P w = .ok (.value u) { w with heap := w.heap.push (.cells z.cells t (0, 0)) } := by
      refine ⟨.pointer (some ⟨w.heap.size, 0, none⟩), ?_⟩
      simp [execOp, Instr.alloc, run_zeroP hz, newVar, newRow]
    obtain ⟨u, hr⟩ := hr
    split
    · rename_i hw
      rw [if_pos hw] at h
      rcases h with h | ⟨hasks, hlets⟩
      · refine .inl ?_
        unfold Oper.wp at *
        rw [hx, hr] at h
        rw [hr]
        refine ⟨u, rfl, ?_, by show w.heap.size ≤ (w.heap.push _).size; simp, fun b hb => by show (w.heap.push _)[b]? = _; rw [Array.getElem?_push, if_neg (by omega)]⟩
        rw [← Act.put_comm a v u h2]; exact h
      · exact .inr ⟨by unfold Oper.asks at *; rw [hx] at hasks; exact hasks, hlets⟩
    · rename_i hw
      rw [if_neg hw] at h
      refine ⟨undef, rfl, ?_, Grown.refl _⟩
      rw [← Act.put_comm a v undef h2]; exact h
/-- what may be taken first. -/
inductive Dom (P : Program) (ops : Array Oper) (i : Nat) (oi : Oper) (v : Value) (listed : Array Bool) (a : Act) (h : Heap) : Prop
  | grow (hm : ∀ h', Grown h h' → YH P ops oi v a h') (B : List Nat) (hi : i ∈ B) (hb : ∀ j ∈ B, listed.getD j false = false ∧ (j = i ∨ ∃ o, ops[j]? = some o ∧ ∃ e ∈ o.after, Region.binds .any e = true ∧ e.on ∈ B))
      (he : ∀ (j : Nat) (o : Oper), ops[j]? = some o → listed.getD j true = false → j ∈ B ∨ calmOp P o.op = true ∨ growOp P o.op = true)
  | pure (h : ∀ h', YH P ops oi v a h')
  | dom (B : List Nat) (hi : i ∈ B) (hb : ∀ j ∈ B, listed.getD j false = false ∧ (j = i ∨ ∃ o, ops[j]? = some o ∧ ∃ e ∈ o.after, Region.binds .any e = true ∧ e.on ∈ B))
      (he : ∀ (j : Nat) (o : Oper), ops[j]? = some o → listed.getD j true = false → j ∈ B ∨ calmOp P o.op = true)
theorem anyC_first {i : Nat} {oi : Oper} {v : Value} (hi : ops[i]? = some oi) (hsel : ∀ (j : Nat) (o : Oper) cs b, ops[j]? = some o → o.op ≠ .select cs b) (hcalm : calmOp P oi.op = true) (hQ : ∀ c a w, ¬ Q (.panic c) a w) :
    ∀ (fuel : Nat) (listed : Array Bool) (a : Act) (w : World),
      (∀ (j : Nat) (oj : Oper), ops[j]? = some oj → j ≠ i → listed.getD j true = false → (∀ e ∈ oj.after, Region.binds .any e = true → e.on ≠ i) → oi.apart ops oj = true) →
      i ∈ Region.ready .any ops listed → YH P ops oi v a w.heap → Dom P ops i oi v listed a w.heap →
      wpAnyC P ops Q fuel (listed.setIfInBounds i true) (a.put oi.dst v) w → wpAnyC P ops Q (fuel + 1) listed a w := by
  intro fuel
  induction fuel with
  | zero =>
    intro listed a w _ hr hy _ H
    refine ⟨fun h => (by rw [h] at hr; cases hr), fun j hj => ?_⟩
    by_cases hji : j = i
    · subst hji
      unfold wpOpC
      simp only [hi, if_pos hcalm]
      exact ⟨v, hy, H⟩
    · have := ready_mono (i := i) hj hji
      rw [H.1] at this
      cases this
  | succ fuel ih =>
    intro listed a w hfree hr hy hD H
    refine ⟨fun h => (by rw [h] at hr; cases hr), fun j hj => ?_⟩
    by_cases hji : j = i
    · subst hji
      unfold wpOpC
      simp only [hi, if_pos hcalm]
      exact ⟨v, hy, H⟩
    · obtain ⟨hjun, oj, hoj, hall⟩ := mem_ready.1 hj
      have hnot : ∀ e ∈ oj.after, Region.binds .any e = true → e.on ≠ i := fun e he hb heq => by
        have h1 := hall e he hb
        have h0 := (mem_ready.1 hr).1
        rw [heq] at h1
        rcases Nat.lt_or_ge i listed.size with h' | h'
        · simp [Array.getD_eq_getD_getElem?, h'] at h0 h1; simp [h0] at h1
        · simp [Array.getD_eq_getD_getElem?, h'] at h0
      have hap := hfree j oj hoj hji hjun hnot
      have hfree' : ∀ (k : Nat) (ok : Oper), ops[k]? = some ok → k ≠ i → (listed.setIfInBounds j true).getD k true = false →
          (∀ e ∈ ok.after, Region.binds .any e = true → e.on ≠ i) → oi.apart ops ok = true := fun k ok hk hki hun hno => by
        refine hfree k ok hk hki ?_ hno
        by_cases hjk : j = k
        · subst hjk; exact hjun
        · rw [getD_set_ne true hjk] at hun; exact hun
      have hcomm : (listed.setIfInBounds i true).setIfInBounds j true = (listed.setIfInBounds j true).setIfInBounds i true := Array.setIfInBounds_comm _ _ (Ne.symm hji)
      have h1 := H.2 j (ready_mono (i := i) hj hji)
      rw [hcomm] at h1
      unfold wpOpC at h1 ⊢
      simp only [hoj] at h1 ⊢
      obtain ⟨p1, p2, p3⟩ := Oper.apart_spec hap
      by_cases hcj : calmOp P oj.op = true
      · rw [if_pos hcj] at h1 ⊢
        obtain ⟨u, hyu, hk⟩ := h1
        refine ⟨u, hyu.unput hap (fun cs b => hsel j oj cs b hoj), ?_⟩
        rw [Act.put_comm a v u p2] at hk
        refine ih (listed.setIfInBounds j true) (a.put oj.dst u) w hfree' (ready_mono hr (Ne.symm hji)) (hy.put hap (fun cs b => hsel i oi cs b hi)) ?_ hk
        cases hD with
        | pure hp => exact .pure fun h' => (hp h').put hap (fun cs b => hsel i oi cs b hi)
        | grow hm B hiB hb he =>
          have hjB : j ∉ B := fun hm => by
            rcases (hb j hm).2 with e | ⟨o, ho, e, hem, hbi, hon⟩
            · exact hji e
            · rw [hoj] at ho; cases ho
              have := hall e hem hbi
              rw [(hb e.on hon).1] at this
              cases this
          refine .grow (fun h' g => (hm h' g).put hap (fun cs b => hsel i oi cs b hi)) B hiB (fun k hk => ⟨?_, (hb k hk).2⟩) (fun k ok hok hun => he k ok hok ?_)
          · have hne : j ≠ k := fun e => hjB (e ▸ hk)
            rw [getD_set_ne false hne]; exact (hb k hk).1
          · by_cases hjk : j = k
            · subst hjk; exact hjun
            · rw [getD_set_ne true hjk] at hun; exact hun
        | dom B hiB hb he =>
          have hjB : j ∉ B := fun hm => by
            rcases (hb j hm).2 with e | ⟨o, ho, e, hem, hbi, hon⟩
            · exact hji e
            · rw [hoj] at ho; cases ho
              have := hall e hem hbi
              rw [(hb e.on hon).1] at this
              cases this
          refine .dom B hiB (fun k hk => ⟨?_, (hb k hk).2⟩) (fun k ok hok hun => he k ok hok ?_)
          · have hne : j ≠ k := fun e => hjB (e ▸ hk)
            rw [getD_set_ne false hne]; exact (hb k hk).1
          · by_cases hjk : j = k
            · subst hjk; exact hjun
            · rw [getD_set_ne true hjk] at hun; exact hun
      · rw [if_neg hcj] at h1 ⊢
        cases hD with
        | dom B hiB hb he =>
          rcases he j oj hoj hjun with hjB | hc
          · rcases (hb j hjB).2 with e | ⟨o, ho, e, hem, hbi, hon⟩
            · exact absurd e hji
            · rw [hoj] at ho; cases ho
              have := hall e hem hbi
              rw [(hb e.on hon).1] at this
              cases this
          · exact absurd hc hcj
        | grow hm B hiB hb he =>
          have hjB : j ∉ B := fun hm => by
            rcases (hb j hm).2 with e | ⟨o, ho, e, hem, hbi, hon⟩
            · exact hji e
            · rw [hoj] at ho; cases ho
              have := hall e hem hbi
              rw [(hb e.on hon).1] at this
              cases this
          have hgj : growOp P oj.op = true := by
            rcases he j oj hoj hjun with q | q | q
            · exact absurd q hjB
            · exact absurd q hcj
            · exact q
          have h2 := wpOp_unput (v := v) hoj hap (fun cs b => hsel j oj cs b hoj) hgj h1
          refine wpOp_mono (fun a' w' h3 => ?_) h2
          obtain ⟨u, hu, h3, hgr⟩ := h3
          have hm' : ∀ h', Grown w'.heap h' → YH P ops oi v a' h' := fun h' g => by
            rw [hu]; exact (hm h' (hgr.trans g)).put hap (fun cs b => hsel i oi cs b hi)
          refine ih (listed.setIfInBounds j true) a' w' hfree' (ready_mono hr (Ne.symm hji)) (hm' _ (Grown.refl _)) (.grow hm' B hiB (fun k hk => ⟨?_, (hb k hk).2⟩) (fun k ok hok hun => he k ok hok ?_)) h3
          · have hne : j ≠ k := fun e => hjB (e ▸ hk)
            rw [getD_set_ne false hne]; exact (hb k hk).1
          · by_cases hjk : j = k
            · subst hjk; exact hjun
            · rw [getD_set_ne true hjk] at hun; exact hun
        | pure hp =>
          have hyy : Yields P ops oi v a := by
            rcases hp w.heap with ⟨hw, _⟩ | ⟨hw, hv⟩
            · refine .inl ⟨hw, fun w' => ?_⟩
              rcases hp w'.heap with ⟨_, hr'⟩ | ⟨hw', _⟩
              · exact hr' w' rfl
              · rw [hw] at hw'; cases hw'
            · exact .inr ⟨hw, hv⟩
          have h2 := wpOp_put hoj hap (fun cs b => hsel i oi cs b hi) (fun cs b => hsel j oj cs b hoj) (fun c a w hq => absurd hq (hQ c _ w)) hyy h1
          refine wpOp_mono (fun a' w' h3 => ?_) h2
          have hya : ∀ h', YH P ops oi v a' h' := fun h' => by
            rcases h3.1 with ⟨hw, hr'⟩ | ⟨hw, hv⟩
            · exact .inl ⟨hw, fun w'' _ => hr' w''⟩
            · exact .inr ⟨hw, hv⟩
          exact ih (listed.setIfInBounds j true) a' w' hfree' (ready_mono hr (Ne.symm hji)) (hya _) (.pure hya) h3.2
end Go.SX
namespace Go.SX
open Go.RowKit
variable {P : Program} {ops : Array Oper}
theorem ptrE_flat {h : Heap} {t : TypeId} (a b : Value) (q : flatT P t = true) : ptrE P h t a b = none := by
  unfold ptrE
  split
  · unfold flatT at q
    split
    · rename_i hu; rw [hu] at q; cases q
    · rfl
  · rfl
theorem ptrE_x {h : Heap} {t : TypeId} {fr : Fr} {x : Operand} {a b : Value} (q : noPtr x = true) (e : ev fr x = some a) : ptrE P h t a b = none := by
  unfold noPtr at q
  split at q
  · cases q
  · rename_i v hv
    cases e
    unfold ptrE
    split
    · exact absurd rfl (hv _)
    · rfl
  · cases q
theorem ptrE_y {h : Heap} {t : TypeId} {fr : Fr} {x : Operand} {a b : Value} (q : noPtr x = true) (e : ev fr x = some b) : ptrE P h t a b = none := by
  unfold noPtr at q
  split at q
  · cases q
  · rename_i v hv
    cases e
    unfold ptrE
    split
    · exact absurd rfl (hv _)
    · rfl
  · cases q
theorem ptrC_none {h : Heap} {op : BinOp} {t : TypeId} {a b : Value} (q : ptrE P h t a b = none) : ptrC P h op t a b = none := by
  cases op <;> simp [ptrC, q]
theorem rop_pure {fr : Fr} {op : Op} (hp : pureOp P op = true) (h h' : Heap) : rop P fr h op = rop P fr h' op := by
  cases op <;> simp only [pureOp] at hp <;> try (cases hp; done)
  case binOp op t x y u =>
    simp only [rop]
    cases hx : ev fr x with
    | none => rfl
    | some a =>
      cases hy : ev fr y with
      | none => rfl
      | some b =>
        simp only [Option.bind_some]
        have key : ∀ h, ptrC P h op t a b = none := fun h => by
          apply ptrC_none
          simp only [Bool.or_eq_true] at hp
          rcases hp with (hp | hp) | hp
          · exact ptrE_flat a b hp
          · exact ptrE_x hp hx
          · exact ptrE_y hp hy
        rw [key h, key h']
  case call c =>
    obtain ⟨callee, args, ats⟩ := c
    obtain ⟨args⟩ := args
    obtain ⟨ats⟩ := ats
    cases callee <;> simp only at hp <;> try (cases hp; done)
    rename_i b
    cases b <;> simp only at hp <;> try (cases hp; done)
    case len =>
      cases ats with
      | nil => simp at hp
      | cons t ats =>
        simp only at hp
        rcases args with _ | ⟨x, _ | ⟨y, args⟩⟩ <;> simp only [rop]
        cases ev fr x with
        | none => rfl
        | some v =>
          simp only [Option.bind_some]
          cases hu : P.underlying t with
          | none => simp [hu] at hp
          | some d =>
            rw [hu] at hp
            cases d <;> simp at hp <;> cases v <;> simp [lenV, hu] <;> (rename_i r; cases r <;> simp [hu])
    all_goals rfl
  all_goals rfl
theorem cell?_grown {h h' : Heap} (g : Grown h h') {b o : Nat} {v : Value} (e : cell? h b o = some v) : cell? h' b o = some v := by
  unfold cell? at *
  split at e
  · rename_i c t z hb
    rw [g.2 b (Array.getElem?_eq_some_iff.1 hb).1, hb]; exact e
  · cases e
theorem cells?_grown {h h' : Heap} (g : Grown h h') {b o n : Nat} {l : List Value} (e : cells? h b o n = some l) : cells? h' b o n = some l := by
  unfold cells? at *
  split at e
  · rename_i c t z hb
    rw [g.2 b (Array.getElem?_eq_some_iff.1 hb).1, hb]; exact e
  · cases e
theorem loadV_grown {h h' : Heap} (g : Grown h h') {t : TypeId} {x v : Value} (e : loadV P h t x = some v) : loadV P h' t x = some v := by
  unfold loadV at *
  split at e
  · split at e
    · exact cell?_grown g e
    · rename_i n hs
      cases hc : cells? h _ _ n with
      | none => rw [hc] at e; cases e
      | some l => rw [hc] at e; rw [cells?_grown g hc]; exact e
    · cases e
  · cases e
theorem rop_grown {fr : Fr} {op : Op} (hl : isLoad op = true) {h h' : Heap} (g : Grown h h') {v : Value} (e : rop P fr h op = some v) : rop P fr h' op = some v := by
  cases op <;> simp only [isLoad] at hl <;> try (cases hl; done)
  rename_i t x
  simp only [rop] at e ⊢
  cases hx : ev fr x with
  | none => rw [hx] at e; cases e
  | some a => rw [hx] at e; simp only [Option.bind_some] at e ⊢; exact loadV_grown g e
theorem calm_sound {o : Oper} {s : SOp} {n : Nat} {fr : Fr} {a : Act} {h : Heap} {K : Fr → Heap → Prop} (hs : cvt P ops o = some s) (hc : calmOp P o.op = true) (hd : ∀ d, o.dst = some d → d < n) (ha : Agree n fr a)
    (hh : iOps P [s] fr h K) : ∃ v fr', YH P ops o v a h ∧ K fr' h ∧ Agree n fr' (a.put o.dst v) ∧ (pureOp P o.op = true → ∀ h', YH P ops o v a h') ∧ (isLoad o.op = true → ∀ h', Grown h h' → YH P ops o v a h') := by
  unfold cvt at hs
  cases hg : o.guard with
  | none =>
    rw [hg] at hs
    cases hs
    simp only [iOps, oneW, hc, Bool.not_true, cond_false] at hh
    obtain ⟨v, hv, hk⟩ := obind_elim hh
    have hw : Region.wanted o (yielded ops a.tmps) = true := by simp [Region.wanted, hg]
    exact ⟨v, _, .inl ⟨hw, fun w hw' => by subst hw'; exact rop_sound hv ha.tells o.dst o.type o.pos o.after o.guard⟩, hk, ha.put hd v,
      fun hp h' => .inl ⟨hw, fun w hw' => by subst hw'; rw [rop_pure hp h w.heap] at hv; exact rop_sound hv ha.tells o.dst o.type o.pos o.after o.guard⟩,
      fun hl h' g => .inl ⟨hw, fun w hw' => by subst hw'; exact rop_sound (rop_grown hl g hv) ha.tells o.dst o.type o.pos o.after o.guard⟩⟩
  | some jw =>
    obtain ⟨j, want⟩ := jw
    rw [hg] at hs
    simp only at hs
    cases hsl : slotOf ops j with
    | none => simp [hsl] at hs
    | some d =>
      simp [hsl] at hs
      subst hs
      simp only [iOps, oneW, hc, Bool.not_true, cond_false] at hh
      obtain ⟨v, hv, hh⟩ := obind_elim hh
      by_cases hb : ∀ t, v ≠ .bool t
      · have hy := slot_none ha hsl hv hb
        have hw : Region.wanted o (yielded ops a.tmps) = false := by simp [Region.wanted, hg, hy]
        have h' : K (fr.put o.dst undef) h := by
          cases v <;> first | exact hh | exact absurd rfl (hb _)
        exact ⟨undef, _, .inr ⟨hw, rfl⟩, h', ha.put hd undef, fun _ _ => .inr ⟨hw, rfl⟩, fun _ _ _ => .inr ⟨hw, rfl⟩⟩
      have hb2 : ∃ t, v = .bool t := Classical.byContradiction fun hc => hb fun t e => hc ⟨t, e⟩
      obtain ⟨t, rfl⟩ := hb2
      simp only at hh
      have hy := slot_yielded ha hsl hv
      by_cases htw : t = want
      · subst htw
        obtain ⟨u, hu, hk⟩ := obind_elim (hh.1 rfl)
        have hw : Region.wanted o (yielded ops a.tmps) = true := by simp [Region.wanted, hg, hy]
        exact ⟨u, _, .inl ⟨hw, fun w hw' => by subst hw'; exact rop_sound hu (ha.upSame hv).tells o.dst o.type o.pos o.after o.guard⟩, hk, (ha.upSame hv).put hd u,
          fun hp h' => .inl ⟨hw, fun w hw' => by subst hw'; rw [rop_pure hp h w.heap] at hu; exact rop_sound hu (ha.upSame hv).tells o.dst o.type o.pos o.after o.guard⟩,
          fun hl h' g => .inl ⟨hw, fun w hw' => by subst hw'; exact rop_sound (rop_grown hl g hu) (ha.upSame hv).tells o.dst o.type o.pos o.after o.guard⟩⟩
      · have ht : t = !want := by cases t <;> cases want <;> simp_all
        have hw : Region.wanted o (yielded ops a.tmps) = false := by simp [Region.wanted, hg, hy]; exact htw
        subst ht
        exact ⟨undef, _, .inr ⟨hw, rfl⟩, hh.2 rfl, (ha.upSame hv).put hd undef, fun _ _ => .inr ⟨hw, rfl⟩, fun _ _ _ => .inr ⟨hw, rfl⟩⟩
theorem domOK_spec {listed : Array Bool} {i : Nat} {B : List Nat} (h : domOK P ops listed i B = true) :
    i ∈ B ∧ (∀ j ∈ B, listed.getD j false = false ∧ (j = i ∨ ∃ o, ops[j]? = some o ∧ ∃ e ∈ o.after, Region.binds .any e = true ∧ e.on ∈ B)) ∧
    ∀ (j : Nat) (o : Oper), ops[j]? = some o → listed.getD j true = false → j ∈ B ∨ calmOp P o.op = true := by
  unfold domOK at h
  simp only [Bool.and_eq_true] at h
  obtain ⟨⟨h1, h2⟩, h3⟩ := h
  refine ⟨by simpa using h1, fun j hj => ?_, fun j o ho hun => ?_⟩
  · have := List.all_eq_true.1 h2 j hj
    simp only [Bool.and_eq_true, Bool.not_eq_true', Bool.or_eq_true, beq_iff_eq] at this
    refine ⟨this.1, this.2.imp id fun h => ?_⟩
    cases ho : ops[j]? with
    | none => simp [ho] at h
    | some o =>
      rw [ho] at h
      simp only [Array.any_eq_true', Bool.and_eq_true] at h
      obtain ⟨e, he, hb, hc⟩ := h
      exact ⟨o, rfl, e, he, hb, by simpa using hc⟩
  · have hlt := (Array.getElem?_eq_some_iff.1 ho).1
    have := List.all_eq_true.1 h3 j (by simpa using hlt)
    rw [hun, ho] at this
    simpa using this
theorem growOK_spec {listed : Array Bool} {i : Nat} {B : List Nat} (h : growOK P ops listed i B = true) :
    i ∈ B ∧ (∀ j ∈ B, listed.getD j false = false ∧ (j = i ∨ ∃ o, ops[j]? = some o ∧ ∃ e ∈ o.after, Region.binds .any e = true ∧ e.on ∈ B)) ∧
    ∀ (j : Nat) (o : Oper), ops[j]? = some o → listed.getD j true = false → j ∈ B ∨ calmOp P o.op = true ∨ growOp P o.op = true := by
  unfold growOK at h
  simp only [Bool.and_eq_true] at h
  obtain ⟨⟨h1, h2⟩, h3⟩ := h
  refine ⟨by simpa using h1, fun j hj => ?_, fun j o ho hun => ?_⟩
  · have := List.all_eq_true.1 h2 j hj
    simp only [Bool.and_eq_true, Bool.not_eq_true', Bool.or_eq_true, beq_iff_eq] at this
    refine ⟨this.1, this.2.imp id fun h => ?_⟩
    cases ho : ops[j]? with
    | none => simp [ho] at h
    | some o =>
      rw [ho] at h
      simp only [Array.any_eq_true', Bool.and_eq_true] at h
      obtain ⟨e, he, hb, hc⟩ := h
      exact ⟨o, rfl, e, he, hb, by simpa using hc⟩
  · have hlt := (Array.getElem?_eq_some_iff.1 ho).1
    have := List.all_eq_true.1 h3 j (by simpa using hlt)
    rw [hun, ho] at this
    simpa using this
theorem okCalm_spec {listed : Array Bool} {i : Nat} (h : okCalm P ops listed i = true) : ∃ o, ops[i]? = some o ∧ calmOp P o.op = true ∧ Region.free .any ops listed i = true ∧ (pureOp P o.op = true ∨ domOK P ops listed i (waiters ops i) = true ∨ (isLoad o.op = true ∧ growOK P ops listed i (waiters ops i) = true)) := by
  unfold okCalm at h
  cases ho : ops[i]? with
  | none => simp [ho] at h
  | some o =>
    rw [ho] at h
    simp only [Bool.and_eq_true, Bool.or_eq_true] at h
    refine ⟨o, rfl, h.1.1, h.1.2, ?_⟩
    rcases h.2 with (h | h) | h
    · exact .inl h
    · exact .inr (.inl h)
    · exact .inr (.inr h)
theorem YH.det {o : Oper} {v u : Value} {a : Act} {w : World} (h1 : YH P ops o v a w.heap) (h2 : YH P ops o u a w.heap) : v = u := by
  rcases h1 with ⟨c1, r1⟩ | ⟨c1, e1⟩
  · rcases h2 with ⟨c2, r2⟩ | ⟨c2, e2⟩
    · have q1 := r1 w rfl
      rw [r2 w rfl] at q1
      simp at q1; exact q1.symm
    · rw [c1] at c2; cases c2
  · rcases h2 with ⟨c2, r2⟩ | ⟨c2, e2⟩
    · rw [c1] at c2; cases c2
    · rw [e1, e2]
/-- what sleeps is told elsewhere. -/
def HZ (P : Program) (ops : Array Oper) (Q : Exit → Act → World → Prop) (k : Nat) (Z : List Nat) (listed : Array Bool) (a : Act) (w : World) : Prop :=
  ∀ z ∈ Z, ∃ oz v, ops[z]? = some oz ∧ calmOp P oz.op = true ∧ z ∈ Region.ready .any ops listed ∧ YH P ops oz v a w.heap ∧ ∃ k', k = k' + 1 ∧ wpAnyC P ops Q k' (listed.setIfInBounds z true) (a.put oz.dst v) w
theorem apB_spec {i j : Nat} {oi oj : Oper} (hi : ops[i]? = some oi) (hj : ops[j]? = some oj) (h : apB ops i j = true) : oi.apart ops oj = true ∧ oj.apart ops oi = true ∧ i ≠ j := by
  unfold apB at h
  rw [hi, hj] at h
  simp only [Bool.and_eq_true, Bool.not_eq_true'] at h
  exact ⟨h.1.1, h.1.2, fun e => by rw [e] at h; simp at h⟩
theorem HZ_step {Q : Exit → Act → World → Prop} {k : Nat} {Z : List Nat} {listed : Array Bool} {a : Act} {w : World} {i : Nat} {oi : Oper} {v : Value} (hsel : Region.noSelect ops = true) (h : HZ P ops Q (k + 1) Z listed a w) (hi : ops[i]? = some oi) (hc : calmOp P oi.op = true)
    (hr : i ∈ Region.ready .any ops listed) (hy : YH P ops oi v a w.heap) : HZ P ops Q k (Z.filter (apB ops i)) (listed.setIfInBounds i true) (a.put oi.dst v) w := by
  intro z hz
  obtain ⟨hzZ, hap⟩ := List.mem_filter.1 hz
  obtain ⟨oz, u, h1, h2, h3, h4, k', ek, W⟩ := h z hzZ
  obtain ⟨p1, p2, hne⟩ := apB_spec hi h1 hap
  have ek : k' = k := by omega
  subst ek
  obtain ⟨q1, q2, q3⟩ := Oper.apart_spec p1
  have hrz : i ∈ Region.ready .any ops (listed.setIfInBounds z true) := ready_mono (i := z) hr hne
  refine ⟨oz, u, h1, h2, ready_mono (i := i) h3 (Ne.symm hne), h4.put p2 (fun cs b => Region.noSelect_spec hsel z oz cs b h1), ?_⟩
  cases k' with
  | zero => have := W.1; rw [this] at hrz; cases hrz
  | succ k'' =>
    refine ⟨k'', rfl, ?_⟩
    have W2 := W.2 i hrz
    unfold wpOpC at W2
    simp only [hi, if_pos hc] at W2
    obtain ⟨v', hy', W3⟩ := W2
    have hy2 := hy'.unput p2 (fun cs b => Region.noSelect_spec hsel i oi cs b hi)
    have ev := YH.det hy hy2
    subst ev
    rw [Array.setIfInBounds_comm _ _ (Ne.symm hne)] at W3
    rw [Act.put_comm a v u q2]
    exact W3
theorem mkAmb_spec {t r : SC} {Q : Ex → Fr → Heap → Prop} {fr : Fr} {h : Heap} (hh : iS P (mkAmb t r) Q fr h) : iS P t Q fr h ∧ iS P r Q fr h := by
  cases r <;> first | exact hh | exact ⟨hh, trivial⟩
theorem orders_sound {n : Nat} {Q : Exit → Act → World → Prop} (hf : fitsOps n ops = true) (hsel : Region.noSelect ops = true) (hQ : ∀ c a w, ¬ Q (.panic c) a w) {w0 : World} {QQ : Ex → Fr → Heap → Prop}
    (hN : ∀ fr a w, Agree n fr a → QQ .norm fr w.heap → Rest w0 w → Q .normal a w) :
    ∀ (k : Nat) (Z : List Nat) (listed : Array Bool) (t : SC) (fr : Fr) (a : Act) (w : World), orders P ops (k + 1) Z listed = some t → Agree n fr a → Rest w0 w → iS P t QQ fr w.heap → HZ P ops Q k Z listed a w → wpAnyC P ops Q k listed a w := by
  intro k
  induction k with
  | zero =>
    intro Z listed t fr a w ho ha hr h hz
    unfold orders at ho
    simp only at ho
    cases hrd : Region.ready .any ops listed with
    | nil => rw [hrd] at ho; simp only at ho; cases ho; exact ⟨hrd, hN _ _ _ ha h hr⟩
    | cons i0 rest =>
      exfalso
      rw [hrd] at ho
      have hno : ∀ i : Nat, ((ops[i]?).bind fun o => (cvt P ops o).bind fun _ => (none : Option SC)) = none := fun i => by cases ops[i]? <;> simp
      simp only [orders, Option.map_none] at ho
      split at ho
      · rw [hno] at ho; cases ho
      · rw [brZ] at ho
        split at ho
        · rename_i hc
          obtain ⟨_, _, _, _, _, _, k', e, _⟩ := hz i0 (by simpa using hc)
          omega
        · rw [hno] at ho; cases ho
  | succ k ih =>
    intro Z listed t fr a w ho ha hr h hz
    rw [orders] at ho
    simp only at ho
    cases hrd : Region.ready .any ops listed with
    | nil => rw [hrd] at ho; simp only at ho; cases ho; exact ⟨fun _ => hN _ _ _ ha h hr, fun i hi => by rw [hrd] at hi; cases hi⟩
    | cons i0 rest =>
      rw [hrd] at ho
      simp only at ho
      -- one operation, then the rest
      have step : ∀ (i : Nat) (Z' : List Nat) (ti : SC), ((ops[i]?).bind fun o => (cvt P ops o).bind fun s => (orders P ops (k + 1) Z' (listed.setIfInBounds i true)).map fun t => SC.seq (.ops [s]) t) = some ti →
          ∃ (o : Oper) (s : SOp) (t' : SC), ops[i]? = some o ∧ cvt P ops o = some s ∧ orders P ops (k + 1) Z' (listed.setIfInBounds i true) = some t' ∧ ti = SC.seq (.ops [s]) t' := by
        intro i Z' ti he
        cases h1 : ops[i]? with
        | none => simp [h1] at he
        | some o =>
          cases h2 : cvt P ops o with
          | none => simp [h1, h2] at he
          | some s =>
            cases h3 : orders P ops (k + 1) Z' (listed.setIfInBounds i true) with
            | none => simp [h1, h2, h3] at he
            | some t' => simp [h1, h2, h3] at he; exact ⟨o, s, t', rfl, h2, rfl, he.symm⟩
      split at ho
      · rename_i i hfind
        obtain ⟨o, s, t', h1, h2, h3, rfl⟩ := step i _ t ho
        have hok := List.find?_some hfind
        simp only [Bool.and_eq_true] at hok
        have hmem : i ∈ Region.ready .any ops listed := by rw [hrd]; exact List.mem_of_find?_eq_some hfind
        obtain ⟨o', ho', hc, hfree, hdom⟩ := okCalm_spec hok.2
        rw [h1] at ho'; cases ho'
        have h' : iOps P [s] fr w.heap fun fr h => iS P t' QQ fr h := h
        obtain ⟨v, fr', hy, hk, ha', hpu⟩ := calm_sound h2 hc (fitsOps_spec hf h1) ha h'
        refine anyC_first h1 (fun j o cs b hj => Region.noSelect_spec hsel j o cs b hj) hc hQ k listed a w (fun j oj hj hne hun hno => Region.free_spec h1 hfree j oj hj hne hun hno) hmem hy ?_ (ih _ _ t' fr' _ w h3 ha' hr hk (HZ_step hsel hz h1 hc hmem hy))
        rcases hdom with hp | hd | ⟨hl, hd⟩
        · exact .pure (hpu.1 hp)
        · obtain ⟨q1, q2, q3⟩ := domOK_spec hd
          exact .dom _ q1 q2 q3
        · obtain ⟨q1, q2, q3⟩ := growOK_spec hd
          exact .grow (hpu.2 hl) _ q1 q2 q3
      · have all : ∀ (l : List Nat) (Z : List Nat) (r : SC), (∀ i ∈ l, i ∈ Region.ready .any ops listed) → brZ P ops (fun i Z' => (ops[i]?).bind fun o => (cvt P ops o).bind fun s => (orders P ops (k + 1) Z' (listed.setIfInBounds i true)).map fun t => SC.seq (.ops [s]) t) Z l = some r →
            iS P r QQ fr w.heap → HZ P ops Q (k + 1) Z listed a w → ∀ i ∈ l, wpOpC P ops Q i (wpAnyC P ops Q k (listed.setIfInBounds i true)) a w := by
          intro l
          induction l with
          | nil => intro Z r _ _ _ _ i hi; cases hi
          | cons i l ihl =>
            intro Z r hrdy hb hr2 hz
            have asleep : ∀ j, j ∈ Z → wpOpC P ops Q j (wpAnyC P ops Q k (listed.setIfInBounds j true)) a w := by
              intro j hj
              obtain ⟨oz, v, e1, e2, _, e4, k', ek, W⟩ := hz j hj
              have ek : k' = k := by omega
              subst ek
              unfold wpOpC
              simp only [e1, if_pos e2]
              exact ⟨v, e4, W⟩
            rw [brZ] at hb
            split at hb
            · rename_i hc
              have tail := ihl Z r (fun j hj => hrdy j (List.mem_cons_of_mem _ hj)) hb hr2 hz
              intro j hj
              rcases List.mem_cons.1 hj with rfl | hj
              · exact asleep _ (by simpa using hc)
              · exact tail j hj
            · rename_i hc
              rw [Option.bind_eq_some_iff] at hb
              obtain ⟨ti, hti, hb⟩ := hb
              rw [Option.map_eq_some_iff] at hb
              obtain ⟨r', hr', e⟩ := hb
              subst e
              obtain ⟨hh1, hh2⟩ := mkAmb_spec hr2
              obtain ⟨o, s, t', h1, h2, h3, rfl⟩ := step i _ ti hti
              have h' : iOps P [s] fr w.heap fun fr h => iS P t' QQ fr h := hh1
              have hcI : calmI P ops i = calmOp P o.op := by unfold calmI; rw [h1]
              have hmem := hrdy i (List.mem_cons_self ..)
              by_cases hcal : calmOp P o.op = true
              · rw [hcI, if_pos hcal] at h3 hr'
                obtain ⟨v, fr', hy, hk, ha', _⟩ := calm_sound h2 hcal (fitsOps_spec hf h1) ha h'
                have W := ih _ _ t' fr' _ w h3 ha' hr hk (HZ_step hsel hz h1 hcal hmem hy)
                have hz' : HZ P ops Q (k + 1) (i :: Z) listed a w := by
                  intro z hzz
                  rcases List.mem_cons.1 hzz with rfl | hzz
                  · exact ⟨o, v, h1, hcal, hmem, hy, k, rfl, W⟩
                  · exact hz z hzz
                have tail := ihl (i :: Z) r' (fun j hj => hrdy j (List.mem_cons_of_mem _ hj)) hr' hh2 hz'
                intro j hj
                rcases List.mem_cons.1 hj with rfl | hj
                · unfold wpOpC
                  simp only [h1, if_pos hcal]
                  exact ⟨v, hy, W⟩
                · exact tail j hj
              · rw [hcI, if_neg hcal] at h3 hr'
                have tail := ihl Z r' (fun j hj => hrdy j (List.mem_cons_of_mem _ hj)) hr' hh2 hz
                intro j hj
                rcases List.mem_cons.1 hj with rfl | hj
                · unfold wpOpC
                  simp only [h1, if_neg hcal]
                  exact op_sound h1 h2 (fitsOps_spec hf h1) ha h' fun fr' a' w' ha' hk hr' => ih _ _ t' fr' a' w' h3 ha' (hr.trans hr') hk (fun z hz => by cases hz)
                · exact tail j hj
        refine ⟨fun hn => (by rw [hrd] at hn; cases hn), fun i hi => ?_⟩
        exact all (i0 :: rest) Z t (fun j hj => by rw [hrd]; exact hj) ho h hz i (by rw [← hrd]; exact hi)
theorem QL_panic {n : Nat} {w : World} {Q : Ex → Fr → Heap → Prop} : ∀ c a w', ¬ QL n w Q (.panic c) a w' := fun _ _ _ h => h
theorem drawn_sound {n id : Nat} (hm : P.follows .mixedOrders = true) (hf : fitsOps n ops = true) (hsel : Region.noSelect ops = true) {t : SC} (ht : orders P ops (ops.size + 1) [] (Array.replicate ops.size false) = some t)
    {Q : Ex → Fr → Heap → Prop} {fr : Fr} {h : Heap} (hh : iS P t Q fr h) : SemC P n (.region id ops true) Q fr h := by
  intro a w ha hw
  subst hw
  refine wp_region_any hm (wpAny_of_C _ _ _ _ ?_)
  exact orders_sound (w0 := w) (QQ := Q) hf hsel QL_panic (fun fr a w' h1 h2 h3 => ⟨h3, fr, h1, h2⟩) ops.size [] _ t fr a { w with drawn := w.drawn + 1 } ht ha ⟨rfl, rfl, rfl⟩ hh (fun z hz => by cases hz)
theorem loop_sound {n : Nat} {c : Code} {body : (Ex → Fr → Heap → Prop) → Fr → Heap → Prop} (hb : ∀ Q fr h, body Q fr h → SemC P n c Q fr h) {Q : Ex → Fr → Heap → Prop} {fr : Fr} {h : Heap} (hl : LoopW body Q fr h) : SemC P n (.loop c) Q fr h := by
  obtain ⟨I, ⟨k0, h0⟩, hstep⟩ := hl
  intro a w ha hw
  subst hw
  refine wp_loop_ghost (fun k a' w' => Rest w w' ∧ ∃ fr', Agree n fr' a' ∧ I k fr' w'.heap) k0 ⟨Rest.refl w, fr, ha, h0⟩ ?_
  rintro k a' w' ⟨hr, fr', ha', hI⟩
  have := hb _ _ _ (hstep k fr' w'.heap hI) a' w' ha' rfl
  refine wp_mono this ?_
  intro e a'' w'' hq
  cases e with
  | normal =>
    obtain ⟨hr', fr'', ha'', k', hk, hI'⟩ := hq
    exact ⟨k', hk, hr.trans hr', fr'', ha'', hI'⟩
  | exit id => exact ⟨hr.trans hq.1, hq.2⟩
  | ret => exact ⟨hr.trans hq.1, hq.2⟩
  | goto l => exact hq
  | panic c => exact hq
  | outgrown => exact hq
theorem bad_sound {n : Nat} {c : Code} {Q : Ex → Fr → Heap → Prop} {fr : Fr} {h : Heap} (hh : iS P badC Q fr h) : SemC P n c Q fr h := (show False from hh).elim
theorem compile_sound {n : Nat} {R : List Nat} (hm : P.follows .mixedOrders = true) : ∀ (c : Code) (ex : List (Nat × List Nat)) (L : List Nat) (s : SC × List Nat), compile P R ex L c = some s → fits n c = true → ∀ (Q : Ex → Fr → Heap → Prop) (fr : Fr) (h : Heap), iS P s.1 Q fr h → SemC P n c Q fr h := by
  intro c
  induction c with
  | skip => intro ex L s hs _ Q fr h hh a w ha hw; cases hs; subst hw; exact wp_skip ⟨Rest.refl w, fr, ha, hh⟩
  | region id ops draw =>
    intro ex L s hs hf Q fr h hh
    cases draw with
    | false =>
      intro a w ha hw
      subst hw
      simp only [compile] at hs
      cases hc : cvtAll P ops ops.toList with
      | none => simp [hc] at hs
      | some ss =>
        simp [hc] at hs; subst hs
        obtain ⟨e1, e2⟩ := cvtAll_spec hc
        refine wp_region ?_
        rw [List.range_eq_range']
        exact region_sound hf ss (by simpa using e1) (fun i o s ho hs => e2 i o s (by simpa using ho) hs) ops.size 0 fr a w (Q .norm) (by omega) ha hh
          fun fr' a' w' h1 h2 h3 => ⟨h3, fr', h1, h2⟩
    | true =>
      simp only [compile] at hs
      split at hs
      · rename_i hsel
        cases ho : orders P ops (ops.size + 1) [] (Array.replicate ops.size false) with
        | none => simp [ho] at hs
        | some t => simp [ho] at hs; subst hs; exact drawn_sound hm hf (by simp only [Bool.and_eq_true] at hsel; exact hsel.1) ho hh
      · cases hs; exact bad_sound hh
  | seq x y ihx ihy =>
    intro ex L s hs hf Q fr h hh
    simp only [compile] at hs
    cases hy : compile P R ex L y with
    | none => simp [hy] at hs
    | some sy =>
      cases hx : compile P R ex sy.2 x with
      | none => simp [hx, hy] at hs
      | some sx =>
        simp [hx, hy] at hs; subst hs
        simp only [fits, Bool.and_eq_true] at hf
        intro a w ha hw
        refine wp_seq (wp_mono (ihx _ _ sx hx hf.1 _ fr h hh a w ha hw) ?_)
        intro e a' w' hq
        cases e with
        | normal =>
          obtain ⟨hr, fr', ha', hk⟩ := hq
          have hk' : iS P sy.1 Q (fr'.keep sy.2) w'.heap := hk
          exact wp_mono (ihy _ _ sy hy hf.2 Q _ _ hk' a' w' (ha'.le (Fr.keep_le _ _)) rfl) (QL.rest hr)
        | exit id => exact hq
        | ret => exact hq
        | goto l => exact hq
        | panic c => exact hq
        | outgrown => exact hq
  | cond c x y ihx ihy =>
    intro ex L s hs hf Q fr h hh
    simp only [compile] at hs
    cases hx : compile P R ex L x with
    | none => simp [hx] at hs
    | some sx =>
      cases hy : compile P R ex L y with
      | none => simp [hx, hy] at hs
      | some sy =>
        simp [hx, hy] at hs; subst hs
        simp only [fits, Bool.and_eq_true] at hf
        intro a w ha hw
        obtain ⟨v, hv, hh⟩ := obind_elim hh
        cases v <;> simp only at hh <;> try (exact hh.elim)
        rename_i t
        refine wp_cond (ha.ev hv) ?_
        cases t with
        | true => exact ihx _ _ sx hx hf.1 Q fr h (hh.1 rfl) a w ha hw
        | false => exact ihy _ _ sy hy hf.2 Q fr h (hh.2 rfl) a w ha hw
  | block id b ih =>
    intro ex L s hs hf Q fr h hh
    simp only [compile] at hs
    cases hb : compile P R ((id, L) :: ex) L b with
    | none => simp [hb] at hs
    | some sb =>
      simp [hb] at hs; subst hs
      intro a w ha hw
      refine wp_block (wp_mono (ih _ _ sb hb hf _ fr h hh a w ha hw) ?_)
      intro e a' w' hq
      cases e with
      | normal => exact hq
      | exit id' =>
        obtain ⟨hr, fr', ha', hk⟩ := hq
        simp only [Exit.inBlock]
        simp only [blockK] at hk
        cases hid : (id' == id) with
        | true => rw [hid] at hk; rw [if_pos (eq_of_beq hid)]; exact ⟨hr, fr', ha', hk⟩
        | false => rw [hid] at hk; rw [if_neg (fun e => by subst e; simp at hid)]; exact ⟨hr, fr', ha', hk⟩
      | ret => exact hq
      | goto l => exact hq
      | panic c => exact hq
      | outgrown => exact hq
  | loop b ih =>
    intro ex L s hs hf Q fr h hh
    simp only [compile] at hs
    cases h1 : compile P R ex [] b with
    | none => simp [h1] at hs
    | some s1 =>
      cases h2 : compile P R ex s1.2 b with
      | none => simp [h1, h2] at hs
      | some s2 =>
        cases hb : compile P R ex s2.2 b with
        | none => simp [h1, h2, hb] at hs
        | some sb =>
          simp [h1, h2, hb] at hs; subst hs
          refine loop_sound (fun Q fr h hq => ?_) hh
          intro a w ha hw
          subst hw
          have hq' : iS P sb.1 (seqK (fun fr h => Q .norm (fr.keep sb.2) h) Q) fr w.heap := hq
          refine wp_mono (ih _ _ sb hb hf _ fr _ hq' a w ha rfl) ?_
          intro e a' w' hq
          cases e with
          | normal =>
            obtain ⟨hr, fr', ha', hk⟩ := hq
            exact ⟨hr, _, ha'.le (Fr.keep_le _ _), hk⟩
          | exit id => exact hq
          | ret => exact hq
          | goto l => exact hq
          | panic c => exact hq
          | outgrown => exact hq
  | scope b ih =>
    intro ex L s hs hf Q fr h hh a w ha hw
    refine wp_scope_straight (wp_mono (ih _ _ s hs hf Q fr h hh a w ha hw) ?_)
    intro e a' w' hq
    cases e <;> exact hq
  | exit id => intro ex L s hs _ Q fr h hh a w ha hw; cases hs; subst hw; exact wp_exit ⟨Rest.refl w, fr, ha, hh⟩
  | ret => intro ex L s hs _ Q fr h hh a w ha hw; cases hs; subst hw; exact wp_ret ⟨Rest.refl w, fr, ha, hh⟩
  | _ => intro ex L s hs _ Q fr h hh; cases hs; exact bad_sound hh
def resOne (P : Program) (fr : Fr) (h : Heap) : ResultVar → Option Value
  | .tmp t => fr t
  | .cell a t => (fr a).bind (loadV P h t)
def resAll (P : Program) (fr : Fr) (h : Heap) : List ResultVar → Option (List Value)
  | [] => some []
  | r :: l => (resOne P fr h r).bind fun v => (resAll P fr h l).map (v :: ·)
def resV (P : Program) (fr : Fr) (h : Heap) : List ResultVar → Option Value
  | [r] => resOne P fr h r
  | l => (resAll P fr h l).map fun vs => .tuple vs.toArray
theorem resAll_run {n : Nat} {fr : Fr} {a : Act} {w : World} (ha : Agree n fr a) : ∀ {l : List ResultVar} {vs : List Value}, resAll P fr w.heap l = some vs →
    (l.mapM (m := Sem) fun
      | .tmp t => pure (a.tmps.getD t undef)
      | .cell c t => do loadVar t (← asAddr (a.tmps.getD c undef))).run P w = .ok vs w
  | [], vs, h => by simp [resAll] at h; subst h; simp
  | r :: l, vs, h => by
    simp only [resAll] at h
    cases h1 : resOne P fr w.heap r with
    | none => simp [h1] at h
    | some v =>
      cases h2 : resAll P fr w.heap l with
      | none => simp [h1, h2] at h
      | some us =>
        simp [h1, h2] at h; subst h
        have hrec := resAll_run ha h2
        rw [List.mapM_cons]
        have comb : ∀ (x : Sem Value) (y : Sem (List Value)), x.run P w = .ok v w → y.run P w = .ok us w → (do let a ← x; let b ← y; pure (a :: b) : Sem (List Value)).run P w = .ok (v :: us) w := by
          intro x y hx hy; simp [hx, hy]
        refine comb _ _ ?_ hrec
        cases r with
        | tmp t =>
          have := ha.2.2 t v h1
          show (pure (a.tmps.getD t undef) : Sem Value).run P w = _
          rw [this]; rfl
        | cell c t =>
          simp only [resOne] at h1
          cases hc : fr c with
          | none => simp [hc] at h1
          | some u =>
            simp [hc] at h1
            have h3 := ha.2.2 c u hc
            have hl := run_loadV (P := P) h1
            have : ∃ ad, u = .pointer (some ad) := by
              unfold loadV at h1; split at h1
              · exact ⟨_, rfl⟩
              · cases h1
            obtain ⟨ad, rfl⟩ := this
            have hl' : (loadVar t ad).run P w = .ok v w := by simpa [Instr.loadAt, Instr.sureAddr] using hl
            show (do loadVar t (← asAddr (a.tmps.getD c undef)) : Sem Value).run P w = _
            have hA : (asAddr (a.tmps.getD c undef)).run P w = .ok ad w := by rw [h3]; rfl
            rw [h3]
            simp [asAddr, hl']
theorem resV_run {fn : Func} {n : Nat} {fr : Fr} {a : Act} {w : World} {v : Value} (ha : Agree n fr a) (h : resV P fr w.heap fn.results.toList = some v) : (results fn a.tmps).run P w = .ok v w := by
  unfold results
  rw [Array.mapM_eq_mapM_toList]
  have key : ∀ vs, resAll P fr w.heap fn.results.toList = some vs → (do
      let vs ← List.toArray <$> fn.results.toList.mapM (m := Sem) fun
        | .tmp t => pure (a.tmps.getD t undef)
        | .cell c t => do loadVar t (← asAddr (a.tmps.getD c undef))
      pure (if h : vs.size = 1 then vs[0] else .tuple vs) : Sem Value).run P w = .ok (if h : vs.length = 1 then vs[0] else .tuple vs.toArray) w := by
    intro vs hvs
    have := resAll_run (P := P) ha hvs
    simp only [Sem.run_bind, Sem.run_map, this, Result.andThen_ok, Sem.run_pure]
    congr 1
  unfold resV at h
  split at h
  · rename_i r hr
    have := key [v] (by rw [hr]; simp [resAll, h])
    exact this
  · rename_i hne
    cases hvs : resAll P fr w.heap fn.results.toList with
    | none => simp [hvs] at h
    | some vs =>
      simp [hvs] at h; subst h
      have hl : vs.length ≠ 1 := by
        intro h1
        have hlen : ∀ (l : List ResultVar) (vs : List Value), resAll P fr w.heap l = some vs → l.length = vs.length := by
          intro l
          induction l with
          | nil => intro vs h; simp [resAll] at h; subst h; rfl
          | cons r l ih =>
            intro vs h
            simp only [resAll] at h
            cases h1 : resOne P fr w.heap r with
            | none => simp [h1] at h
            | some v =>
              cases h2 : resAll P fr w.heap l with
              | none => simp [h1, h2] at h
              | some us => simp [h1, h2] at h; subst h; simp [ih us h2]
        have := hlen _ _ hvs
        rw [h1] at this
        obtain ⟨r, hr⟩ := List.length_eq_one_iff.1 this
        exact hne r hr
      have := key vs hvs
      rw [dif_neg hl] at this
      exact this
/-- the frame at the start: the arguments. -/
def argFr : List Value → Nat → Fr
  | [], _ => fr0
  | v :: vs, i => (argFr vs (i + 1)).up i v
theorem argFr_spec : ∀ (l : List Value) (i j : Nat) (v : Value), argFr l i j = some v → i ≤ j ∧ l[j - i]? = some v
  | [], i, j, v, h => by simp [argFr, fr0] at h
  | x :: l, i, j, v, h => by
    simp only [argFr, Fr.up] at h
    cases hb : (j == i) with
    | true => rw [hb] at h; have := eq_of_beq hb; subst this; simp at h; subst h; simp
    | false =>
      rw [hb] at h
      obtain ⟨h1, h2⟩ := argFr_spec l (i + 1) j v (by simpa using h)
      refine ⟨by omega, ?_⟩
      have : j - i = (j - (i + 1)) + 1 := by omega
      rw [this]; simpa using h2
def retQ (P : Program) (rs : List ResultVar) (R : Value → Heap → Prop) : Ex → Fr → Heap → Prop
  | .norm, fr, h => obind (resV P fr h rs) fun v => R v h
  | .ret, fr, h => obind (resV P fr h rs) fun v => R v h
  | .exit _, _, _ => False
/-- A FUNCTION's CONTRACT out of its compiled code. -/
theorem Fn_of {f : FuncId} {fn : Func} {c : Code} {s : SC × List Nat} (kp : List Nat) {args : List Value} {h : Heap} {R : Value → Heap → Prop} (hfn : P.funcs[f]? = some fn) (hm : P.follows .mixedOrders = true)
    (hc : fn.body = some c ∧ compile P kp [] kp c = some s ∧ fits fn.ntmps c = true ∧ Nat.ble args.length fn.ntmps = true ∧ (fn.name == "runtime.NumGoroutine") = false)
    (hh : iS P s.1 (retQ P fn.results.toList R) (argFr args 0) h) : Fn P f args h R := by
  obtain ⟨hb, hs, hf, hl, hname⟩ := hc
  intro w hw
  subst hw
  have hcall : (callFunc f args.toArray).run P w = .ok (.enter f args.toArray) w := by
    have hn' : ¬ fn.name = "runtime.NumGoroutine" := by simpa using hname
    simp [callFunc, hfn, hn', hb]
  rw [hcall]
  refine ⟨Rest.refl w, ?_⟩
  refine calls_of_wp hfn hb ?_
  have ha : Agree fn.ntmps (argFr args 0) { tmps := args.toArray ++ Array.replicate (fn.ntmps - args.toArray.size) undef, defers := [] } := by
    have hl' : args.length ≤ fn.ntmps := Nat.le_of_ble_eq_true hl
    refine ⟨by simp; omega, rfl, fun i v e => ?_⟩
    obtain ⟨_, h2⟩ := argFr_spec args 0 i v e
    simp at h2
    have hi : i < args.length := (List.getElem?_eq_some_iff.1 h2).1
    rw [Array.getD_eq_getD_getElem?, Array.getElem?_append_left (by simpa using hi)]
    simp [h2]
  refine wp_mono (compile_sound hm c _ _ s hs hf _ _ _ hh _ w ha rfl) ?_
  intro e a' w' hq
  cases e with
  | normal =>
    obtain ⟨hr, fr', ha', hk⟩ := hq
    obtain ⟨v, hv, hk⟩ := obind_elim hk
    exact ⟨ha'.2.1, v, resV_run ha' hv, v, rfl, hk, hr⟩
  | ret =>
    obtain ⟨hr, fr', ha', hk⟩ := hq
    obtain ⟨v, hv, hk⟩ := obind_elim hk
    exact ⟨ha'.2.1, v, resV_run ha' hv, v, rfl, hk, hr⟩
  | exit id => obtain ⟨_, _, _, hk⟩ := hq; exact hk.elim
  | goto l => exact hq
  | panic c => exact hq.elim
  | outgrown => exact hq.elim
/-- .. as the generated texts tell it. -/
theorem Fn_c {f : FuncId} {fn : Func} {s : SC} {kp : List Nat} {args : List Value} {h : Heap} {R : Value → Heap → Prop} (hfn : P.funcs[f]? = some fn) (hm : P.follows .mixedOrders = true)
    (hc : fn.body.map (fun c => ((compile P kp [] kp c).map (·.1), fits fn.ntmps c)) = some (some s, true)) (hn : (Nat.ble args.length fn.ntmps && !(fn.name == "runtime.NumGoroutine")) = true)
    (hh : iS P s (retQ P fn.results.toList R) (argFr args 0) h) : Fn P f args h R := by
  cases hb : fn.body with
  | none => rw [hb] at hc; cases hc
  | some c =>
    rw [hb] at hc
    simp only [Option.map_some, Option.some.injEq, Prod.mk.injEq] at hc
    simp only [Bool.and_eq_true, Bool.not_eq_true'] at hn
    cases hs : compile P kp [] kp c with
    | none => rw [hs] at hc; simp at hc
    | some t =>
      rw [hs] at hc
      simp at hc
      obtain ⟨rfl, hf⟩ := hc
      exact Fn_of kp hfn hm ⟨hb, hs, hf, hn.1, hn.2⟩ hh
end Go.SX
namespace Go.SX
variable {P : Program}
def splitSeq : SC → Option (SC × List Nat × SC) | .seq sa (.seq (.keep L) sb) => some (sa, L, sb) | _ => none
def splitCond : SC → Option (SC × SC) | .cond _ sa sb => some (sa, sb) | _ => none
def splitBlock : SC → Option SC | .block _ sb => some sb | _ => none
def splitLoop : SC → Option (SC × List Nat) | .loop (.seq sb (.keep L)) => some (sb, L) | _ => none
/-- 'compile' along a text that is handed in: what it keeps is taken from there. 'k': how many drawn regions stand ahead. -/
def compileK (P : Program) (O : Nat → Option SC) : Code → SC → Nat → Option SC
  | .skip, _, _ => some .skip
  | .region _ ops false, _, _ => (cvtAll P ops ops.toList).map .ops
  | .region _ ops true, _, k => match O k with
    | some t => some t
    | none => regC P ops
  | .seq a b, adv, k => (splitSeq adv).bind fun q => (compileK P O a q.1 k).bind fun x => (compileK P O b q.2.2 (k + nreg a)).map fun y => .seq x (.seq (.keep q.2.1) y)
  | .cond c a b, adv, k => (splitCond adv).bind fun q => (compileK P O a q.1 k).bind fun x => (compileK P O b q.2 (k + nreg a)).map fun y => .cond c x y
  | .block id b, adv, k => (splitBlock adv).bind fun q => (compileK P O b q k).map fun y => .block id y
  | .loop b, adv, k => (splitLoop adv).bind fun q => (compileK P O b q.1 k).map fun y => .loop (.seq y (.keep q.2))
  | .scope b, adv, k => compileK P O b adv k
  | .exit id, _, _ => some (.exit id)
  | .ret, _, _ => some .ret
  | _, _, _ => some badC
/-- what a drawn region of the list comes to, however many orders it has. -/
def regO (P : Program) (ops : Array Oper) : Option SC := if Region.noSelect ops = true then orders P ops (ops.size + 1) [] (Array.replicate ops.size false) else none
/-- a great function's text: the slots are as its code asks, and each drawn region of the list was checked. -/
structure Parted (P : Program) (fn : Func) (s : SC) : Prop where
  ex : ∃ c OL, fn.body = some c ∧ (∀ p ∈ OL, ((regs c)[p.1]?).bind (regO P) = some p.2) ∧ compileK P (lookO OL) c s 0 = some s ∧ fits fn.ntmps c = true
theorem Parted.of {fn : Func} {s : SC} (OL : List (Nat × SC)) (hO : ∀ p ∈ OL, (fn.body.bind fun c => (regs c)[p.1]?).bind (regO P) = some p.2)
    (h : fn.body.map (fun c => (compileK P (lookO OL) c s 0, fits fn.ntmps c)) = some (some s, true)) : Parted P fn s := by
  cases hb : fn.body with
  | none => rw [hb] at h; cases h
  | some c =>
    rw [hb] at h
    simp only [Option.map_some, Option.some.injEq, Prod.mk.injEq] at h
    exact ⟨c, OL, hb, fun p hp => by have := hO p hp; rw [hb] at this; exact this, h.1, h.2⟩
end Go.SX
