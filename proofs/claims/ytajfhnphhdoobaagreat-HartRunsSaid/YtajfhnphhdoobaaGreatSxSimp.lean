/- The rules by which 'simp' runs the compiled code: from the head, what follows is not looked at before its turn comes. Integer operations of the model on words, as operations on bit vectors. From a law's contract over heaps to what the row asks. One step of a walk, as a lemma: the goal is rewritten by the rules of the walk and by what is handed in. No condition. -/
import Derived.Test.YtajfhnphhdoobaaGreatSxC
import Derived.Below
set_option linter.unusedVariables false
set_option linter.unusedSimpArgs false
namespace Go.SX
variable {P : Program}
/-- What follows, laid where 'simp' does not look (it leaves instances alone). -/
class HK (α : Type) where
  k : α
def FnK (P : Program) (f : FuncId) (args : List Value) (h : Heap) [i : HK (Value → Heap → Prop)] : Prop := Go.SX.Fn P f args h i.k
theorem FnK.use {f : FuncId} {args : List Value} {h : Heap} {R K : Value → Heap → Prop} (k : Go.SX.Fn P f args h R) (hr : ∀ v h', R v h' → K v h') : @FnK P f args h ⟨K⟩ := k.mono hr
theorem FnK.val {f : FuncId} {args : List Value} {h : Heap} {a : Value} {K : Value → Heap → Prop} (k : Go.SX.Fn P f args h fun v h' => v = a ∧ h' = h) (hr : K a h) : @FnK P f args h ⟨K⟩ := k.mono fun _ _ e => by rw [e.1, e.2]; exact hr
def LoopK (fr : Fr) (h : Heap) [i : HK (((Ex → Fr → Heap → Prop) → Fr → Heap → Prop) × (Ex → Fr → Heap → Prop))] : Prop := LoopW i.k.1 i.k.2 fr h
theorem LoopK.use {b : (Ex → Fr → Heap → Prop) → Fr → Heap → Prop} {Q : Ex → Fr → Heap → Prop} {fr : Fr} {h : Heap} (I : Nat → Fr → Heap → Prop) (k : Nat) (h0 : I k fr h) (hs : ∀ k fr h, I k fr h → b (seqK (fun fr' h' => ∃ k', k' < k ∧ I k' fr' h') Q) fr h) : @LoopK fr h ⟨(b, Q)⟩ := ⟨I, ⟨k, h0⟩, hs⟩
def appK (P : Program) (h : Heap) (t tx : TypeId) (s x : Value) [i : HK (Value → Heap → Prop)] : Prop := appendW P h t tx s x i.k
def copyK (P : Program) (h : Heap) (t : TypeId) (d s : Value) [i : HK (Value → Heap → Prop)] : Prop := copyW P h t d s i.k
def clearK (P : Program) (h : Heap) (t : TypeId) (x : Value) [i : HK (Value → Heap → Prop)] : Prop := (P.underlying t).isSome = true ∧ clearW P h t x i.k
def delK (P : Program) (h : Heap) (t : TypeId) (m k : Value) [i : HK (Value → Heap → Prop)] : Prop := deleteW P h t m k i.k
def mupK (P : Program) (h : Heap) (t : TypeId) (m k v : Value) [i : HK (Heap → Prop)] : Prop := mapUpW P h t m k v i.k
def mksK (P : Program) (h : Heap) (t : TypeId) (l c : Value) [i : HK (Value → Heap → Prop)] : Prop := makeSliceW P h t l c i.k
def rngK (P : Program) (h : Heap) (t : TypeId) (x : Value) [i : HK (Value → Heap → Prop)] : Prop := rangeW P h t x i.k
def nxtK (h : Heap) (x : Value) (s : Bool) [i : HK (Value → Heap → Prop)] : Prop := nextW h x s i.k
def obK {α : Type} (o : Option α) [i : HK (α → Prop)] : Prop := obind o i.k
theorem obK_some {α : Type} (a : α) (K : α → Prop) : @obK α (some a) ⟨K⟩ = K a := Eq.trans (Eq.refl _) rfl
theorem obK.use {α : Type} {o : Option α} {K : α → Prop} (a : α) (h : o = some a) (k : K a) : @obK α o ⟨K⟩ := by subst h; exact k
/-- the two ways of a test. -/
def iteK (t : Bool) (A B : Prop) : Prop := (t = true → A) ∧ (t = false → B)
theorem t_T (A B : Prop) : iteK true A B = A := by simp [iteK]
theorem t_F (A B : Prop) : iteK false A B = B := by simp [iteK]
theorem t_dec (p : Prop) [Decidable p] (A B : Prop) : iteK (decide p) A B = ((p → A) ∧ (¬ p → B)) := by simp [iteK]
theorem t_not (t : Bool) (A B : Prop) : iteK (!t) A B = iteK t B A := by cases t <;> simp [iteK]
/-- so many cells alike (a name that 'simp' does not open). -/
def repV (n : Nat) (v : Value) : List Value := List.replicate n v
/-- where a field of a value lies, and how many cells it has if it is read as one aggregate. -/
def fdO (P : Program) (t : TypeId) (i : Nat) : Option (Nat × Option Nat) :=
  match P.underlying t with
  | some (.struct fs) => match fs[i]? with
    | some f => match shP P f.type with
      | some .one => some (f.offset, none)
      | some (.agg n) => some (f.offset, some n)
      | none => none
    | none => none
  | _ => none
def fdR (cs : Array Value) : Option (Nat × Option Nat) → Option Value
  | some (o, none) => cs[o]?
  | some (o, some n) => some (.agg (cs.extract o (o + n)))
  | none => none
theorem x_fld (P : Program) (t i : Nat) (cs : Array Value) : fieldV P t i (.agg cs) = fdR cs (fdO P t i) := by
  simp only [fieldV, fdO]
  cases P.underlying t with
  | none => rfl
  | some d =>
    cases d <;> try rfl
    rename_i fs
    simp only
    cases fs[i]? with
    | none => rfl
    | some f =>
      simp only [partV]
      cases shP P f.type with
      | none => rfl
      | some s => cases s <;> rfl
theorem fdR_1 (cs : Array Value) (o : Nat) : fdR cs (some (o, none)) = cs[o]? := Eq.trans (Eq.refl _) rfl
theorem fdR_n (cs : Array Value) (o n : Nat) : fdR cs (some (o, some n)) = some (.agg (cs.extract o (o + n))) := Eq.trans (Eq.refl _) rfl
theorem c_ops (P : Program) (l : List SOp) (Q : Ex → Fr → Heap → Prop) (fr : Fr) (h : Heap) : iS P (.ops l) Q fr h = iOps P l fr h (Q .norm) := Eq.trans (Eq.refl _) rfl
theorem c_seq (P : Program) (a b : SC) (Q : Ex → Fr → Heap → Prop) (fr : Fr) (h : Heap) : iS P (.seq a b) Q fr h = iS P a (seqK (fun fr h => iS P b Q fr h) Q) fr h := Eq.trans (Eq.refl _) rfl
theorem c_skip (P : Program) (Q : Ex → Fr → Heap → Prop) (fr : Fr) (h : Heap) : iS P .skip Q fr h = Q .norm fr h := Eq.trans (Eq.refl _) rfl
theorem c_keep (P : Program) (l : List Nat) (Q : Ex → Fr → Heap → Prop) (fr : Fr) (h : Heap) : iS P (.keep l) Q fr h = Q .norm (fr.keep l) h := Eq.trans (Eq.refl _) rfl
def condK (v : Value) (A B : Prop) : Prop := match v with | .bool t => (t = true → A) ∧ (t = false → B) | _ => False
theorem c_cond (P : Program) (c : Operand) (a b : SC) (Q : Ex → Fr → Heap → Prop) (fr : Fr) (h : Heap) : iS P (.cond c a b) Q fr h = @obK _ (ev fr c) ⟨fun v => condK v (iS P a Q fr h) (iS P b Q fr h)⟩ := Eq.trans (Eq.refl _) rfl
theorem c_condV (t : Bool) (A B : Prop) : condK (.bool t) A B = iteK t A B := Eq.trans (Eq.refl _) rfl
theorem c_block (P : Program) (id : Nat) (b : SC) (Q : Ex → Fr → Heap → Prop) (fr : Fr) (h : Heap) : iS P (.block id b) Q fr h = iS P b (blockK id Q) fr h := Eq.trans (Eq.refl _) rfl
theorem c_loop (P : Program) (b : SC) (Q : Ex → Fr → Heap → Prop) (fr : Fr) (h : Heap) : iS P (.loop b) Q fr h = @LoopK fr h ⟨(iS P b, Q)⟩ := Eq.trans (Eq.refl _) rfl
theorem c_amb (P : Program) (a b : SC) (Q : Ex → Fr → Heap → Prop) (fr : Fr) (h : Heap) : iS P (.amb a b) Q fr h = (iS P a Q fr h ∧ iS P b Q fr h) := Eq.trans (Eq.refl _) rfl
theorem c_exit (P : Program) (id : Nat) (Q : Ex → Fr → Heap → Prop) (fr : Fr) (h : Heap) : iS P (.exit id) Q fr h = Q (.exit id) fr h := Eq.trans (Eq.refl _) rfl
theorem c_ret (P : Program) (Q : Ex → Fr → Heap → Prop) (fr : Fr) (h : Heap) : iS P .ret Q fr h = Q .ret fr h := Eq.trans (Eq.refl _) rfl
theorem k_seqN (K : Fr → Heap → Prop) (Q : Ex → Fr → Heap → Prop) (fr : Fr) (h : Heap) : seqK K Q .norm fr h = K fr h := Eq.trans (Eq.refl _) rfl
theorem k_seqN' (K : Fr → Heap → Prop) (Q : Ex → Fr → Heap → Prop) : seqK K Q .norm = K := Eq.trans (Eq.refl _) rfl
theorem k_seqE (K : Fr → Heap → Prop) (Q : Ex → Fr → Heap → Prop) (id : Nat) (fr : Fr) (h : Heap) : seqK K Q (.exit id) fr h = Q (.exit id) fr h := Eq.trans (Eq.refl _) rfl
theorem k_seqR (K : Fr → Heap → Prop) (Q : Ex → Fr → Heap → Prop) (fr : Fr) (h : Heap) : seqK K Q .ret fr h = Q .ret fr h := Eq.trans (Eq.refl _) rfl
theorem k_blkN (id : Nat) (Q : Ex → Fr → Heap → Prop) (fr : Fr) (h : Heap) : blockK id Q .norm fr h = Q .norm fr h := Eq.trans (Eq.refl _) rfl
theorem k_blkE (id id' : Nat) (Q : Ex → Fr → Heap → Prop) (fr : Fr) (h : Heap) : blockK id Q (.exit id') fr h = (bif id' == id then Q .norm else Q (.exit id')) fr h := Eq.trans (Eq.refl _) rfl
theorem k_blkR (id : Nat) (Q : Ex → Fr → Heap → Prop) (fr : Fr) (h : Heap) : blockK id Q .ret fr h = Q .ret fr h := Eq.trans (Eq.refl _) rfl
theorem k_retN (P : Program) (rs : List ResultVar) (R : Value → Heap → Prop) (fr : Fr) (h : Heap) : retQ P rs R .norm fr h = @obK _ (resV P fr h rs) ⟨fun v => R v h⟩ := Eq.trans (Eq.refl _) rfl
theorem k_retR (P : Program) (rs : List ResultVar) (R : Value → Heap → Prop) (fr : Fr) (h : Heap) : retQ P rs R .ret fr h = @obK _ (resV P fr h rs) ⟨fun v => R v h⟩ := Eq.trans (Eq.refl _) rfl
theorem o_nil (P : Program) (fr : Fr) (h : Heap) (K : Fr → Heap → Prop) : iOps P [] fr h K = K fr h := Eq.trans (Eq.refl _) rfl
theorem o_calm (P : Program) (d : Option Tmp) (op : Op) (r : List SOp) (fr : Fr) (h : Heap) (K : Fr → Heap → Prop) : iOps P (⟨d, op, false, none⟩ :: r) fr h K = @obK _ (rop P fr h op) ⟨fun v => iOps P r (fr.put d v) h K⟩ := Eq.trans (Eq.refl _) rfl
theorem o_eff (P : Program) (d : Option Tmp) (op : Op) (r : List SOp) (fr : Fr) (h : Heap) (K : Fr → Heap → Prop) : iOps P (⟨d, op, true, none⟩ :: r) fr h K = eop P fr h op fun v h' => iOps P r (fr.put d v) h' K := Eq.trans (Eq.refl _) rfl
def grdK (v : Value) (want : Bool) (A B C : Prop) : Prop := match v with | .bool t => (t = want → A) ∧ (t = (!want) → B) | _ => C
theorem o_grd (P : Program) (d : Option Tmp) (op : Op) (eff : Bool) (g : Tmp) (want : Bool) (r : List SOp) (fr : Fr) (h : Heap) (K : Fr → Heap → Prop) : iOps P (⟨d, op, eff, some (g, want)⟩ :: r) fr h K =
    @obK _ (fr g) ⟨fun v => grdK v want (iOps P (⟨d, op, eff, none⟩ :: r) (fr.up g (.bool want)) h K) (iOps P r ((fr.up g (.bool (!want))).put d undef) h K) (iOps P r (fr.put d undef) h K)⟩ := Eq.trans (Eq.refl _) rfl
theorem g_u (want : Bool) (A B C : Prop) : grdK undef want A B C = C := Eq.trans (Eq.refl _) rfl
theorem g_t (t : Bool) (A B C : Prop) : grdK (.bool t) true A B C = iteK t A B := Eq.trans (Eq.refl _) rfl
theorem g_f (t : Bool) (A B C : Prop) : grdK (.bool t) false A B C = iteK t B A := by cases t <;> simp [grdK, iteK]
theorem f_up (fr : Fr) (i : Nat) (v : Value) (j : Nat) : (fr.up i v) j = bif j == i then some v else fr j := Eq.trans (Eq.refl _) rfl
theorem f_putS (fr : Fr) (d : Nat) (v : Value) : fr.put (some d) v = fr.up d v := Eq.trans (Eq.refl _) rfl
theorem f_putN (fr : Fr) (v : Value) : fr.put none v = fr := Eq.trans (Eq.refl _) rfl
theorem f_upoS (fr : Fr) (i : Nat) (v : Value) : fr.upo i (some v) = fr.up i v := Eq.trans (Eq.refl _) rfl
theorem f_keepC (fr : Fr) (i : Nat) (l : List Nat) : fr.keep (i :: l) = (fr.keep l).upo i (fr i) := Eq.trans (Eq.refl _) rfl
theorem f_keepN (fr : Fr) : fr.keep [] = fr0 := Eq.trans (Eq.refl _) rfl
theorem f_0 (i : Nat) : fr0 i = none := Eq.trans (Eq.refl _) rfl
theorem f_argC (v : Value) (l : List Value) (i : Nat) : argFr (v :: l) i = (argFr l (i + 1)).up i v := Eq.trans (Eq.refl _) rfl
theorem f_argN (i : Nat) : argFr [] i = fr0 := Eq.trans (Eq.refl _) rfl
theorem e_tmp (fr : Fr) (t : Nat) : ev fr (.tmp t) = fr t := Eq.trans (Eq.refl _) rfl
theorem e_const (fr : Fr) (v : Value) : ev fr (.const v) = some v := Eq.trans (Eq.refl _) rfl
theorem e_func (fr : Fr) (f : Nat) : ev fr (.func f) = some (.func (.func f) #[] #[]) := Eq.trans (Eq.refl _) rfl
theorem r_one (P : Program) (fr : Fr) (h : Heap) (r : ResultVar) : resV P fr h [r] = resOne P fr h r := Eq.trans (Eq.refl _) rfl
theorem r_tmp (P : Program) (fr : Fr) (h : Heap) (t : Nat) : resOne P fr h (.tmp t) = fr t := Eq.trans (Eq.refl _) rfl
theorem r_cell (P : Program) (fr : Fr) (h : Heap) (a t : Nat) : resOne P fr h (.cell a t) = (fr a).bind (loadV P h t) := Eq.trans (Eq.refl _) rfl
theorem r_nil (P : Program) (fr : Fr) (h : Heap) : resV P fr h [] = some (.tuple #[]) := Eq.trans (Eq.refl _) rfl
theorem r_two (P : Program) (fr : Fr) (h : Heap) (a b : ResultVar) : resV P fr h [a, b] = (resOne P fr h a).bind fun x => (resOne P fr h b).bind fun y => some (.tuple #[x, y]) := by
  simp only [resV, resAll]; cases resOne P fr h a <;> cases resOne P fr h b <;> rfl
theorem r_three (P : Program) (fr : Fr) (h : Heap) (a b c : ResultVar) : resV P fr h [a, b, c] = (resOne P fr h a).bind fun x => (resOne P fr h b).bind fun y => (resOne P fr h c).bind fun z => some (.tuple #[x, y, z]) := by
  simp only [resV, resAll]; cases resOne P fr h a <;> cases resOne P fr h b <;> cases resOne P fr h c <;> rfl
theorem p_move (P : Program) (fr : Fr) (h : Heap) (x : Operand) : rop P fr h (.move x) = ev fr x := Eq.trans (Eq.refl _) rfl
theorem p_assign (P : Program) (fr : Fr) (h : Heap) (x : Operand) : rop P fr h (.assign x) = ev fr x := Eq.trans (Eq.refl _) rfl
def pickV (c : Value) (a b : Option Value) : Option Value := match c with | .bool t => if t then a else b | _ => none
theorem p_pick (P : Program) (fr : Fr) (h : Heap) (c a b : Operand) : rop P fr h (.pick c a b) = (ev fr c).bind fun v => pickV v (ev fr a) (ev fr b) := by
  simp only [rop, pickV]; cases ev fr c with
  | none => rfl
  | some v => cases v <;> rfl
theorem p_pickT (a b : Option Value) : pickV (.bool true) a b = a := Eq.trans (Eq.refl _) rfl
theorem p_pickF (a b : Option Value) : pickV (.bool false) a b = b := Eq.trans (Eq.refl _) rfl
theorem p_load (P : Program) (fr : Fr) (h : Heap) (t : TypeId) (a : Operand) : rop P fr h (.load t a) = (ev fr a).bind (loadV P h t) := Eq.trans (Eq.refl _) rfl
theorem p_nil (P : Program) (fr : Fr) (h : Heap) (x : Operand) : rop P fr h (.nilCheck x) = (ev fr x).bind nilV := Eq.trans (Eq.refl _) rfl
theorem p_bin (P : Program) (fr : Fr) (h : Heap) (op : BinOp) (t : TypeId) (x y : Operand) (u : TypeId) : rop P fr h (.binOp op t x y u) = (ev fr x).bind fun a => (ev fr y).bind fun b => orE (binV P op t x y a b) (ptrC P h op t a b) := Eq.trans (Eq.refl _) rfl
theorem p_un (P : Program) (fr : Fr) (h : Heap) (op : UnOp) (t : TypeId) (x : Operand) : rop P fr h (.unOp op t x) = (ev fr x).bind (unV op) := Eq.trans (Eq.refl _) rfl
theorem p_conv (P : Program) (fr : Fr) (h : Heap) (s d : TypeId) (x : Operand) : rop P fr h (.convert s d x) = (ev fr x).bind (convV P s d) := Eq.trans (Eq.refl _) rfl
theorem p_mkfn (P : Program) (fr : Fr) (h : Heap) (f : Go.Fn) (a b : Array Operand) : rop P fr h (.makeFunc f a b) = (evL fr a.toList).bind fun a => (evL fr b.toList).map fun b => .func f a.toArray b.toArray := Eq.trans (Eq.refl _) rfl
theorem p_slice (P : Program) (fr : Fr) (h : Heap) (t : TypeId) (x : Operand) (lo hi mx : Option Operand) : rop P fr h (.slice t x lo hi mx) = (ev fr x).bind fun x => (evO fr lo).bind fun lo => (evO fr hi).bind fun hi => (evO fr mx).bind fun mx => sliceV P t x lo hi mx := Eq.trans (Eq.refl _) rfl
theorem p_fa (P : Program) (fr : Fr) (h : Heap) (s : TypeId) (x : Operand) (i : Nat) : rop P fr h (.fieldAddr s x i) = (ev fr x).bind (fieldAV P s i) := Eq.trans (Eq.refl _) rfl
theorem p_f (P : Program) (fr : Fr) (h : Heap) (t : TypeId) (x : Operand) (i : Nat) : rop P fr h (.field t x i) = (ev fr x).bind (fieldV P t i) := Eq.trans (Eq.refl _) rfl
theorem p_ia (P : Program) (fr : Fr) (h : Heap) (t : TypeId) (x i : Operand) : rop P fr h (.indexAddr t x i) = (ev fr x).bind fun x => (ev fr i).bind (idxAV P t x) := Eq.trans (Eq.refl _) rfl
theorem p_ix (P : Program) (fr : Fr) (h : Heap) (t : TypeId) (x i : Operand) : rop P fr h (.index t x i) = (ev fr x).bind fun x => (ev fr i).bind (idxV P t x) := Eq.trans (Eq.refl _) rfl
theorem p_look (P : Program) (fr : Fr) (h : Heap) (t : TypeId) (m k : Operand) (ok : Bool) : rop P fr h (.lookup t m k ok) = (ev fr m).bind fun m => (ev fr k).bind fun k => lookV P h t m k ok := Eq.trans (Eq.refl _) rfl
theorem p_ext (P : Program) (fr : Fr) (h : Heap) (x : Operand) (i : Nat) : rop P fr h (.extract x i) = (ev fr x).bind (extV i) := Eq.trans (Eq.refl _) rfl
theorem p_entry (P : Program) (fr : Fr) (h : Heap) (x : Operand) : rop P fr h (.entry x) = (ev fr x).bind (entV h) := Eq.trans (Eq.refl _) rfl
theorem p_build (P : Program) (fr : Fr) (h : Heap) (t : TypeId) (ps : Array (Nat × Operand)) : rop P fr h (.build t ps) = (evP fr ps.toList).bind (buildV P t) := Eq.trans (Eq.refl _) rfl
theorem p_len (P : Program) (fr : Fr) (h : Heap) (x : Operand) (t : TypeId) : rop P fr h (.call ⟨.builtin .len, #[x], #[t]⟩) = (ev fr x).bind (lenV P h t) := Eq.trans (Eq.refl _) rfl
theorem p_cap (P : Program) (fr : Fr) (h : Heap) (x : Operand) (t : TypeId) : rop P fr h (.call ⟨.builtin .cap, #[x], #[t]⟩) = (ev fr x).bind (capV P t) := Eq.trans (Eq.refl _) rfl
theorem p_min (P : Program) (fr : Fr) (h : Heap) (x y : Operand) (ts : Array TypeId) : rop P fr h (.call ⟨.builtin .min, #[x, y], ts⟩) = (ev fr x).bind fun a => (ev fr y).bind (minV a) := Eq.trans (Eq.refl _) rfl
theorem p_max (P : Program) (fr : Fr) (h : Heap) (x y : Operand) (ts : Array TypeId) : rop P fr h (.call ⟨.builtin .max, #[x, y], ts⟩) = (ev fr x).bind fun a => (ev fr y).bind (maxV a) := Eq.trans (Eq.refl _) rfl
theorem l_nil (fr : Fr) : evL fr [] = some [] := Eq.trans (Eq.refl _) rfl
theorem l_cons (fr : Fr) (x : Operand) (xs : List Operand) : evL fr (x :: xs) = (ev fr x).bind fun v => (evL fr xs).bind fun vs => some (v :: vs) := Eq.trans (Eq.refl _) rfl
theorem q_nil (fr : Fr) : evP fr [] = some [] := Eq.trans (Eq.refl _) rfl
theorem q_cons (fr : Fr) (i : Nat) (x : Operand) (xs : List (Nat × Operand)) : evP fr ((i, x) :: xs) = (ev fr x).bind fun v => (evP fr xs).bind fun vs => some ((i, v) :: vs) := Eq.trans (Eq.refl _) rfl
theorem v_none (fr : Fr) : evO fr none = some none := Eq.trans (Eq.refl _) rfl
theorem v_some (fr : Fr) (x : Operand) : evO fr (some x) = (ev fr x).map some := Eq.trans (Eq.refl _) rfl
def eqPt (r : Bool) : Option TypeDesc → Option Value | some (.pointer _) => some (.bool r) | _ => none
theorem eqPt_t (r : Bool) (e : TypeId) : eqPt r (some (.pointer e)) = some (.bool r) := Eq.trans (Eq.refl _) rfl
theorem b_pn (P : Program) (t : TypeId) (x y : Operand) (a : Addr) : binV P .eql t x y (.pointer (some a)) (.pointer none) = eqPt false (P.underlying t) := by
  simp only [binV, quietEq, if_true, eqIn]
  cases P.underlying t with
  | none => rfl
  | some d => cases d <;> rfl
theorem b_pnn (P : Program) (t : TypeId) (x y : Operand) (a : Addr) : binV P .neq t x y (.pointer (some a)) (.pointer none) = eqPt true (P.underlying t) := by
  simp only [binV, quietEq, if_true, eqIn]
  cases P.underlying t with
  | none => rfl
  | some d => cases d <;> rfl
theorem orE_none (x : Option Value) : orE x none = x := by cases x <;> rfl
theorem o_int (P : Program) (h : Heap) (op : BinOp) (t : TypeId) (x y : Operand) (k k' : IntKind) (a b : Int) : orE (binV P op t x y (.int k a) (.int k' b)) (ptrC P h op t (.int k a) (.int k' b)) = intV op k a k' b := by
  have e : ptrC P h op t (.int k a) (.int k' b) = none := by cases op <;> rfl
  rw [e, orE_none]; rfl
theorem o_np (P : Program) (h : Heap) (op : BinOp) (t : TypeId) (x y : Operand) (b : Value) : orE (binV P op t x y (.pointer none) b) (ptrC P h op t (.pointer none) b) = binV P op t x y (.pointer none) b := by
  have e : ptrC P h op t (.pointer none) b = none := by cases op <;> rfl
  rw [e, orE_none]
theorem o_pn (P : Program) (h : Heap) (op : BinOp) (t : TypeId) (x y : Operand) (a : Addr) : orE (binV P op t x y (.pointer (some a)) (.pointer none)) (ptrC P h op t (.pointer (some a)) (.pointer none)) = binV P op t x y (.pointer (some a)) (.pointer none) := by
  have e : ptrC P h op t (.pointer (some a)) (.pointer none) = none := by
    have z : ptrE P h t (.pointer (some a)) (.pointer none) = none := by
      unfold ptrE; split
      · rename_i q; cases q
      · rfl
    cases op <;> (try rfl) <;> simp [ptrC, z]
  rw [e, orE_none]
theorem o_agg (P : Program) (h : Heap) (op : BinOp) (t : TypeId) (x y : Operand) (a : Array Value) (b : Value) : orE (binV P op t x y (.agg a) b) (ptrC P h op t (.agg a) b) = binV P op t x y (.agg a) b := by
  have e : ptrC P h op t (.agg a) b = none := by cases op <;> rfl
  rw [e, orE_none]
theorem o_sl (P : Program) (h : Heap) (op : BinOp) (t : TypeId) (x y : Operand) (a : Option Addr) (n c : Nat) (b : Value) : orE (binV P op t x y (.slice a n c) b) (ptrC P h op t (.slice a n c) b) = binV P op t x y (.slice a n c) b := by
  have e : ptrC P h op t (.slice a n c) b = none := by cases op <;> rfl
  rw [e, orE_none]
theorem o_ppn (P : Program) (h : Heap) (t : TypeId) (x y : Operand) (a b : Addr) : orE (binV P .neq t x y (.pointer (some a)) (.pointer (some b))) (ptrC P h .neq t (.pointer (some a)) (.pointer (some b))) = (ptrE P h t (.pointer (some a)) (.pointer (some b))).map fun r => .bool (!r) := by
  have e : binV P .neq t x y (.pointer (some a)) (.pointer (some b)) = none := by
    simp only [binV, quietEq, if_true, eqIn]
    cases P.underlying t with
    | none => rfl
    | some d => cases d <;> rfl
  rw [e]; rfl
/-- two pointers to things of a size: alike, or not. -/
theorem ptrE_same {P : Program} {h : Heap} {t e n r i j : Nat} (hu : P.underlying t = some (.pointer e)) (hz : szP P e = some n) (hn : n ≠ 0) : ptrE P h t (ptr r i) (ptr r j) = some (decide (i = j)) := by
  simp [ptrE, hu, hz, hn]
theorem ptrE_diff {P : Program} {h : Heap} {t e n r s i j e1 e2 : Nat} {c1 c2 : Array Value} (hu : P.underlying t = some (.pointer e)) (hz : szP P e = some n) (hn : n ≠ 0) (h1 : h[r]? = some (.cells c1 e1 (0, 0))) (h2 : h[s]? = some (.cells c2 e2 (0, 0))) (q : r ≠ s) : ptrE P h t (ptr r i) (ptr s j) = some false := by
  simp [ptrE, hu, hz, hn, q, h1, h2, plainO]
theorem i_add (k : IntKind) (a b : Int) : intV .add k a k b = some (.int k (k.wrap (a + b))) := by simp [intV]
theorem i_sub (k : IntKind) (a b : Int) : intV .sub k a k b = some (.int k (k.wrap (a - b))) := by simp [intV]
theorem i_mul (k : IntKind) (a b : Int) : intV .mul k a k b = some (.int k (k.wrap (a * b))) := by simp [intV]
theorem i_quo (k : IntKind) (a b : Int) : intV .quo k a k b = if b = 0 then none else some (.int k (k.wrap (a.tdiv b))) := by simp [intV]
theorem i_rem (k : IntKind) (a b : Int) : intV .rem k a k b = if b = 0 then none else some (.int k (a.tmod b)) := by simp [intV]
theorem i_and (k : IntKind) (a b : Int) : intV .and k a k b = some (.int k (bitI .and k a b)) := by simp [intV]
theorem i_or (k : IntKind) (a b : Int) : intV .or k a k b = some (.int k (bitI .or k a b)) := by simp [intV]
theorem i_xor (k : IntKind) (a b : Int) : intV .xor k a k b = some (.int k (bitI .xor k a b)) := by simp [intV]
theorem i_andNot (k : IntKind) (a b : Int) : intV .andNot k a k b = some (.int k (bitI .andNot k a b)) := by simp [intV]
theorem i_shl (k k' : IntKind) (a b : Int) : intV .shl k a k' b = if b < 0 then none else some (.int k (shlI k a b)) := by simp [intV]
theorem i_shr (k k' : IntKind) (a b : Int) : intV .shr k a k' b = if b < 0 then none else some (.int k (shrI k a b)) := by simp [intV]
theorem i_eql (k : IntKind) (a b : Int) : intV .eql k a k b = some (.bool (decide (a = b))) := by simp [intV]
theorem i_neq (k : IntKind) (a b : Int) : intV .neq k a k b = some (.bool (!decide (a = b))) := by simp [intV]
theorem i_lss (k : IntKind) (a b : Int) : intV .lss k a k b = some (.bool (decide (a < b))) := by simp [intV]
theorem i_leq (k : IntKind) (a b : Int) : intV .leq k a k b = some (.bool (decide (a ≤ b))) := by simp [intV]
theorem i_gtr (k : IntKind) (a b : Int) : intV .gtr k a k b = some (.bool (decide (b < a))) := by simp [intV]
theorem i_geq (k : IntKind) (a b : Int) : intV .geq k a k b = some (.bool (decide (b ≤ a))) := by simp [intV]
theorem u_not (b : Bool) : unV .not (.bool b) = some (.bool !b) := Eq.trans (Eq.refl _) rfl
theorem n_ptr (a : Addr) : nilV (.pointer (some a)) = some (.pointer (some a)) := Eq.trans (Eq.refl _) rfl
theorem x_fa (P : Program) (s i b o : Nat) : fieldAV P s i (.pointer (some ⟨b, o, none⟩)) = (foff P s i).map fun n => ptr b (o + n) := Eq.trans (Eq.refl _) rfl
def ldV (h : Heap) (b o : Nat) : Option Sh → Option Value
  | some .one => cell? h b o
  | some (.agg n) => (cells? h b o n).map fun l => .agg l.toArray
  | none => none
theorem x_load (P : Program) (h : Heap) (t b o : Nat) : loadV P h t (.pointer (some ⟨b, o, none⟩)) = ldV h b o (shP P t) := by
  unfold loadV ldV; cases shP P t with
  | none => rfl
  | some s => cases s <;> rfl
theorem x_ld1 (h : Heap) (b o : Nat) : ldV h b o (some .one) = cell? h b o := Eq.trans (Eq.refl _) rfl
theorem x_ldN (h : Heap) (b o n : Nat) : ldV h b o (some (.agg n)) = (cells? h b o n).map fun l => .agg l.toArray := Eq.trans (Eq.refl _) rfl
theorem x_ext (i : Nat) (vs : Array Value) : extV i (.tuple vs) = vs[i]? := Eq.trans (Eq.refl _) rfl
theorem x_min (k k' : IntKind) (x y : Int) : minV (.int k x) (.int k' y) = some (.int k (if y < x then y else x)) := Eq.trans (Eq.refl _) rfl
theorem x_max (k k' : IntKind) (x y : Int) : maxV (.int k x) (.int k' y) = some (.int k (if x < y then y else x)) := Eq.trans (Eq.refl _) rfl
theorem w_alloc (P : Program) (fr : Fr) (h : Heap) (t : TypeId) (K : Value → Heap → Prop) : eop P fr h (.alloc t) K = @obK _ (zc P t) ⟨fun z => K (ptr h.size 0) (h.push (.cells z.toArray t (0, 0)))⟩ := Eq.trans (Eq.refl _) rfl
theorem w_box (P : Program) (fr : Fr) (h : Heap) (t : TypeId) (x : Operand) (K : Value → Heap → Prop) : eop P fr h (.box t x) K = @obK _ (ev fr x) ⟨fun v => K (ptr h.size 0) (h.push (.cells v.cells t (0, 0)))⟩ := Eq.trans (Eq.refl _) rfl
theorem w_store (P : Program) (fr : Fr) (h : Heap) (t : TypeId) (a x : Operand) (K : Value → Heap → Prop) : eop P fr h (.store t a x) K =
    @obK _ (ev fr a) ⟨fun a => @obK _ (ev fr x) ⟨fun v => @obK _ (addrV a) ⟨fun bo => @obK _ (szP P t) ⟨fun n => v.cells.size = n ∧ @obK _ (wr h bo.1 bo.2 v.cells.toList) ⟨fun h' => K undef h'⟩⟩⟩⟩⟩ := Eq.trans (Eq.refl _) rfl
theorem w_call (P : Program) (fr : Fr) (h : Heap) (f : Operand) (args : Array Operand) (ts : Array TypeId) (K : Value → Heap → Prop) : eop P fr h (.call ⟨.value f, args, ts⟩) K =
    @obK _ (evL fr args.toList) ⟨fun args => @obK _ (ev fr f) ⟨fun f => callW P f args h K⟩⟩ := Eq.trans (Eq.refl _) rfl
theorem w_callF (P : Program) (f : FuncId) (first cap : Array Value) (args : List Value) (h : Heap) (K : Value → Heap → Prop) : callW P (.func (.func f) first cap) args h K = @FnK P f (first.toList ++ args ++ cap.toList) h ⟨K⟩ := Eq.trans (Eq.refl _) rfl
theorem w_append (P : Program) (fr : Fr) (h : Heap) (a b : Operand) (t tx : TypeId) (K : Value → Heap → Prop) : eop P fr h (.call ⟨.builtin .append, #[a, b], #[t, tx]⟩) K =
    @obK _ (ev fr a) ⟨fun s => @obK _ (ev fr b) ⟨fun x => @appK P h t tx s x ⟨K⟩⟩⟩ := by
  simp only [eop, evL]; cases ev fr a with
  | none => rfl
  | some s => cases ev fr b <;> rfl
theorem w_copy (P : Program) (fr : Fr) (h : Heap) (a b : Operand) (t tx : TypeId) (K : Value → Heap → Prop) : eop P fr h (.call ⟨.builtin .copy, #[a, b], #[t, tx]⟩) K =
    @obK _ (ev fr a) ⟨fun s => @obK _ (ev fr b) ⟨fun x => @copyK P h t s x ⟨K⟩⟩⟩ := by
  simp only [eop, evL]; cases ev fr a with
  | none => rfl
  | some s => cases ev fr b <;> rfl
theorem w_clear (P : Program) (fr : Fr) (h : Heap) (a : Operand) (t : TypeId) (K : Value → Heap → Prop) : eop P fr h (.call ⟨.builtin .clear, #[a], #[t]⟩) K =
    @obK _ (ev fr a) ⟨fun s => @clearK P h t s ⟨K⟩⟩ := by
  simp only [eop, evL]; cases ev fr a <;> rfl
theorem w_delete (P : Program) (fr : Fr) (h : Heap) (a b : Operand) (t tx : TypeId) (K : Value → Heap → Prop) : eop P fr h (.call ⟨.builtin .delete, #[a, b], #[t, tx]⟩) K =
    @obK _ (ev fr a) ⟨fun s => @obK _ (ev fr b) ⟨fun x => @delK P h t s x ⟨K⟩⟩⟩ := by
  simp only [eop, evL]; cases ev fr a with
  | none => rfl
  | some s => cases ev fr b <;> rfl
theorem w_mapup (P : Program) (fr : Fr) (h : Heap) (t : TypeId) (m k v : Operand) (K : Value → Heap → Prop) : eop P fr h (.mapUpdate t m k v) K =
    @obK _ (ev fr m) ⟨fun m => @obK _ (ev fr k) ⟨fun k => @obK _ (ev fr v) ⟨fun v => @mupK P h t m k v ⟨fun h' => K undef h'⟩⟩⟩⟩ := Eq.trans (Eq.refl _) rfl
theorem w_mkmap (P : Program) (fr : Fr) (h : Heap) (t : TypeId) (K : Value → Heap → Prop) : eop P fr h (.makeMap t none) K = K (.map (some h.size)) (h.push (.map #[] 0)) := Eq.trans (Eq.refl _) rfl
theorem w_mkslice (P : Program) (fr : Fr) (h : Heap) (t : TypeId) (l c : Operand) (K : Value → Heap → Prop) : eop P fr h (.makeSlice t l c) K = @obK _ (ev fr l) ⟨fun l => @obK _ (ev fr c) ⟨fun c => @mksK P h t l c ⟨K⟩⟩⟩ := Eq.trans (Eq.refl _) rfl
theorem w_range (P : Program) (fr : Fr) (h : Heap) (t : TypeId) (x : Operand) (K : Value → Heap → Prop) : eop P fr h (.range t x) K = @obK _ (ev fr x) ⟨fun x => @rngK P h t x ⟨K⟩⟩ := Eq.trans (Eq.refl _) rfl
theorem w_next (P : Program) (fr : Fr) (h : Heap) (x : Operand) (s : Bool) (K : Value → Heap → Prop) : eop P fr h (.next x s) K = @obK _ (ev fr x) ⟨fun x => @nxtK h x s ⟨K⟩⟩ := Eq.trans (Eq.refl _) rfl
theorem w_bslice (P : Program) (fr : Fr) (h : Heap) (t : TypeId) (n : Nat) (ps : Array (Nat × Operand)) (K : Value → Heap → Prop) : eop P fr h (.buildSlice t n ps) K =
    @obK _ (evP fr ps.toList) ⟨fun vs => @obK _ (slE P t) ⟨fun es => n * es.2 ≤ 16777216 ∧ @obK _ (zeroP P es.1) ⟨fun z =>
      @obK _ (fillL (if n * es.2 = 0 then [] else mkCells z (n * es.2)) (vs.map fun p => (p.1 * es.2, es.2, p.2))) ⟨fun cs => K (.slice (some ⟨h.size, 0, none⟩) n n) (h.push (.cells cs.toArray es.1 (0, 0)))⟩⟩⟩⟩ := Eq.trans (Eq.refl _) rfl
theorem a_ptr (b o : Nat) : addrV (.pointer (some ⟨b, o, none⟩)) = some (b, o) := Eq.trans (Eq.refl _) rfl
def cvI (s d : Option TypeDesc) (n : Int) : Option Value := match s, d with | some _, some (.int k) => some (.int k (k.wrap n)) | _, _ => none
theorem y_conv (P : Program) (s d : TypeId) (k : IntKind) (n : Int) : convV P s d (.int k n) = cvI (P.underlying s) (P.underlying d) n := by
  unfold convV cvI; cases P.underlying s <;> cases P.underlying d with
  | none => rfl
  | some x => cases x <;> rfl
theorem y_cvI (s : TypeDesc) (k : IntKind) (n : Int) : cvI (some s) (some (.int k)) n = some (.int k (k.wrap n)) := Eq.trans (Eq.refl _) rfl
def lnS (d : Option TypeDesc) (n : Nat) : Option Value := match d with | some (.slice _) => some (.int .i64 n) | _ => none
def lnM (d : Option TypeDesc) (o : Option Obj) : Option Value := match d, o with | some (.map _ _), some (.map es _) => some (.int .i64 es.size) | _, _ => none
theorem y_lenS (P : Program) (h : Heap) (t : TypeId) (a : Option Addr) (n c : Nat) : lenV P h t (.slice a n c) = lnS (P.underlying t) n := by simp only [lenV, lnS]; rfl
theorem y_lenM (P : Program) (h : Heap) (t : TypeId) (r : Nat) : lenV P h t (.map (some r)) = lnM (P.underlying t) h[r]? := by
  simp only [lenV, lnM]; rfl
theorem y_lnS (e : TypeId) (n : Nat) : lnS (some (.slice e)) n = some (.int .i64 n) := Eq.trans (Eq.refl _) rfl
theorem y_lnM (k e : TypeId) (es : Array MapEntry) (c : Nat) : lnM (some (.map k e)) (some (.map es c)) = some (.int .i64 es.size) := Eq.trans (Eq.refl _) rfl
theorem y_capS (P : Program) (t : TypeId) (a : Option Addr) (n c : Nat) : capV P t (.slice a n c) = lnS (P.underlying t) c := by simp only [capV, lnS]; rfl
theorem y_iaS (P : Program) (t b o len cap : Nat) (k : IntKind) (i : Int) : idxAV P t (.slice (some ⟨b, o, none⟩) len cap) (.int k i) = (slE P t).bind fun en => if 0 ≤ i ∧ i < (len : Int) then some (ptr b (o + i.toNat * en.2)) else none := Eq.trans (Eq.refl _) rfl
theorem y_iaA (P : Program) (t b o : Nat) (k : IntKind) (i : Int) : idxAV P t (.pointer (some ⟨b, o, none⟩)) (.int k i) = (arE P t).bind fun en => if 0 ≤ i ∧ i < (en.1 : Int) then some (ptr b (o + i.toNat * en.2.2)) else none := Eq.trans (Eq.refl _) rfl
theorem y_bndN (d top : Nat) : bnd none d top = some d := Eq.trans (Eq.refl _) rfl
theorem y_bndS (k : IntKind) (i : Int) (d top : Nat) : bnd (some (.int k i)) d top = if 0 ≤ i ∧ i ≤ (top : Int) then some i.toNat else none := Eq.trans (Eq.refl _) rfl
theorem y_bnds2 (len cap : Nat) (lo hi : Option Value) : bnds len cap lo hi none = (bnd hi len cap).bind fun h => (bnd lo 0 h).bind fun l => some (l, h, cap) := by
  cases hi <;> rfl
theorem y_slS (P : Program) (t : TypeId) (a : Option Addr) (len cap : Nat) (lo hi mx : Option Value) : sliceV P t (.slice a len cap) lo hi mx = (slE P t).bind fun en => (bnds len cap lo hi mx).bind fun r => some (.slice (if r.2.2 = r.1 then a else a.map fun a => addA a (r.1 * en.2)) (r.2.1 - r.1) (r.2.2 - r.1)) := Eq.trans (Eq.refl _) rfl
theorem y_slA (P : Program) (t : TypeId) (a : Addr) (lo hi mx : Option Value) : sliceV P t (.pointer (some a)) lo hi mx = (arE P t).bind fun en => (bnds en.1 en.1 lo hi mx).bind fun r => some (.slice (some (if r.2.2 = r.1 then a else addA a (r.1 * en.2.2))) (r.2.1 - r.1) (r.2.2 - r.1)) := Eq.trans (Eq.refl _) rfl
theorem y_addA (b o n : Nat) : addA ⟨b, o, none⟩ n = ⟨b, o + n, none⟩ := Addr_add_none b o n
def cellO (o : Nat) : Option Obj → Option Value | some (.cells c _ _) => c[o]? | _ => none
def cellsO (o n : Nat) : Option Obj → Option (List Value) | some (.cells c _ _) => if o + n ≤ c.size then some ((c.toList.drop o).take n) else none | _ => none
def wrO (h : Heap) (b o : Nat) (vs : List Value) : Option Obj → Option Heap
  | some (.cells c e (lo, hi)) => if o + vs.length ≤ c.size ∧ (hi ≤ lo ∨ hi ≤ o ∨ o + vs.length ≤ lo) ∧ vs.all one = true then some (h.setIfInBounds b (.cells (setL c.toList o vs).toArray e (lo, hi))) else none
  | _ => none
theorem h_cell (h : Heap) (b o : Nat) : cell? h b o = cellO o h[b]? := by unfold cell? cellO; cases h[b]? with | none => rfl | some x => cases x <;> rfl
theorem h_cells (h : Heap) (b o n : Nat) : cells? h b o n = cellsO o n h[b]? := by unfold cells? cellsO; cases h[b]? with | none => rfl | some x => cases x <;> rfl
theorem h_wr (h : Heap) (b o : Nat) (vs : List Value) : wr h b o vs = wrO h b o vs h[b]? := by unfold wr wrO; cases h[b]? with | none => rfl | some x => cases x <;> rfl
theorem h_cellO (o : Nat) (c : Array Value) (e : TypeId) (f : Nat × Nat) : cellO o (some (.cells c e f)) = c[o]? := Eq.trans (Eq.refl _) rfl
theorem h_cellsO (o n : Nat) (c : Array Value) (e : TypeId) (f : Nat × Nat) : cellsO o n (some (.cells c e f)) = if o + n ≤ c.size then some ((c.toList.drop o).take n) else none := Eq.trans (Eq.refl _) rfl
theorem h_wrO (h : Heap) (b o : Nat) (vs : List Value) (c : Array Value) (e : TypeId) : wrO h b o vs (some (.cells c e (0, 0))) = if o + vs.length ≤ c.size ∧ vs.all one = true then some (h.setIfInBounds b (.cells (setL c.toList o vs).toArray e (0, 0))) else none := by simp [wrO]
theorem h_pushL (h : Heap) (x : Obj) (b : Nat) (hb : b < h.size) : (h.push x)[b]? = h[b]? := by rw [Array.getElem?_push, if_neg (by omega)]
theorem h_setS (h : Heap) (b : Nat) (x : Obj) (hb : b < h.size) : (h.setIfInBounds b x)[b]? = some x := by simp [hb]
theorem h_setN (h : Heap) (b c : Nat) (x : Obj) (hb : ¬ c = b) : (h.setIfInBounds b x)[c]? = h[c]? := by simp [Array.getElem?_setIfInBounds, Ne.symm hb]
theorem h_szP (h : Heap) (x : Obj) : (h.push x).size = h.size + 1 := Array.size_push x
theorem h_szS (h : Heap) (b : Nat) (x : Obj) : (h.setIfInBounds b x).size = h.size := Array.size_setIfInBounds
theorem s_z (c : Value) (cs : List Value) (v : Value) (vs : List Value) : setL (c :: cs) 0 (v :: vs) = v :: setL cs 0 vs := Eq.trans (Eq.refl _) rfl
theorem s_e (cs : List Value) (o : Nat) : setL cs o [] = cs := setL_nil cs o
theorem s_s (c : Value) (cs : List Value) (o : Nat) (vs : List Value) : setL (c :: cs) (o + 1) vs = c :: setL cs o vs := Eq.trans (Eq.refl _) rfl
theorem d_build (P : Program) (t : TypeId) (parts : List (Nat × Value)) : buildV P t parts = (zc P t).bind fun z => if sized P t then (places P t parts).bind fun l => (fillL z l).map fun cs => .agg cs.toArray else none := Eq.trans (Eq.refl _) rfl
theorem d_plN (P : Program) (t : TypeId) : places P t [] = some [] := Eq.trans (Eq.refl _) rfl
theorem d_plC (P : Program) (t i : Nat) (v : Value) (r : List (Nat × Value)) : places P t ((i, v) :: r) = (place P t i).bind fun on => (places P t r).bind fun l => some ((on.1, on.2, v) :: l) := Eq.trans (Eq.refl _) rfl
theorem d_fN (cells : List Value) : fillL cells [] = some cells := Eq.trans (Eq.refl _) rfl
theorem d_fC (cells : List Value) (o n : Nat) (v : Value) (r : List (Nat × Nat × Value)) : fillL cells ((o, n, v) :: r) = if v.cells.size = n ∧ o + n ≤ cells.length then fillL (setL cells o v.cells.toList) r else none := Eq.trans (Eq.refl _) rfl
theorem one_int (k : IntKind) (n : Int) : one (.int k n) = true := Eq.trans (Eq.refl _) rfl
theorem one_ptr (a : Option Addr) : one (.pointer a) = true := Eq.trans (Eq.refl _) rfl
theorem one_slice (a : Option Addr) (n c : Nat) : one (.slice a n c) = true := Eq.trans (Eq.refl _) rfl
theorem wr_u64 (n : Int) (h0 : 0 ≤ n) (h1 : n < 18446744073709551616) : IntKind.u64.wrap n = n := by
  simp [IntKind.wrap, IntKind.bits, IntKind.signed]; omega
theorem wr_i64 (n : Int) (h0 : -9223372036854775808 ≤ n) (h1 : n < 9223372036854775808) : IntKind.i64.wrap n = n := IntWalk.i64_in _ (by omega)
theorem td_pos (a b : Int) (h0 : 0 ≤ a) : a.tdiv b = a / b := Int.tdiv_eq_ediv_of_nonneg h0
theorem tm_pos (a b : Int) (h0 : 0 ≤ a) : a.tmod b = a % b := Int.tmod_eq_emod_of_nonneg h0
theorem mk_one (z : Value) (hz : z.cells = #[z]) (n : Nat) : mkCells z n = List.replicate n z := by
  unfold mkCells
  rw [hz]
  apply List.ext_getElem
  · simp
  · intro i h1 h2
    simp [Nat.mod_one]
theorem mk_int (k : IntKind) (a : Int) (n : Nat) : mkCells (.int k a) n = List.replicate n (.int k a) := mk_one _ rfl n
theorem mk_agg (cs : Array Value) (n : Nat) (h : n = cs.size) : mkCells (.agg cs) n = cs.toList := by
  subst h
  unfold mkCells
  apply List.ext_getElem
  · simp
  · intro i h1 h2
    have h3 : i < cs.size := by simpa using h2
    simp [Value.cells, Nat.mod_eq_of_lt h3, h3]
attribute [irreducible] FnK LoopK obK appK copyK clearK delK mupK mksK rngK nxtK
attribute [go_sem ↓] c_ops c_seq c_skip c_keep c_cond c_block c_loop c_amb c_exit c_ret k_seqN k_seqN' k_seqE k_seqR k_blkN k_blkE k_blkR k_retN k_retR o_nil o_calm o_eff o_grd w_alloc w_box w_store w_call w_callF w_append w_copy w_clear w_delete w_mapup w_mkmap w_mkslice w_range w_next w_bslice c_condV g_u g_t g_f t_T t_F t_dec t_not obK_some o_int o_np o_pn o_agg o_sl o_ppn
attribute [go_sem] o_int o_np o_pn o_agg o_sl o_ppn f_up f_putS f_putN f_upoS f_keepC f_keepN f_0 f_argC f_argN e_tmp e_const e_func r_one r_tmp r_cell r_nil r_two r_three p_move p_assign p_pick p_pickT p_pickF p_load p_nil p_bin p_un p_conv p_mkfn p_slice p_fa p_f p_ia p_ix p_look p_ext p_entry p_build p_len p_cap p_min p_max l_nil l_cons q_nil q_cons v_none v_some eqPt_t b_pn b_pnn i_add i_sub i_mul i_quo i_rem i_and i_or i_xor i_andNot i_shl i_shr i_eql i_neq i_lss i_leq i_gtr i_geq u_not n_ptr x_fa x_load x_ld1 x_ldN x_ext x_min x_max a_ptr obK_some y_conv y_cvI y_lenS y_lenM y_lnS y_lnM y_capS y_iaS y_iaA y_bndN y_bndS y_bnds2 y_slS y_slA y_addA h_cell h_cells h_wr h_cellO h_cellsO h_wrO h_pushL h_setS h_setN h_szP h_szS s_z s_e s_s d_build d_plN d_plC d_fN d_fC one_int one_ptr one_slice wr_u64 wr_i64 td_pos tm_pos mk_int mk_agg if_neg if_pos
attribute [go_sem] Int.cast_ofNat_Int List.map_cons List.map_nil decide_true decide_false not_false_eq_true not_true_eq_false implies_true Option.bind_some Option.map_some cond_true cond_false if_true if_false Bool.not_true Bool.not_false Bool.false_eq_true Bool.true_eq_false true_implies false_implies and_true true_and decide_eq_true_eq decide_eq_false_iff_not Bool.not_eq_true' Bool.not_eq_false' Int.not_lt Int.not_le Bool.not_eq_eq_eq_not eq_self List.nil_append List.append_nil List.getElem?_toArray List.getElem?_cons_zero List.getElem?_cons_succ Nat.zero_add Nat.add_zero List.length_cons List.length_nil List.size_toArray List.all_cons List.all_nil Bool.and_true Bool.true_and List.drop_zero List.drop_succ_cons List.take_succ_cons List.take_zero List.toList_toArray Nat.le_refl Int.toNat_natCast
attribute [go_sem] x_fld fdR_1 fdR_n List.extract_toArray
end Go.SX
namespace Go.SX
abbrev U (a : BitVec 64) : Value := .int .u64 (a.toNat : Int)
theorem wrap_u64 (n : Int) : IntKind.u64.wrap n = n % 18446744073709551616 := by simp [IntKind.wrap, IntKind.bits, IntKind.signed]
theorem wrap_i64 (n : Int) : IntKind.i64.wrap n = (n + 9223372036854775808) % 18446744073709551616 - 9223372036854775808 := by
  simp [IntKind.wrap, IntKind.bits, IntKind.signed]; omega
theorem ofInt_toNat64 (a : BitVec 64) : BitVec.ofInt 64 (a.toNat : Int) = a := by simp
theorem bv_and (a b : BitVec 64) : bitI .and .u64 a.toNat b.toNat = ((a &&& b).toNat : Int) := by
  have h := (a &&& b).isLt
  show IntKind.u64.wrap ((((BitVec.ofInt 64 (a.toNat : Int)) &&& (BitVec.ofInt 64 (b.toNat : Int))).toNat : Nat) : Int) = _
  rw [ofInt_toNat64, ofInt_toNat64, wrap_u64]; omega
theorem bv_or (a b : BitVec 64) : bitI .or .u64 a.toNat b.toNat = ((a ||| b).toNat : Int) := by
  have h := (a ||| b).isLt
  show IntKind.u64.wrap ((((BitVec.ofInt 64 (a.toNat : Int)) ||| (BitVec.ofInt 64 (b.toNat : Int))).toNat : Nat) : Int) = _
  rw [ofInt_toNat64, ofInt_toNat64, wrap_u64]; omega
theorem bv_xor (a b : BitVec 64) : bitI .xor .u64 a.toNat b.toNat = ((a ^^^ b).toNat : Int) := by
  have h := (a ^^^ b).isLt
  show IntKind.u64.wrap ((((BitVec.ofInt 64 (a.toNat : Int)) ^^^ (BitVec.ofInt 64 (b.toNat : Int))).toNat : Nat) : Int) = _
  rw [ofInt_toNat64, ofInt_toNat64, wrap_u64]; omega
theorem bv_add (a b : BitVec 64) : IntKind.u64.wrap ((a.toNat : Int) + b.toNat) = ((a + b).toNat : Int) := by
  rw [wrap_u64]; simp [BitVec.toNat_add]
theorem bv_i64 (a : BitVec 64) : IntKind.i64.wrap (a.toNat : Int) = a.toInt := by
  rw [wrap_i64, BitVec.toInt_eq_toNat_cond]; have := a.isLt; split <;> omega
theorem bv_u64 (a : BitVec 64) : IntKind.u64.wrap a.toInt = (a.toNat : Int) := by
  rw [wrap_u64, BitVec.toInt_eq_toNat_cond]; have := a.isLt; split <;> omega
theorem bv_shl (a : BitVec 64) (n : Nat) (h : n ≤ 64) : shlI .u64 (a.toNat : Int) (n : Int) = ((a <<< n).toNat : Int) := by
  simp only [shlI, IntKind.bits, Int.toNat_natCast, Nat.min_eq_left h, wrap_u64, BitVec.toNat_shiftLeft, Nat.shiftLeft_eq]
  simp
theorem bv_sar (a : BitVec 64) (n : Nat) (h : n ≤ 64) : shrI .i64 a.toInt (n : Int) = (a.sshiftRight n).toInt := by
  simp only [shrI, IntKind.bits, Int.toNat_natCast, Nat.min_eq_left h, BitVec.toInt_sshiftRight, Int.shiftRight_eq_div_pow]
  rw [Int.fdiv_eq_ediv_of_nonneg _ (Int.pow_nonneg (by decide))]
  push_cast
  rfl
theorem bv_ltu (a b : BitVec 64) : ((a.toNat : Int) < b.toNat) = (a < b) := by rw [BitVec.lt_def]; simp
/-- less, with signs (a word of its own: 'omega' takes 'toInt' apart without end). -/
def SLt (a b : BitVec 64) : Prop := a.toInt < b.toInt
instance (a b : BitVec 64) : Decidable (SLt a b) := inferInstanceAs (Decidable (a.toInt < b.toInt))
theorem bv_lti (a b : BitVec 64) : (a.toInt < b.toInt) = SLt a b := rfl
theorem bv_lei (a b : BitVec 64) : (a.toInt ≤ b.toInt) = ¬ SLt b a := by simp [SLt]
end Go.SX
namespace Go.SX
open Go.RowKit
theorem law_calls {P : Program} {f : FuncId} {fn : Func} {args : List Value} {w : World} (hfn : P.funcs[f]? = some fn) (hb : (fn.body.isSome && !(fn.name == "runtime.NumGoroutine")) = true)
    (h : Fn P f args w.heap fun v h' => v = .bool true ∧ ∀ b, b < w.heap.size → h'[b]? = w.heap[b]?) : Calls P f args.toArray w fun e W' => e = .returned (.bool true) ∧ Below w.heap.size w W' := by
  have hu := h w rfl
  simp only [Bool.and_eq_true, Bool.not_eq_true'] at hb
  have hn' : ¬ fn.name = "runtime.NumGoroutine" := by simpa using hb.2
  have hcall : (callFunc f args.toArray).run P w = .ok (.enter f args.toArray) w := by
    simp [callFunc, hfn, hn']
    intro hbn; rw [hbn] at hb; simp at hb
  rw [hcall] at hu
  refine hu.2.mono ?_
  rintro e W' ⟨v, rfl, ⟨rfl, hk⟩, h1, h2, h3⟩
  refine ⟨rfl, h1, h2, h3, ?_, hk⟩
  rcases Nat.eq_zero_or_pos w.heap.size with h0 | h0
  · omega
  · have := hk (w.heap.size - 1) (by omega)
    have hs : w.heap[w.heap.size - 1]? = some w.heap[w.heap.size - 1] := by simp [h0]
    rw [hs] at this
    have := (Array.getElem?_eq_some_iff.1 this).1
    omega
end Go.SX
namespace Go.SX
theorem byT {c p : Prop} [Decidable c] (a : (c = True) → p) (b : (c = False) → p) : p := if h : c then a (eq_true h) else b (eq_false h)
theorem gs0 {a b : Prop} (k : b) (h : a = b := by simp -implicitDefEqProofs (maxSteps := 4000000) (disch := first | omega | (simp only [h_szP, h_szS]; done) | (simp only [h_szP, h_szS]; omega)) only [go_sem, Nat.reduceBEq, reduceCtorEq, Nat.reduceAdd, Int.reduceEq, Int.reduceLT, Int.reduceLE, Int.reduceMul, Int.reduceAdd, Int.reduceSub, reduceIte, Nat.reduceLeDiff, Nat.reduceLT, Nat.reduceMul, Nat.reduceSub, Int.reduceToNat]; rfl) : a := h.symm ▸ k
theorem gs1 {a b p0 : Prop} (e0 : p0) (k : b) (h : p0 → a = b := by intro e0; simp -implicitDefEqProofs (maxSteps := 4000000) (disch := first | omega | (simp only [h_szP, h_szS]; done) | (simp only [h_szP, h_szS]; omega)) only [go_sem, Nat.reduceBEq, reduceCtorEq, Nat.reduceAdd, Int.reduceEq, Int.reduceLT, Int.reduceLE, Int.reduceMul, Int.reduceAdd, Int.reduceSub, reduceIte, Nat.reduceLeDiff, Nat.reduceLT, Nat.reduceMul, Nat.reduceSub, Int.reduceToNat, e0]; rfl) : a := (h e0).symm ▸ k
theorem gs2 {a b p0 p1 : Prop} (e0 : p0) (e1 : p1) (k : b) (h : p0 → p1 → a = b := by intro e0 e1; simp -implicitDefEqProofs (maxSteps := 4000000) (disch := first | omega | (simp only [h_szP, h_szS]; done) | (simp only [h_szP, h_szS]; omega)) only [go_sem, Nat.reduceBEq, reduceCtorEq, Nat.reduceAdd, Int.reduceEq, Int.reduceLT, Int.reduceLE, Int.reduceMul, Int.reduceAdd, Int.reduceSub, reduceIte, Nat.reduceLeDiff, Nat.reduceLT, Nat.reduceMul, Nat.reduceSub, Int.reduceToNat, e0, e1]; rfl) : a := (h e0 e1).symm ▸ k
theorem gs3 {a b p0 p1 p2 : Prop} (e0 : p0) (e1 : p1) (e2 : p2) (k : b) (h : p0 → p1 → p2 → a = b := by intro e0 e1 e2; simp -implicitDefEqProofs (maxSteps := 4000000) (disch := first | omega | (simp only [h_szP, h_szS]; done) | (simp only [h_szP, h_szS]; omega)) only [go_sem, Nat.reduceBEq, reduceCtorEq, Nat.reduceAdd, Int.reduceEq, Int.reduceLT, Int.reduceLE, Int.reduceMul, Int.reduceAdd, Int.reduceSub, reduceIte, Nat.reduceLeDiff, Nat.reduceLT, Nat.reduceMul, Nat.reduceSub, Int.reduceToNat, e0, e1, e2]; rfl) : a := (h e0 e1 e2).symm ▸ k
theorem gs4 {a b p0 p1 p2 p3 : Prop} (e0 : p0) (e1 : p1) (e2 : p2) (e3 : p3) (k : b) (h : p0 → p1 → p2 → p3 → a = b := by intro e0 e1 e2 e3; simp -implicitDefEqProofs (maxSteps := 4000000) (disch := first | omega | (simp only [h_szP, h_szS]; done) | (simp only [h_szP, h_szS]; omega)) only [go_sem, Nat.reduceBEq, reduceCtorEq, Nat.reduceAdd, Int.reduceEq, Int.reduceLT, Int.reduceLE, Int.reduceMul, Int.reduceAdd, Int.reduceSub, reduceIte, Nat.reduceLeDiff, Nat.reduceLT, Nat.reduceMul, Nat.reduceSub, Int.reduceToNat, e0, e1, e2, e3]; rfl) : a := (h e0 e1 e2 e3).symm ▸ k
theorem gs5 {a b p0 p1 p2 p3 p4 : Prop} (e0 : p0) (e1 : p1) (e2 : p2) (e3 : p3) (e4 : p4) (k : b) (h : p0 → p1 → p2 → p3 → p4 → a = b := by intro e0 e1 e2 e3 e4; simp -implicitDefEqProofs (maxSteps := 4000000) (disch := first | omega | (simp only [h_szP, h_szS]; done) | (simp only [h_szP, h_szS]; omega)) only [go_sem, Nat.reduceBEq, reduceCtorEq, Nat.reduceAdd, Int.reduceEq, Int.reduceLT, Int.reduceLE, Int.reduceMul, Int.reduceAdd, Int.reduceSub, reduceIte, Nat.reduceLeDiff, Nat.reduceLT, Nat.reduceMul, Nat.reduceSub, Int.reduceToNat, e0, e1, e2, e3, e4]; rfl) : a := (h e0 e1 e2 e3 e4).symm ▸ k
theorem gs6 {a b p0 p1 p2 p3 p4 p5 : Prop} (e0 : p0) (e1 : p1) (e2 : p2) (e3 : p3) (e4 : p4) (e5 : p5) (k : b) (h : p0 → p1 → p2 → p3 → p4 → p5 → a = b := by intro e0 e1 e2 e3 e4 e5; simp -implicitDefEqProofs (maxSteps := 4000000) (disch := first | omega | (simp only [h_szP, h_szS]; done) | (simp only [h_szP, h_szS]; omega)) only [go_sem, Nat.reduceBEq, reduceCtorEq, Nat.reduceAdd, Int.reduceEq, Int.reduceLT, Int.reduceLE, Int.reduceMul, Int.reduceAdd, Int.reduceSub, reduceIte, Nat.reduceLeDiff, Nat.reduceLT, Nat.reduceMul, Nat.reduceSub, Int.reduceToNat, e0, e1, e2, e3, e4, e5]; rfl) : a := (h e0 e1 e2 e3 e4 e5).symm ▸ k
theorem gs7 {a b p0 p1 p2 p3 p4 p5 p6 : Prop} (e0 : p0) (e1 : p1) (e2 : p2) (e3 : p3) (e4 : p4) (e5 : p5) (e6 : p6) (k : b) (h : p0 → p1 → p2 → p3 → p4 → p5 → p6 → a = b := by intro e0 e1 e2 e3 e4 e5 e6; simp -implicitDefEqProofs (maxSteps := 4000000) (disch := first | omega | (simp only [h_szP, h_szS]; done) | (simp only [h_szP, h_szS]; omega)) only [go_sem, Nat.reduceBEq, reduceCtorEq, Nat.reduceAdd, Int.reduceEq, Int.reduceLT, Int.reduceLE, Int.reduceMul, Int.reduceAdd, Int.reduceSub, reduceIte, Nat.reduceLeDiff, Nat.reduceLT, Nat.reduceMul, Nat.reduceSub, Int.reduceToNat, e0, e1, e2, e3, e4, e5, e6]; rfl) : a := (h e0 e1 e2 e3 e4 e5 e6).symm ▸ k
theorem gs8 {a b p0 p1 p2 p3 p4 p5 p6 p7 : Prop} (e0 : p0) (e1 : p1) (e2 : p2) (e3 : p3) (e4 : p4) (e5 : p5) (e6 : p6) (e7 : p7) (k : b) (h : p0 → p1 → p2 → p3 → p4 → p5 → p6 → p7 → a = b := by intro e0 e1 e2 e3 e4 e5 e6 e7; simp -implicitDefEqProofs (maxSteps := 4000000) (disch := first | omega | (simp only [h_szP, h_szS]; done) | (simp only [h_szP, h_szS]; omega)) only [go_sem, Nat.reduceBEq, reduceCtorEq, Nat.reduceAdd, Int.reduceEq, Int.reduceLT, Int.reduceLE, Int.reduceMul, Int.reduceAdd, Int.reduceSub, reduceIte, Nat.reduceLeDiff, Nat.reduceLT, Nat.reduceMul, Nat.reduceSub, Int.reduceToNat, e0, e1, e2, e3, e4, e5, e6, e7]; rfl) : a := (h e0 e1 e2 e3 e4 e5 e6 e7).symm ▸ k
theorem gs9 {a b p0 p1 p2 p3 p4 p5 p6 p7 p8 : Prop} (e0 : p0) (e1 : p1) (e2 : p2) (e3 : p3) (e4 : p4) (e5 : p5) (e6 : p6) (e7 : p7) (e8 : p8) (k : b) (h : p0 → p1 → p2 → p3 → p4 → p5 → p6 → p7 → p8 → a = b := by intro e0 e1 e2 e3 e4 e5 e6 e7 e8; simp -implicitDefEqProofs (maxSteps := 4000000) (disch := first | omega | (simp only [h_szP, h_szS]; done) | (simp only [h_szP, h_szS]; omega)) only [go_sem, Nat.reduceBEq, reduceCtorEq, Nat.reduceAdd, Int.reduceEq, Int.reduceLT, Int.reduceLE, Int.reduceMul, Int.reduceAdd, Int.reduceSub, reduceIte, Nat.reduceLeDiff, Nat.reduceLT, Nat.reduceMul, Nat.reduceSub, Int.reduceToNat, e0, e1, e2, e3, e4, e5, e6, e7, e8]; rfl) : a := (h e0 e1 e2 e3 e4 e5 e6 e7 e8).symm ▸ k
theorem gs10 {a b p0 p1 p2 p3 p4 p5 p6 p7 p8 p9 : Prop} (e0 : p0) (e1 : p1) (e2 : p2) (e3 : p3) (e4 : p4) (e5 : p5) (e6 : p6) (e7 : p7) (e8 : p8) (e9 : p9) (k : b) (h : p0 → p1 → p2 → p3 → p4 → p5 → p6 → p7 → p8 → p9 → a = b := by intro e0 e1 e2 e3 e4 e5 e6 e7 e8 e9; simp -implicitDefEqProofs (maxSteps := 4000000) (disch := first | omega | (simp only [h_szP, h_szS]; done) | (simp only [h_szP, h_szS]; omega)) only [go_sem, Nat.reduceBEq, reduceCtorEq, Nat.reduceAdd, Int.reduceEq, Int.reduceLT, Int.reduceLE, Int.reduceMul, Int.reduceAdd, Int.reduceSub, reduceIte, Nat.reduceLeDiff, Nat.reduceLT, Nat.reduceMul, Nat.reduceSub, Int.reduceToNat, e0, e1, e2, e3, e4, e5, e6, e7, e8, e9]; rfl) : a := (h e0 e1 e2 e3 e4 e5 e6 e7 e8 e9).symm ▸ k
theorem gs11 {a b p0 p1 p2 p3 p4 p5 p6 p7 p8 p9 p10 : Prop} (e0 : p0) (e1 : p1) (e2 : p2) (e3 : p3) (e4 : p4) (e5 : p5) (e6 : p6) (e7 : p7) (e8 : p8) (e9 : p9) (e10 : p10) (k : b) (h : p0 → p1 → p2 → p3 → p4 → p5 → p6 → p7 → p8 → p9 → p10 → a = b := by intro e0 e1 e2 e3 e4 e5 e6 e7 e8 e9 e10; simp -implicitDefEqProofs (maxSteps := 4000000) (disch := first | omega | (simp only [h_szP, h_szS]; done) | (simp only [h_szP, h_szS]; omega)) only [go_sem, Nat.reduceBEq, reduceCtorEq, Nat.reduceAdd, Int.reduceEq, Int.reduceLT, Int.reduceLE, Int.reduceMul, Int.reduceAdd, Int.reduceSub, reduceIte, Nat.reduceLeDiff, Nat.reduceLT, Nat.reduceMul, Nat.reduceSub, Int.reduceToNat, e0, e1, e2, e3, e4, e5, e6, e7, e8, e9, e10]; rfl) : a := (h e0 e1 e2 e3 e4 e5 e6 e7 e8 e9 e10).symm ▸ k
theorem gs13 {a b p0 p1 p2 p3 p4 p5 p6 p7 p8 p9 p10 p11 p12 : Prop} (e0 : p0) (e1 : p1) (e2 : p2) (e3 : p3) (e4 : p4) (e5 : p5) (e6 : p6) (e7 : p7) (e8 : p8) (e9 : p9) (e10 : p10) (e11 : p11) (e12 : p12) (k : b) (h : p0 → p1 → p2 → p3 → p4 → p5 → p6 → p7 → p8 → p9 → p10 → p11 → p12 → a = b := by intro e0 e1 e2 e3 e4 e5 e6 e7 e8 e9 e10 e11 e12; simp -implicitDefEqProofs (maxSteps := 4000000) (disch := first | omega | (simp only [h_szP, h_szS]; done) | (simp only [h_szP, h_szS]; omega)) only [go_sem, Nat.reduceBEq, reduceCtorEq, Nat.reduceAdd, Int.reduceEq, Int.reduceLT, Int.reduceLE, Int.reduceMul, Int.reduceAdd, Int.reduceSub, reduceIte, Nat.reduceLeDiff, Nat.reduceLT, Nat.reduceMul, Nat.reduceSub, Int.reduceToNat, e0, e1, e2, e3, e4, e5, e6, e7, e8, e9, e10, e11, e12]; rfl) : a := (h e0 e1 e2 e3 e4 e5 e6 e7 e8 e9 e10 e11 e12).symm ▸ k
theorem ga0 {a b : Prop} (k : b) (h : a = b := by simp -implicitDefEqProofs (maxSteps := 4000000) (disch := first | omega | (simp only [h_szP, h_szS]; done) | (simp only [h_szP, h_szS]; omega)) only [go_sem, Nat.reduceBEq, reduceCtorEq, Nat.reduceAdd, Int.reduceEq, Int.reduceLT, Int.reduceLE, Int.reduceMul, Int.reduceAdd, Int.reduceSub, reduceIte, Nat.reduceLeDiff, Nat.reduceLT, Nat.reduceMul, Nat.reduceSub, Int.reduceToNat, *]; rfl) : a := h.symm ▸ k
theorem ga1 {a b p0 : Prop} (e0 : p0) (k : b) (h : p0 → a = b := by intro e0; simp -implicitDefEqProofs (maxSteps := 4000000) (disch := first | omega | (simp only [h_szP, h_szS]; done) | (simp only [h_szP, h_szS]; omega)) only [go_sem, Nat.reduceBEq, reduceCtorEq, Nat.reduceAdd, Int.reduceEq, Int.reduceLT, Int.reduceLE, Int.reduceMul, Int.reduceAdd, Int.reduceSub, reduceIte, Nat.reduceLeDiff, Nat.reduceLT, Nat.reduceMul, Nat.reduceSub, Int.reduceToNat, *]; rfl) : a := (h e0).symm ▸ k
end Go.SX
