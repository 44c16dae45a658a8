/-
  No cell of these rows narrows 'for every input' (looked for: loops, veiled, ifaces, maps, wideKeys, modest, calm, conditions, laid).
  DERIVED. THE GIVEN ROWS OF THIS SEAT. 8 by the template 'for every input the law returns true; each argument reads behind the call as it read before'; 0 by the template 'total and deterministic' (their statements: YtcnalkdgdbhedaaTotals.lean).
  GIVEN WITH THE SEED: the statements are not yours to turn. If you find one false, say at which input.
  Laid BY PROGRAM, IN A SANDBOX (cutbox-rows.mjs): the forced cells as the released guide's own fill.sh prints them over the translation 89fa2f411eba6eb5… (all of the seat's roots in one cut). By AI agents, Wed Nov 11 2026. No macro, syntax, notation, axiom, sorry.
-/
import Derived.Test.YtcnalkdgdbhedaaChecked
import GoSem.Claim
import GoSem.ClaimJoined
import GoSem.ClaimMapViews
import Derived.JoinedTies
import Derived.KernelRfl
namespace Go.Proofs.Ytcnalkdgdbhedaa
/- THE CELL 'sum', in the pinned program and in every row, IS THE sha256 OF THE DUMP (.gsa) THAT YtcnalkdgdbhedaaProg.lean LOADS. Nothing in Lean hashes anything: it is a label: what it is worth is what the hold of that sum in a sandbox is worth. -/
noncomputable def Try.pinned : Pinned := { name := "ytcnalkdgdbhedaa", sum := "89fa2f411eba6eb5fca1a9b27faa9a111b61325fee5eef4803aa8e045ab1130e", checked := Try.checked }
namespace Rows
def none {H : Type} : Left H := { results := [], args := [] }

/-- 'marionettelaw09.AtomDoes': WHATEVER THE INPUT: true; the input reads as it did. -/
def atomDoesSpec : ChangeSpec := { name := "atomDoes", fn := fun _ => fun
  | [d1, d2, d3] => { results := [.lit (.bool true)], args := [d1, d2, d3] }
  | _ => none }
def atomDoesRow : OpenClaim := { program := "ytcnalkdgdbhedaa", sum := "89fa2f411eba6eb5fca1a9b27faa9a111b61325fee5eef4803aa8e045ab1130e", func := "marionette/marionettelaw09.AtomDoes", spec := "atomDoes", apart := false }
def AtomDoesSaid : Prop := atomDoesRow.holds Try.pinned (OpenSpec.ofChange atomDoesSpec)

/-- ITS FALSE NEIGHBOUR: 'it returns false'. Refute it at one input. -/
def atomDoesWrong : ChangeSpec := { name := "atomDoes", fn := fun _ => fun
  | [d1, d2, d3] => { results := [.lit (.bool false)], args := [d1, d2, d3] }
  | _ => none }
def AtomDoesWrongFalsely : Prop := atomDoesRow.holds Try.pinned (OpenSpec.ofChange atomDoesWrong)

/-- 'marionettelaw09.AtomLattice': WHATEVER THE INPUT: true; the input reads as it did. -/
def atomLatticeSpec : ChangeSpec := { name := "atomLattice", fn := fun _ => fun
  | [d1, d2, d3] => { results := [.lit (.bool true)], args := [d1, d2, d3] }
  | _ => none }
def atomLatticeRow : OpenClaim := { program := "ytcnalkdgdbhedaa", sum := "89fa2f411eba6eb5fca1a9b27faa9a111b61325fee5eef4803aa8e045ab1130e", func := "marionette/marionettelaw09.AtomLattice", spec := "atomLattice", apart := false }
def AtomLatticeSaid : Prop := atomLatticeRow.holds Try.pinned (OpenSpec.ofChange atomLatticeSpec)

/-- ITS FALSE NEIGHBOUR: 'it returns false'. Refute it at one input. -/
def atomLatticeWrong : ChangeSpec := { name := "atomLattice", fn := fun _ => fun
  | [d1, d2, d3] => { results := [.lit (.bool false)], args := [d1, d2, d3] }
  | _ => none }
def AtomLatticeWrongFalsely : Prop := atomLatticeRow.holds Try.pinned (OpenSpec.ofChange atomLatticeWrong)

/-- 'marionettelaw08.MemRooms': WHATEVER THE INPUT: true; the input reads as it did. -/
def memRoomsSpec : ChangeSpec := { name := "memRooms", fn := fun _ => fun
  | [d] => { results := [.lit (.bool true)], args := [d] }
  | _ => none }
def memRoomsRow : OpenClaim := { program := "ytcnalkdgdbhedaa", sum := "89fa2f411eba6eb5fca1a9b27faa9a111b61325fee5eef4803aa8e045ab1130e", func := "marionette/marionettelaw08.MemRooms", spec := "memRooms", inPlace := ["slices.overlaps[marionette/api.Region]"], unfollowed := true, recurses := true, apart := false }
def MemRoomsSaid : Prop := memRoomsRow.holds Try.pinned (OpenSpec.ofChange memRoomsSpec)

/-- ITS FALSE NEIGHBOUR: 'it returns false'. Refute it at one input. -/
def memRoomsWrong : ChangeSpec := { name := "memRooms", fn := fun _ => fun
  | [d] => { results := [.lit (.bool false)], args := [d] }
  | _ => none }
def MemRoomsWrongFalsely : Prop := memRoomsRow.holds Try.pinned (OpenSpec.ofChange memRoomsWrong)

/-- 'marionettelaw08.MemBytes': WHATEVER THE INPUT: true; the input reads as it did. -/
def memBytesSpec : ChangeSpec := { name := "memBytes", fn := fun _ => fun
  | [d1, d2, d3] => { results := [.lit (.bool true)], args := [d1, d2, d3] }
  | _ => none }
def memBytesRow : OpenClaim := { program := "ytcnalkdgdbhedaa", sum := "89fa2f411eba6eb5fca1a9b27faa9a111b61325fee5eef4803aa8e045ab1130e", func := "marionette/marionettelaw08.MemBytes", spec := "memBytes", inPlace := ["slices.overlaps[marionette/api.Region]"], unfollowed := true, recurses := true, apart := false }
def MemBytesSaid : Prop := memBytesRow.holds Try.pinned (OpenSpec.ofChange memBytesSpec)

/-- ITS FALSE NEIGHBOUR: 'it returns false'. Refute it at one input. -/
def memBytesWrong : ChangeSpec := { name := "memBytes", fn := fun _ => fun
  | [d1, d2, d3] => { results := [.lit (.bool false)], args := [d1, d2, d3] }
  | _ => none }
def MemBytesWrongFalsely : Prop := memBytesRow.holds Try.pinned (OpenSpec.ofChange memBytesWrong)

/-- 'marionettelaw08.MemHeap': WHATEVER THE INPUT: true; the input reads as it did. -/
def memHeapSpec : ChangeSpec := { name := "memHeap", fn := fun _ => fun
  | [d1, d2] => { results := [.lit (.bool true)], args := [d1, d2] }
  | _ => none }
def memHeapRow : OpenClaim := { program := "ytcnalkdgdbhedaa", sum := "89fa2f411eba6eb5fca1a9b27faa9a111b61325fee5eef4803aa8e045ab1130e", func := "marionette/marionettelaw08.MemHeap", spec := "memHeap", inPlace := ["slices.overlaps[marionette/api.Region]"], unfollowed := true, recurses := true, apart := false }
def MemHeapSaid : Prop := memHeapRow.holds Try.pinned (OpenSpec.ofChange memHeapSpec)

/-- ITS FALSE NEIGHBOUR: 'it returns false'. Refute it at one input. -/
def memHeapWrong : ChangeSpec := { name := "memHeap", fn := fun _ => fun
  | [d1, d2] => { results := [.lit (.bool false)], args := [d1, d2] }
  | _ => none }
def MemHeapWrongFalsely : Prop := memHeapRow.holds Try.pinned (OpenSpec.ofChange memHeapWrong)

/-- 'marionettelaw08.MemKeeps': WHATEVER THE INPUT: true; the input reads as it did. -/
def memKeepsSpec : ChangeSpec := { name := "memKeeps", fn := fun _ => fun
  | [d1, d2, d3, d4, d5] => { results := [.lit (.bool true)], args := [d1, d2, d3, d4, d5] }
  | _ => none }
def memKeepsRow : OpenClaim := { program := "ytcnalkdgdbhedaa", sum := "89fa2f411eba6eb5fca1a9b27faa9a111b61325fee5eef4803aa8e045ab1130e", func := "marionette/marionettelaw08.MemKeeps", spec := "memKeeps", inPlace := ["slices.overlaps[marionette/api.Region]"], unfollowed := true, recurses := true, apart := false }
def MemKeepsSaid : Prop := memKeepsRow.holds Try.pinned (OpenSpec.ofChange memKeepsSpec)

/-- ITS FALSE NEIGHBOUR: 'it returns false'. Refute it at one input. -/
def memKeepsWrong : ChangeSpec := { name := "memKeeps", fn := fun _ => fun
  | [d1, d2, d3, d4, d5] => { results := [.lit (.bool false)], args := [d1, d2, d3, d4, d5] }
  | _ => none }
def MemKeepsWrongFalsely : Prop := memKeepsRow.holds Try.pinned (OpenSpec.ofChange memKeepsWrong)

/-- 'marionettelaw09.AtomOnce': WHATEVER THE INPUT: true; the input reads as it did. -/
def atomOnceSpec : ChangeSpec := { name := "atomOnce", fn := fun _ => fun
  | [d1, d2, d3, d4, d5] => { results := [.lit (.bool true)], args := [d1, d2, d3, d4, d5] }
  | _ => none }
def atomOnceRow : OpenClaim := { program := "ytcnalkdgdbhedaa", sum := "89fa2f411eba6eb5fca1a9b27faa9a111b61325fee5eef4803aa8e045ab1130e", func := "marionette/marionettelaw09.AtomOnce", spec := "atomOnce", inPlace := ["slices.overlaps[marionette/api.Region]"], unfollowed := true, recurses := true, apart := false }
def AtomOnceSaid : Prop := atomOnceRow.holds Try.pinned (OpenSpec.ofChange atomOnceSpec)

/-- ITS FALSE NEIGHBOUR: 'it returns false'. Refute it at one input. -/
def atomOnceWrong : ChangeSpec := { name := "atomOnce", fn := fun _ => fun
  | [d1, d2, d3, d4, d5] => { results := [.lit (.bool false)], args := [d1, d2, d3, d4, d5] }
  | _ => none }
def AtomOnceWrongFalsely : Prop := atomOnceRow.holds Try.pinned (OpenSpec.ofChange atomOnceWrong)

/-- 'marionettelaw09.AtomSteps': WHATEVER THE INPUT: true; the input reads as it did. -/
def atomStepsSpec : ChangeSpec := { name := "atomSteps", fn := fun _ => fun
  | [d1, d2] => { results := [.lit (.bool true)], args := [d1, d2] }
  | _ => none }
def atomStepsRow : OpenClaim := { program := "ytcnalkdgdbhedaa", sum := "89fa2f411eba6eb5fca1a9b27faa9a111b61325fee5eef4803aa8e045ab1130e", func := "marionette/marionettelaw09.AtomSteps", spec := "atomSteps", inPlace := ["slices.overlaps[marionette/api.Region]"], unfollowed := true, recurses := true, apart := false }
def AtomStepsSaid : Prop := atomStepsRow.holds Try.pinned (OpenSpec.ofChange atomStepsSpec)

/-- ITS FALSE NEIGHBOUR: 'it returns false'. Refute it at one input. -/
def atomStepsWrong : ChangeSpec := { name := "atomSteps", fn := fun _ => fun
  | [d1, d2] => { results := [.lit (.bool false)], args := [d1, d2] }
  | _ => none }
def AtomStepsWrongFalsely : Prop := atomStepsRow.holds Try.pinned (OpenSpec.ofChange atomStepsWrong)

/- THE SECOND FORM. 'bulk': how many values and letters a reading holds, each counted each time it is reached (what is shared counts as often as it is met; a slice's spare places count too). A statement '..UptoSaid' is the law's where the arguments, and the package variables that the reading takes, are together of bulk at most 1048576: NARROWER than '..Said'. Prove '..Said' where nothing that the law and all that it calls make is longer than what came in: it says more and counts as full. Else prove '..UptoSaid'. A law counts once. -/
mutual
def uptoBulk {H : Type} : DataW H → Nat
  | .lit (.string bytes) => bytes.length + 1
  | .lit _ => 1
  | .nil => 1
  | .ptr d => uptoBulk d + 1
  | .slice elems spare => uptoBulkAll elems + uptoBulkAll spare + 1
  | .agg parts => uptoBulkAll parts + 1
  | .iface _ d => uptoBulk d + 1
  | .map entries => uptoBulkEntries entries + 1
  | .held _ => 1
def uptoBulkAll {H : Type} : List (DataW H) → Nat
  | [] => 0
  | d :: r => uptoBulk d + uptoBulkAll r
def uptoBulkEntries {H : Type} : List (Lit × DataW H) → Nat
  | [] => 0
  | x :: r => uptoBulkEntry x + uptoBulkEntries r
def uptoBulkEntry {H : Type} : Lit × DataW H → Nat
  | (.string bytes, d) => bytes.length + uptoBulk d + 1
  | (_, d) => uptoBulk d + 1
 end
def uptoSmall : (H : Type) → List (DataW H) → Bool := fun _ ds => decide (uptoBulkAll ds ≤ 1048576)
def OpenSpec.upto (s : _root_.Go.ChangeSpec) : _root_.Go.OpenSpec := { _root_.Go.OpenSpec.ofChange s with cond := some uptoSmall }

/-- 'marionettelaw09.AtomDoes', WHERE WHAT IT READS IS OF BULK AT MOST 1048576: true; the input reads as it did. -/
def atomDoesUptoRow : OpenClaim := { program := "ytcnalkdgdbhedaa", sum := "89fa2f411eba6eb5fca1a9b27faa9a111b61325fee5eef4803aa8e045ab1130e", func := "marionette/marionettelaw09.AtomDoes", spec := "atomDoes", apart := false, narrowed := true }
def AtomDoesUptoSaid : Prop := atomDoesUptoRow.holds Try.pinned (OpenSpec.upto atomDoesSpec)

/-- 'marionettelaw09.AtomLattice', WHERE WHAT IT READS IS OF BULK AT MOST 1048576: true; the input reads as it did. -/
def atomLatticeUptoRow : OpenClaim := { program := "ytcnalkdgdbhedaa", sum := "89fa2f411eba6eb5fca1a9b27faa9a111b61325fee5eef4803aa8e045ab1130e", func := "marionette/marionettelaw09.AtomLattice", spec := "atomLattice", apart := false, narrowed := true }
def AtomLatticeUptoSaid : Prop := atomLatticeUptoRow.holds Try.pinned (OpenSpec.upto atomLatticeSpec)

/-- 'marionettelaw08.MemRooms', WHERE WHAT IT READS IS OF BULK AT MOST 1048576: true; the input reads as it did. -/
def memRoomsUptoRow : OpenClaim := { program := "ytcnalkdgdbhedaa", sum := "89fa2f411eba6eb5fca1a9b27faa9a111b61325fee5eef4803aa8e045ab1130e", func := "marionette/marionettelaw08.MemRooms", spec := "memRooms", inPlace := ["slices.overlaps[marionette/api.Region]"], unfollowed := true, recurses := true, apart := false, narrowed := true }
def MemRoomsUptoSaid : Prop := memRoomsUptoRow.holds Try.pinned (OpenSpec.upto memRoomsSpec)

/-- 'marionettelaw08.MemBytes', WHERE WHAT IT READS IS OF BULK AT MOST 1048576: true; the input reads as it did. -/
def memBytesUptoRow : OpenClaim := { program := "ytcnalkdgdbhedaa", sum := "89fa2f411eba6eb5fca1a9b27faa9a111b61325fee5eef4803aa8e045ab1130e", func := "marionette/marionettelaw08.MemBytes", spec := "memBytes", inPlace := ["slices.overlaps[marionette/api.Region]"], unfollowed := true, recurses := true, apart := false, narrowed := true }
def MemBytesUptoSaid : Prop := memBytesUptoRow.holds Try.pinned (OpenSpec.upto memBytesSpec)

/-- 'marionettelaw08.MemHeap', WHERE WHAT IT READS IS OF BULK AT MOST 1048576: true; the input reads as it did. -/
def memHeapUptoRow : OpenClaim := { program := "ytcnalkdgdbhedaa", sum := "89fa2f411eba6eb5fca1a9b27faa9a111b61325fee5eef4803aa8e045ab1130e", func := "marionette/marionettelaw08.MemHeap", spec := "memHeap", inPlace := ["slices.overlaps[marionette/api.Region]"], unfollowed := true, recurses := true, apart := false, narrowed := true }
def MemHeapUptoSaid : Prop := memHeapUptoRow.holds Try.pinned (OpenSpec.upto memHeapSpec)

/-- 'marionettelaw08.MemKeeps', WHERE WHAT IT READS IS OF BULK AT MOST 1048576: true; the input reads as it did. -/
def memKeepsUptoRow : OpenClaim := { program := "ytcnalkdgdbhedaa", sum := "89fa2f411eba6eb5fca1a9b27faa9a111b61325fee5eef4803aa8e045ab1130e", func := "marionette/marionettelaw08.MemKeeps", spec := "memKeeps", inPlace := ["slices.overlaps[marionette/api.Region]"], unfollowed := true, recurses := true, apart := false, narrowed := true }
def MemKeepsUptoSaid : Prop := memKeepsUptoRow.holds Try.pinned (OpenSpec.upto memKeepsSpec)

/-- 'marionettelaw09.AtomOnce', WHERE WHAT IT READS IS OF BULK AT MOST 1048576: true; the input reads as it did. -/
def atomOnceUptoRow : OpenClaim := { program := "ytcnalkdgdbhedaa", sum := "89fa2f411eba6eb5fca1a9b27faa9a111b61325fee5eef4803aa8e045ab1130e", func := "marionette/marionettelaw09.AtomOnce", spec := "atomOnce", inPlace := ["slices.overlaps[marionette/api.Region]"], unfollowed := true, recurses := true, apart := false, narrowed := true }
def AtomOnceUptoSaid : Prop := atomOnceUptoRow.holds Try.pinned (OpenSpec.upto atomOnceSpec)

/-- 'marionettelaw09.AtomSteps', WHERE WHAT IT READS IS OF BULK AT MOST 1048576: true; the input reads as it did. -/
def atomStepsUptoRow : OpenClaim := { program := "ytcnalkdgdbhedaa", sum := "89fa2f411eba6eb5fca1a9b27faa9a111b61325fee5eef4803aa8e045ab1130e", func := "marionette/marionettelaw09.AtomSteps", spec := "atomSteps", inPlace := ["slices.overlaps[marionette/api.Region]"], unfollowed := true, recurses := true, apart := false, narrowed := true }
def AtomStepsUptoSaid : Prop := atomStepsUptoRow.holds Try.pinned (OpenSpec.upto atomStepsSpec)

end Rows
end Go.Proofs.Ytcnalkdgdbhedaa
