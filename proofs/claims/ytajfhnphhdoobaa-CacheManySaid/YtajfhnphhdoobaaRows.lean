/-
  No cell of these rows narrows 'for every input' (looked for: loops, veiled, ifaces, maps, wideKeys, modest, calm, conditions, laid).
  DERIVED. THE GIVEN ROWS OF THIS SEAT. 4 by the template 'for every input the law returns true; each argument reads behind the call as it read before'; 0 by the template 'total and deterministic' (their statements: YtajfhnphhdoobaaTotals.lean).
  GIVEN WITH THE SEED: the statements are not yours to turn. If you find one false, say at which input.
  Laid BY PROGRAM, IN A SANDBOX (cutbox-rows.mjs): the forced cells as the released guide's own fill.sh prints them over the translation 695d98181db9cd13… (all of the seat's roots in one cut). By AI agents, Wed Nov 11 2026. No macro, syntax, notation, axiom, sorry.
-/
import Derived.Test.YtajfhnphhdoobaaChecked
import GoSem.Claim
import GoSem.ClaimJoined
import GoSem.ClaimMapViews
import Derived.JoinedTies
import Derived.KernelRfl
namespace Go.Proofs.Ytajfhnphhdoobaa
/- THE CELL 'sum', in the pinned program and in every row, IS THE sha256 OF THE DUMP (.gsa) THAT YtajfhnphhdoobaaProg.lean LOADS. Nothing in Lean hashes anything: it is a label: what it is worth is what the hold of that sum in a sandbox is worth. -/
noncomputable def Try.pinned : Pinned := { name := "ytajfhnphhdoobaa", sum := "695d98181db9cd13ca7f827dbb0a2a4afe56fc8f9a5cd48dcae6455eccf8e65e", checked := Try.checked }
namespace Rows
def none {H : Type} : Left H := { results := [], args := [] }

/-- 'marionettelaw10.CacheSpaces': WHATEVER THE INPUT: true; the input reads as it did. -/
def cacheSpacesSpec : ChangeSpec := { name := "cacheSpaces", fn := fun _ => fun
  | [d1, d2, d3] => { results := [.lit (.bool true)], args := [d1, d2, d3] }
  | _ => none }
def cacheSpacesRow : OpenClaim := { program := "ytajfhnphhdoobaa", sum := "695d98181db9cd13ca7f827dbb0a2a4afe56fc8f9a5cd48dcae6455eccf8e65e", func := "marionette/marionettelaw10.CacheSpaces", spec := "cacheSpaces", inPlace := ["slices.overlaps[marionette/api.Region]"], unfollowed := true, recurses := true, apart := false }
def CacheSpacesSaid : Prop := cacheSpacesRow.holds Try.pinned (OpenSpec.ofChange cacheSpacesSpec)

/-- ITS FALSE NEIGHBOUR: 'it returns false'. Refute it at one input. -/
def cacheSpacesWrong : ChangeSpec := { name := "cacheSpaces", fn := fun _ => fun
  | [d1, d2, d3] => { results := [.lit (.bool false)], args := [d1, d2, d3] }
  | _ => none }
def CacheSpacesWrongFalsely : Prop := cacheSpacesRow.holds Try.pinned (OpenSpec.ofChange cacheSpacesWrong)

/-- 'marionettelaw10.CacheMany': WHATEVER THE INPUT: true; the input reads as it did. -/
def cacheManySpec : ChangeSpec := { name := "cacheMany", fn := fun _ => fun
  | [d1, d2] => { results := [.lit (.bool true)], args := [d1, d2] }
  | _ => none }
def cacheManyRow : OpenClaim := { program := "ytajfhnphhdoobaa", sum := "695d98181db9cd13ca7f827dbb0a2a4afe56fc8f9a5cd48dcae6455eccf8e65e", func := "marionette/marionettelaw10.CacheMany", spec := "cacheMany", inPlace := ["slices.overlaps[marionette/api.Region]"], unfollowed := true, recurses := true, apart := false }
def CacheManySaid : Prop := cacheManyRow.holds Try.pinned (OpenSpec.ofChange cacheManySpec)

/-- ITS FALSE NEIGHBOUR: 'it returns false'. Refute it at one input. -/
def cacheManyWrong : ChangeSpec := { name := "cacheMany", fn := fun _ => fun
  | [d1, d2] => { results := [.lit (.bool false)], args := [d1, d2] }
  | _ => none }
def CacheManyWrongFalsely : Prop := cacheManyRow.holds Try.pinned (OpenSpec.ofChange cacheManyWrong)

/-- 'marionettelaw22.FrameBack': WHATEVER THE INPUT: true; the input reads as it did. -/
def frameBackSpec : ChangeSpec := { name := "frameBack", fn := fun _ => fun
  | [d1, d2, d3, d4] => { results := [.lit (.bool true)], args := [d1, d2, d3, d4] }
  | _ => none }
def frameBackRow : OpenClaim := { program := "ytajfhnphhdoobaa", sum := "695d98181db9cd13ca7f827dbb0a2a4afe56fc8f9a5cd48dcae6455eccf8e65e", func := "marionette/marionettelaw22.FrameBack", spec := "frameBack", inPlace := ["slices.overlaps[marionette/api.Region]"], unfollowed := true, recurses := true, apart := false }
def FrameBackSaid : Prop := frameBackRow.holds Try.pinned (OpenSpec.ofChange frameBackSpec)

/-- ITS FALSE NEIGHBOUR: 'it returns false'. Refute it at one input. -/
def frameBackWrong : ChangeSpec := { name := "frameBack", fn := fun _ => fun
  | [d1, d2, d3, d4] => { results := [.lit (.bool false)], args := [d1, d2, d3, d4] }
  | _ => none }
def FrameBackWrongFalsely : Prop := frameBackRow.holds Try.pinned (OpenSpec.ofChange frameBackWrong)

/-- 'marionettelaw22.FrameNested': WHATEVER THE INPUT: true; the input reads as it did. -/
def frameNestedSpec : ChangeSpec := { name := "frameNested", fn := fun _ => fun
  | [d1, d2, d3] => { results := [.lit (.bool true)], args := [d1, d2, d3] }
  | _ => none }
def frameNestedRow : OpenClaim := { program := "ytajfhnphhdoobaa", sum := "695d98181db9cd13ca7f827dbb0a2a4afe56fc8f9a5cd48dcae6455eccf8e65e", func := "marionette/marionettelaw22.FrameNested", spec := "frameNested", inPlace := ["slices.overlaps[marionette/api.Region]"], unfollowed := true, recurses := true, apart := false }
def FrameNestedSaid : Prop := frameNestedRow.holds Try.pinned (OpenSpec.ofChange frameNestedSpec)

/-- ITS FALSE NEIGHBOUR: 'it returns false'. Refute it at one input. -/
def frameNestedWrong : ChangeSpec := { name := "frameNested", fn := fun _ => fun
  | [d1, d2, d3] => { results := [.lit (.bool false)], args := [d1, d2, d3] }
  | _ => none }
def FrameNestedWrongFalsely : Prop := frameNestedRow.holds Try.pinned (OpenSpec.ofChange frameNestedWrong)

/- THE SECOND FORM. 'bulk': how many values and letters a reading holds, each counted each time it is reached (what is shared counts as often as it is met; a slice's spare places count too). A statement '..UptoSaid' is the law's where the arguments, and the package variables that the reading takes, are together of bulk at most 1048576: NARROWER than '..Said'. Prove '..Said' where nothing that the law and all that it calls make is longer than what came in: it says more and counts as full. Else prove '..UptoSaid'. A law counts once. -/
mutual
def uptoBulk {H : Type} : DataW H → Nat
  | .lit (.string bytes) => bytes.length + 1
  | .lit _ => 1
  | .nil => 1
  | .ptr d => uptoBulk d + 1
  | .slice elems spare => uptoBulkAll elems + uptoBulkAll spare + 1
  | .agg parts => uptoBulkAll parts + 1
  | .iface _ d => uptoBulk d + 1
  | .map entries => uptoBulkEntries entries + 1
  | .held _ => 1
def uptoBulkAll {H : Type} : List (DataW H) → Nat
  | [] => 0
  | d :: r => uptoBulk d + uptoBulkAll r
def uptoBulkEntries {H : Type} : List (Lit × DataW H) → Nat
  | [] => 0
  | x :: r => uptoBulkEntry x + uptoBulkEntries r
def uptoBulkEntry {H : Type} : Lit × DataW H → Nat
  | (.string bytes, d) => bytes.length + uptoBulk d + 1
  | (_, d) => uptoBulk d + 1
 end
def uptoSmall : (H : Type) → List (DataW H) → Bool := fun _ ds => decide (uptoBulkAll ds ≤ 1048576)
def OpenSpec.upto (s : _root_.Go.ChangeSpec) : _root_.Go.OpenSpec := { _root_.Go.OpenSpec.ofChange s with cond := some uptoSmall }

/-- 'marionettelaw10.CacheSpaces', WHERE WHAT IT READS IS OF BULK AT MOST 1048576: true; the input reads as it did. -/
def cacheSpacesUptoRow : OpenClaim := { program := "ytajfhnphhdoobaa", sum := "695d98181db9cd13ca7f827dbb0a2a4afe56fc8f9a5cd48dcae6455eccf8e65e", func := "marionette/marionettelaw10.CacheSpaces", spec := "cacheSpaces", inPlace := ["slices.overlaps[marionette/api.Region]"], unfollowed := true, recurses := true, apart := false, narrowed := true }
def CacheSpacesUptoSaid : Prop := cacheSpacesUptoRow.holds Try.pinned (OpenSpec.upto cacheSpacesSpec)

/-- 'marionettelaw10.CacheMany', WHERE WHAT IT READS IS OF BULK AT MOST 1048576: true; the input reads as it did. -/
def cacheManyUptoRow : OpenClaim := { program := "ytajfhnphhdoobaa", sum := "695d98181db9cd13ca7f827dbb0a2a4afe56fc8f9a5cd48dcae6455eccf8e65e", func := "marionette/marionettelaw10.CacheMany", spec := "cacheMany", inPlace := ["slices.overlaps[marionette/api.Region]"], unfollowed := true, recurses := true, apart := false, narrowed := true }
def CacheManyUptoSaid : Prop := cacheManyUptoRow.holds Try.pinned (OpenSpec.upto cacheManySpec)

/-- 'marionettelaw22.FrameBack', WHERE WHAT IT READS IS OF BULK AT MOST 1048576: true; the input reads as it did. -/
def frameBackUptoRow : OpenClaim := { program := "ytajfhnphhdoobaa", sum := "695d98181db9cd13ca7f827dbb0a2a4afe56fc8f9a5cd48dcae6455eccf8e65e", func := "marionette/marionettelaw22.FrameBack", spec := "frameBack", inPlace := ["slices.overlaps[marionette/api.Region]"], unfollowed := true, recurses := true, apart := false, narrowed := true }
def FrameBackUptoSaid : Prop := frameBackUptoRow.holds Try.pinned (OpenSpec.upto frameBackSpec)

/-- 'marionettelaw22.FrameNested', WHERE WHAT IT READS IS OF BULK AT MOST 1048576: true; the input reads as it did. -/
def frameNestedUptoRow : OpenClaim := { program := "ytajfhnphhdoobaa", sum := "695d98181db9cd13ca7f827dbb0a2a4afe56fc8f9a5cd48dcae6455eccf8e65e", func := "marionette/marionettelaw22.FrameNested", spec := "frameNested", inPlace := ["slices.overlaps[marionette/api.Region]"], unfollowed := true, recurses := true, apart := false, narrowed := true }
def FrameNestedUptoSaid : Prop := frameNestedUptoRow.holds Try.pinned (OpenSpec.upto frameNestedSpec)

end Rows
end Go.Proofs.Ytajfhnphhdoobaa
