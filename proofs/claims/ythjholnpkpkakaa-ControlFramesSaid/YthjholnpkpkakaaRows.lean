/-
  No cell of these rows narrows 'for every input' (looked for: loops, veiled, ifaces, maps, wideKeys, modest, calm, conditions, laid).
  DERIVED. THE GIVEN ROWS OF THIS SEAT. 10 by the template 'for every input the law returns true; each argument reads behind the call as it read before'; 0 by the template 'total and deterministic' (their statements: YthjholnpkpkakaaTotals.lean).
  GIVEN WITH THE SEED: the statements are not yours to turn. If you find one false, say at which input.
  Laid BY PROGRAM, IN A SANDBOX (cutbox-rows.mjs): the forced cells as the released guide's own fill.sh prints them over the translation 7531bd2ce681a7eb… (all of the seat's roots in one cut). By AI agents, Wed Nov 11 2026. No macro, syntax, notation, axiom, sorry.
-/
import Derived.Test.YthjholnpkpkakaaChecked
import GoSem.Claim
import GoSem.ClaimJoined
import GoSem.ClaimMapViews
import Derived.JoinedTies
import Derived.KernelRfl
namespace Go.Proofs.Ythjholnpkpkakaa
/- THE CELL 'sum', in the pinned program and in every row, IS THE sha256 OF THE DUMP (.gsa) THAT YthjholnpkpkakaaProg.lean LOADS. Nothing in Lean hashes anything: it is a label: what it is worth is what the hold of that sum in a sandbox is worth. -/
noncomputable def Try.pinned : Pinned := { name := "ythjholnpkpkakaa", sum := "7531bd2ce681a7eb0cdf35d7da5970e62aa09f3cdbcab238c0b1e8b85b7b61c2", checked := Try.checked }
namespace Rows
def none {H : Type} : Left H := { results := [], args := [] }

/-- 'sallyportlaw20.ControlSince': WHATEVER THE INPUT: true; the input reads as it did. -/
def controlSinceSpec : ChangeSpec := { name := "controlSince", fn := fun _ => fun
  | [d1, d2] => { results := [.lit (.bool true)], args := [d1, d2] }
  | _ => none }
def controlSinceRow : OpenClaim := { program := "ythjholnpkpkakaa", sum := "7531bd2ce681a7eb0cdf35d7da5970e62aa09f3cdbcab238c0b1e8b85b7b61c2", func := "sallyport/sallyportlaw20.ControlSince", spec := "controlSince", apart := false }
def ControlSinceSaid : Prop := controlSinceRow.holds Try.pinned (OpenSpec.ofChange controlSinceSpec)

/-- ITS FALSE NEIGHBOUR: 'it returns false'. Refute it at one input. -/
def controlSinceWrong : ChangeSpec := { name := "controlSince", fn := fun _ => fun
  | [d1, d2] => { results := [.lit (.bool false)], args := [d1, d2] }
  | _ => none }
def ControlSinceWrongFalsely : Prop := controlSinceRow.holds Try.pinned (OpenSpec.ofChange controlSinceWrong)

/-- 'sallyportlaw20.ControlParts': WHATEVER THE INPUT: true; the input reads as it did. -/
def controlPartsSpec : ChangeSpec := { name := "controlParts", fn := fun _ => fun
  | [d1, d2] => { results := [.lit (.bool true)], args := [d1, d2] }
  | _ => none }
def controlPartsRow : OpenClaim := { program := "ythjholnpkpkakaa", sum := "7531bd2ce681a7eb0cdf35d7da5970e62aa09f3cdbcab238c0b1e8b85b7b61c2", func := "sallyport/sallyportlaw20.ControlParts", spec := "controlParts", apart := false }
def ControlPartsSaid : Prop := controlPartsRow.holds Try.pinned (OpenSpec.ofChange controlPartsSpec)

/-- ITS FALSE NEIGHBOUR: 'it returns false'. Refute it at one input. -/
def controlPartsWrong : ChangeSpec := { name := "controlParts", fn := fun _ => fun
  | [d1, d2] => { results := [.lit (.bool false)], args := [d1, d2] }
  | _ => none }
def ControlPartsWrongFalsely : Prop := controlPartsRow.holds Try.pinned (OpenSpec.ofChange controlPartsWrong)

/-- 'sallyportlaw02.StoreTwo': WHATEVER THE INPUT: true; the input reads as it did. -/
def storeTwoSpec : ChangeSpec := { name := "storeTwo", fn := fun _ => fun
  | [d] => { results := [.lit (.bool true)], args := [d] }
  | _ => none }
def storeTwoRow : OpenClaim := { program := "ythjholnpkpkakaa", sum := "7531bd2ce681a7eb0cdf35d7da5970e62aa09f3cdbcab238c0b1e8b85b7b61c2", func := "sallyport/sallyportlaw02.StoreTwo", spec := "storeTwo", unfollowed := true, recurses := true, apart := false }
def StoreTwoSaid : Prop := storeTwoRow.holds Try.pinned (OpenSpec.ofChange storeTwoSpec)

/-- ITS FALSE NEIGHBOUR: 'it returns false'. Refute it at one input. -/
def storeTwoWrong : ChangeSpec := { name := "storeTwo", fn := fun _ => fun
  | [d] => { results := [.lit (.bool false)], args := [d] }
  | _ => none }
def StoreTwoWrongFalsely : Prop := storeTwoRow.holds Try.pinned (OpenSpec.ofChange storeTwoWrong)

/-- 'sallyportlaw20.ControlBack': WHATEVER THE INPUT: true; the input reads as it did. -/
def controlBackSpec : ChangeSpec := { name := "controlBack", fn := fun _ => fun
  | [d1, d2] => { results := [.lit (.bool true)], args := [d1, d2] }
  | _ => none }
def controlBackRow : OpenClaim := { program := "ythjholnpkpkakaa", sum := "7531bd2ce681a7eb0cdf35d7da5970e62aa09f3cdbcab238c0b1e8b85b7b61c2", func := "sallyport/sallyportlaw20.ControlBack", spec := "controlBack", apart := false }
def ControlBackSaid : Prop := controlBackRow.holds Try.pinned (OpenSpec.ofChange controlBackSpec)

/-- ITS FALSE NEIGHBOUR: 'it returns false'. Refute it at one input. -/
def controlBackWrong : ChangeSpec := { name := "controlBack", fn := fun _ => fun
  | [d1, d2] => { results := [.lit (.bool false)], args := [d1, d2] }
  | _ => none }
def ControlBackWrongFalsely : Prop := controlBackRow.holds Try.pinned (OpenSpec.ofChange controlBackWrong)

/-- 'sallyportlaw20.ControlTurned': WHATEVER THE INPUT: true; the input reads as it did. -/
def controlTurnedSpec : ChangeSpec := { name := "controlTurned", fn := fun _ => fun
  | [d1, d2, d3, d4] => { results := [.lit (.bool true)], args := [d1, d2, d3, d4] }
  | _ => none }
def controlTurnedRow : OpenClaim := { program := "ythjholnpkpkakaa", sum := "7531bd2ce681a7eb0cdf35d7da5970e62aa09f3cdbcab238c0b1e8b85b7b61c2", func := "sallyport/sallyportlaw20.ControlTurned", spec := "controlTurned", apart := false }
def ControlTurnedSaid : Prop := controlTurnedRow.holds Try.pinned (OpenSpec.ofChange controlTurnedSpec)

/-- ITS FALSE NEIGHBOUR: 'it returns false'. Refute it at one input. -/
def controlTurnedWrong : ChangeSpec := { name := "controlTurned", fn := fun _ => fun
  | [d1, d2, d3, d4] => { results := [.lit (.bool false)], args := [d1, d2, d3, d4] }
  | _ => none }
def ControlTurnedWrongFalsely : Prop := controlTurnedRow.holds Try.pinned (OpenSpec.ofChange controlTurnedWrong)

/-- 'sallyportlaw02.StoreCuts': WHATEVER THE INPUT: true; the input reads as it did. -/
def storeCutsSpec : ChangeSpec := { name := "storeCuts", fn := fun _ => fun
  | [d1, d2] => { results := [.lit (.bool true)], args := [d1, d2] }
  | _ => none }
def storeCutsRow : OpenClaim := { program := "ythjholnpkpkakaa", sum := "7531bd2ce681a7eb0cdf35d7da5970e62aa09f3cdbcab238c0b1e8b85b7b61c2", func := "sallyport/sallyportlaw02.StoreCuts", spec := "storeCuts", unfollowed := true, recurses := true, apart := false }
def StoreCutsSaid : Prop := storeCutsRow.holds Try.pinned (OpenSpec.ofChange storeCutsSpec)

/-- ITS FALSE NEIGHBOUR: 'it returns false'. Refute it at one input. -/
def storeCutsWrong : ChangeSpec := { name := "storeCuts", fn := fun _ => fun
  | [d1, d2] => { results := [.lit (.bool false)], args := [d1, d2] }
  | _ => none }
def StoreCutsWrongFalsely : Prop := storeCutsRow.holds Try.pinned (OpenSpec.ofChange storeCutsWrong)

/-- 'sallyportlaw20.ControlRing': WHATEVER THE INPUT: true; the input reads as it did. -/
def controlRingSpec : ChangeSpec := { name := "controlRing", fn := fun _ => fun
  | [d] => { results := [.lit (.bool true)], args := [d] }
  | _ => none }
def controlRingRow : OpenClaim := { program := "ythjholnpkpkakaa", sum := "7531bd2ce681a7eb0cdf35d7da5970e62aa09f3cdbcab238c0b1e8b85b7b61c2", func := "sallyport/sallyportlaw20.ControlRing", spec := "controlRing", apart := false }
def ControlRingSaid : Prop := controlRingRow.holds Try.pinned (OpenSpec.ofChange controlRingSpec)

/-- ITS FALSE NEIGHBOUR: 'it returns false'. Refute it at one input. -/
def controlRingWrong : ChangeSpec := { name := "controlRing", fn := fun _ => fun
  | [d] => { results := [.lit (.bool false)], args := [d] }
  | _ => none }
def ControlRingWrongFalsely : Prop := controlRingRow.holds Try.pinned (OpenSpec.ofChange controlRingWrong)

/-- 'sallyportlaw20.ControlFrames': WHATEVER THE INPUT: true; the input reads as it did. -/
def controlFramesSpec : ChangeSpec := { name := "controlFrames", fn := fun _ => fun
  | [d1, d2, d3, d4, d5] => { results := [.lit (.bool true)], args := [d1, d2, d3, d4, d5] }
  | _ => none }
def controlFramesRow : OpenClaim := { program := "ythjholnpkpkakaa", sum := "7531bd2ce681a7eb0cdf35d7da5970e62aa09f3cdbcab238c0b1e8b85b7b61c2", func := "sallyport/sallyportlaw20.ControlFrames", spec := "controlFrames", apart := false }
def ControlFramesSaid : Prop := controlFramesRow.holds Try.pinned (OpenSpec.ofChange controlFramesSpec)

/-- ITS FALSE NEIGHBOUR: 'it returns false'. Refute it at one input. -/
def controlFramesWrong : ChangeSpec := { name := "controlFrames", fn := fun _ => fun
  | [d1, d2, d3, d4, d5] => { results := [.lit (.bool false)], args := [d1, d2, d3, d4, d5] }
  | _ => none }
def ControlFramesWrongFalsely : Prop := controlFramesRow.holds Try.pinned (OpenSpec.ofChange controlFramesWrong)

/-- 'sallyportlaw02.StoreFew': WHATEVER THE INPUT: true; the input reads as it did. -/
def storeFewSpec : ChangeSpec := { name := "storeFew", fn := fun _ => fun
  | [d] => { results := [.lit (.bool true)], args := [d] }
  | _ => none }
def storeFewRow : OpenClaim := { program := "ythjholnpkpkakaa", sum := "7531bd2ce681a7eb0cdf35d7da5970e62aa09f3cdbcab238c0b1e8b85b7b61c2", func := "sallyport/sallyportlaw02.StoreFew", spec := "storeFew", unfollowed := true, recurses := true, apart := false }
def StoreFewSaid : Prop := storeFewRow.holds Try.pinned (OpenSpec.ofChange storeFewSpec)

/-- ITS FALSE NEIGHBOUR: 'it returns false'. Refute it at one input. -/
def storeFewWrong : ChangeSpec := { name := "storeFew", fn := fun _ => fun
  | [d] => { results := [.lit (.bool false)], args := [d] }
  | _ => none }
def StoreFewWrongFalsely : Prop := storeFewRow.holds Try.pinned (OpenSpec.ofChange storeFewWrong)

/-- 'sallyportlaw02.StoreKeeps': WHATEVER THE INPUT: true; the input reads as it did. -/
def storeKeepsSpec : ChangeSpec := { name := "storeKeeps", fn := fun _ => fun
  | [d1, d2] => { results := [.lit (.bool true)], args := [d1, d2] }
  | _ => none }
def storeKeepsRow : OpenClaim := { program := "ythjholnpkpkakaa", sum := "7531bd2ce681a7eb0cdf35d7da5970e62aa09f3cdbcab238c0b1e8b85b7b61c2", func := "sallyport/sallyportlaw02.StoreKeeps", spec := "storeKeeps", unfollowed := true, recurses := true, apart := false }
def StoreKeepsSaid : Prop := storeKeepsRow.holds Try.pinned (OpenSpec.ofChange storeKeepsSpec)

/-- ITS FALSE NEIGHBOUR: 'it returns false'. Refute it at one input. -/
def storeKeepsWrong : ChangeSpec := { name := "storeKeeps", fn := fun _ => fun
  | [d1, d2] => { results := [.lit (.bool false)], args := [d1, d2] }
  | _ => none }
def StoreKeepsWrongFalsely : Prop := storeKeepsRow.holds Try.pinned (OpenSpec.ofChange storeKeepsWrong)

/- THE SECOND FORM. 'bulk': how many values and letters a reading holds, each counted each time it is reached (what is shared counts as often as it is met; a slice's spare places count too). A statement '..UptoSaid' is the law's where the arguments, and the package variables that the reading takes, are together of bulk at most 1048576: NARROWER than '..Said'. Prove '..Said' where nothing that the law and all that it calls make is longer than what came in: it says more and counts as full. Else prove '..UptoSaid'. A law counts once. -/
mutual
def uptoBulk {H : Type} : DataW H → Nat
  | .lit (.string bytes) => bytes.length + 1
  | .lit _ => 1
  | .nil => 1
  | .ptr d => uptoBulk d + 1
  | .slice elems spare => uptoBulkAll elems + uptoBulkAll spare + 1
  | .agg parts => uptoBulkAll parts + 1
  | .iface _ d => uptoBulk d + 1
  | .map entries => uptoBulkEntries entries + 1
  | .held _ => 1
def uptoBulkAll {H : Type} : List (DataW H) → Nat
  | [] => 0
  | d :: r => uptoBulk d + uptoBulkAll r
def uptoBulkEntries {H : Type} : List (Lit × DataW H) → Nat
  | [] => 0
  | x :: r => uptoBulkEntry x + uptoBulkEntries r
def uptoBulkEntry {H : Type} : Lit × DataW H → Nat
  | (.string bytes, d) => bytes.length + uptoBulk d + 1
  | (_, d) => uptoBulk d + 1
 end
def uptoSmall : (H : Type) → List (DataW H) → Bool := fun _ ds => decide (uptoBulkAll ds ≤ 1048576)
def OpenSpec.upto (s : _root_.Go.ChangeSpec) : _root_.Go.OpenSpec := { _root_.Go.OpenSpec.ofChange s with cond := some uptoSmall }

/-- 'sallyportlaw20.ControlSince', WHERE WHAT IT READS IS OF BULK AT MOST 1048576: true; the input reads as it did. -/
def controlSinceUptoRow : OpenClaim := { program := "ythjholnpkpkakaa", sum := "7531bd2ce681a7eb0cdf35d7da5970e62aa09f3cdbcab238c0b1e8b85b7b61c2", func := "sallyport/sallyportlaw20.ControlSince", spec := "controlSince", apart := false, narrowed := true }
def ControlSinceUptoSaid : Prop := controlSinceUptoRow.holds Try.pinned (OpenSpec.upto controlSinceSpec)

/-- 'sallyportlaw20.ControlParts', WHERE WHAT IT READS IS OF BULK AT MOST 1048576: true; the input reads as it did. -/
def controlPartsUptoRow : OpenClaim := { program := "ythjholnpkpkakaa", sum := "7531bd2ce681a7eb0cdf35d7da5970e62aa09f3cdbcab238c0b1e8b85b7b61c2", func := "sallyport/sallyportlaw20.ControlParts", spec := "controlParts", apart := false, narrowed := true }
def ControlPartsUptoSaid : Prop := controlPartsUptoRow.holds Try.pinned (OpenSpec.upto controlPartsSpec)

/-- 'sallyportlaw02.StoreTwo', WHERE WHAT IT READS IS OF BULK AT MOST 1048576: true; the input reads as it did. -/
def storeTwoUptoRow : OpenClaim := { program := "ythjholnpkpkakaa", sum := "7531bd2ce681a7eb0cdf35d7da5970e62aa09f3cdbcab238c0b1e8b85b7b61c2", func := "sallyport/sallyportlaw02.StoreTwo", spec := "storeTwo", unfollowed := true, recurses := true, apart := false, narrowed := true }
def StoreTwoUptoSaid : Prop := storeTwoUptoRow.holds Try.pinned (OpenSpec.upto storeTwoSpec)

/-- 'sallyportlaw20.ControlBack', WHERE WHAT IT READS IS OF BULK AT MOST 1048576: true; the input reads as it did. -/
def controlBackUptoRow : OpenClaim := { program := "ythjholnpkpkakaa", sum := "7531bd2ce681a7eb0cdf35d7da5970e62aa09f3cdbcab238c0b1e8b85b7b61c2", func := "sallyport/sallyportlaw20.ControlBack", spec := "controlBack", apart := false, narrowed := true }
def ControlBackUptoSaid : Prop := controlBackUptoRow.holds Try.pinned (OpenSpec.upto controlBackSpec)

/-- 'sallyportlaw20.ControlTurned', WHERE WHAT IT READS IS OF BULK AT MOST 1048576: true; the input reads as it did. -/
def controlTurnedUptoRow : OpenClaim := { program := "ythjholnpkpkakaa", sum := "7531bd2ce681a7eb0cdf35d7da5970e62aa09f3cdbcab238c0b1e8b85b7b61c2", func := "sallyport/sallyportlaw20.ControlTurned", spec := "controlTurned", apart := false, narrowed := true }
def ControlTurnedUptoSaid : Prop := controlTurnedUptoRow.holds Try.pinned (OpenSpec.upto controlTurnedSpec)

/-- 'sallyportlaw02.StoreCuts', WHERE WHAT IT READS IS OF BULK AT MOST 1048576: true; the input reads as it did. -/
def storeCutsUptoRow : OpenClaim := { program := "ythjholnpkpkakaa", sum := "7531bd2ce681a7eb0cdf35d7da5970e62aa09f3cdbcab238c0b1e8b85b7b61c2", func := "sallyport/sallyportlaw02.StoreCuts", spec := "storeCuts", unfollowed := true, recurses := true, apart := false, narrowed := true }
def StoreCutsUptoSaid : Prop := storeCutsUptoRow.holds Try.pinned (OpenSpec.upto storeCutsSpec)

/-- 'sallyportlaw20.ControlRing', WHERE WHAT IT READS IS OF BULK AT MOST 1048576: true; the input reads as it did. -/
def controlRingUptoRow : OpenClaim := { program := "ythjholnpkpkakaa", sum := "7531bd2ce681a7eb0cdf35d7da5970e62aa09f3cdbcab238c0b1e8b85b7b61c2", func := "sallyport/sallyportlaw20.ControlRing", spec := "controlRing", apart := false, narrowed := true }
def ControlRingUptoSaid : Prop := controlRingUptoRow.holds Try.pinned (OpenSpec.upto controlRingSpec)

/-- 'sallyportlaw20.ControlFrames', WHERE WHAT IT READS IS OF BULK AT MOST 1048576: true; the input reads as it did. -/
def controlFramesUptoRow : OpenClaim := { program := "ythjholnpkpkakaa", sum := "7531bd2ce681a7eb0cdf35d7da5970e62aa09f3cdbcab238c0b1e8b85b7b61c2", func := "sallyport/sallyportlaw20.ControlFrames", spec := "controlFrames", apart := false, narrowed := true }
def ControlFramesUptoSaid : Prop := controlFramesUptoRow.holds Try.pinned (OpenSpec.upto controlFramesSpec)

/-- 'sallyportlaw02.StoreFew', WHERE WHAT IT READS IS OF BULK AT MOST 1048576: true; the input reads as it did. -/
def storeFewUptoRow : OpenClaim := { program := "ythjholnpkpkakaa", sum := "7531bd2ce681a7eb0cdf35d7da5970e62aa09f3cdbcab238c0b1e8b85b7b61c2", func := "sallyport/sallyportlaw02.StoreFew", spec := "storeFew", unfollowed := true, recurses := true, apart := false, narrowed := true }
def StoreFewUptoSaid : Prop := storeFewUptoRow.holds Try.pinned (OpenSpec.upto storeFewSpec)

/-- 'sallyportlaw02.StoreKeeps', WHERE WHAT IT READS IS OF BULK AT MOST 1048576: true; the input reads as it did. -/
def storeKeepsUptoRow : OpenClaim := { program := "ythjholnpkpkakaa", sum := "7531bd2ce681a7eb0cdf35d7da5970e62aa09f3cdbcab238c0b1e8b85b7b61c2", func := "sallyport/sallyportlaw02.StoreKeeps", spec := "storeKeeps", unfollowed := true, recurses := true, apart := false, narrowed := true }
def StoreKeepsUptoSaid : Prop := storeKeepsUptoRow.holds Try.pinned (OpenSpec.upto storeKeepsSpec)

end Rows
end Go.Proofs.Ythjholnpkpkakaa
