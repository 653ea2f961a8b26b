/-
  No cell of these rows narrows 'for every input' (looked for: loops, veiled, ifaces, maps, wideKeys, modest, calm, conditions, laid).
  DERIVED. THE GIVEN ROWS OF THIS SEAT. 12 by the template 'for every input the law returns true; each argument reads behind the call as it read before'; 0 by the template 'total and deterministic' (their statements: YtlalaifbipmgeaaTotals.lean).
  GIVEN WITH THE SEED: the statements are not yours to turn. If you find one false, say at which input.
  Laid BY PROGRAM, IN A SANDBOX (cutbox-rows.mjs): the forced cells as the released guide's own fill.sh prints them over the translation d6794725dca91d1f… (all of the seat's roots in one cut). By AI agents, Wed Nov 11 2026. No macro, syntax, notation, axiom, sorry.
-/
import Derived.Test.YtlalaifbipmgeaaChecked
import GoSem.Claim
import GoSem.ClaimJoined
import GoSem.ClaimMapViews
import Derived.JoinedTies
import Derived.KernelRfl
namespace Go.Proofs.Ytlalaifbipmgeaa
/- THE CELL 'sum', in the pinned program and in every row, IS THE sha256 OF THE DUMP (.gsa) THAT YtlalaifbipmgeaaProg.lean LOADS. Nothing in Lean hashes anything: it is a label: what it is worth is what the hold of that sum in a sandbox is worth. -/
noncomputable def Try.pinned : Pinned := { name := "ytlalaifbipmgeaa", sum := "d6794725dca91d1f27751f8d088599fe48b9ffd48272e6f689e561fe3f4dcdf8", checked := Try.checked }
namespace Rows
def none {H : Type} : Left H := { results := [], args := [] }

/-- 'sallyportlaw20.ControlSince': WHATEVER THE INPUT: true; the input reads as it did. -/
def controlSinceSpec : ChangeSpec := { name := "controlSince", fn := fun _ => fun
  | [d1, d2] => { results := [.lit (.bool true)], args := [d1, d2] }
  | _ => none }
def controlSinceRow : OpenClaim := { program := "ytlalaifbipmgeaa", sum := "d6794725dca91d1f27751f8d088599fe48b9ffd48272e6f689e561fe3f4dcdf8", func := "sallyport/sallyportlaw20.ControlSince", spec := "controlSince", apart := false }
def ControlSinceSaid : Prop := controlSinceRow.holds Try.pinned (OpenSpec.ofChange controlSinceSpec)

/-- ITS FALSE NEIGHBOUR: 'it returns false'. Refute it at one input. -/
def controlSinceWrong : ChangeSpec := { name := "controlSince", fn := fun _ => fun
  | [d1, d2] => { results := [.lit (.bool false)], args := [d1, d2] }
  | _ => none }
def ControlSinceWrongFalsely : Prop := controlSinceRow.holds Try.pinned (OpenSpec.ofChange controlSinceWrong)

/-- 'sallyportlaw04.WireSums': WHATEVER THE INPUT: true; the input reads as it did. -/
def wireSumsSpec : ChangeSpec := { name := "wireSums", fn := fun _ => fun
  | [d1, d2, d3] => { results := [.lit (.bool true)], args := [d1, d2, d3] }
  | _ => none }
def wireSumsRow : OpenClaim := { program := "ytlalaifbipmgeaa", sum := "d6794725dca91d1f27751f8d088599fe48b9ffd48272e6f689e561fe3f4dcdf8", func := "sallyport/sallyportlaw04.WireSums", spec := "wireSums", apart := false }
def WireSumsSaid : Prop := wireSumsRow.holds Try.pinned (OpenSpec.ofChange wireSumsSpec)

/-- ITS FALSE NEIGHBOUR: 'it returns false'. Refute it at one input. -/
def wireSumsWrong : ChangeSpec := { name := "wireSums", fn := fun _ => fun
  | [d1, d2, d3] => { results := [.lit (.bool false)], args := [d1, d2, d3] }
  | _ => none }
def WireSumsWrongFalsely : Prop := wireSumsRow.holds Try.pinned (OpenSpec.ofChange wireSumsWrong)

/-- 'sallyportlaw20.ControlParts': WHATEVER THE INPUT: true; the input reads as it did. -/
def controlPartsSpec : ChangeSpec := { name := "controlParts", fn := fun _ => fun
  | [d1, d2] => { results := [.lit (.bool true)], args := [d1, d2] }
  | _ => none }
def controlPartsRow : OpenClaim := { program := "ytlalaifbipmgeaa", sum := "d6794725dca91d1f27751f8d088599fe48b9ffd48272e6f689e561fe3f4dcdf8", func := "sallyport/sallyportlaw20.ControlParts", spec := "controlParts", apart := false }
def ControlPartsSaid : Prop := controlPartsRow.holds Try.pinned (OpenSpec.ofChange controlPartsSpec)

/-- ITS FALSE NEIGHBOUR: 'it returns false'. Refute it at one input. -/
def controlPartsWrong : ChangeSpec := { name := "controlParts", fn := fun _ => fun
  | [d1, d2] => { results := [.lit (.bool false)], args := [d1, d2] }
  | _ => none }
def ControlPartsWrongFalsely : Prop := controlPartsRow.holds Try.pinned (OpenSpec.ofChange controlPartsWrong)

/-- 'sallyportlaw01.DiskLast': WHATEVER THE INPUT: true; the input reads as it did. -/
def diskLastSpec : ChangeSpec := { name := "diskLast", fn := fun _ => fun
  | [d1, d2] => { results := [.lit (.bool true)], args := [d1, d2] }
  | _ => none }
def diskLastRow : OpenClaim := { program := "ytlalaifbipmgeaa", sum := "d6794725dca91d1f27751f8d088599fe48b9ffd48272e6f689e561fe3f4dcdf8", func := "sallyport/sallyportlaw01.DiskLast", spec := "diskLast", apart := false }
def DiskLastSaid : Prop := diskLastRow.holds Try.pinned (OpenSpec.ofChange diskLastSpec)

/-- ITS FALSE NEIGHBOUR: 'it returns false'. Refute it at one input. -/
def diskLastWrong : ChangeSpec := { name := "diskLast", fn := fun _ => fun
  | [d1, d2] => { results := [.lit (.bool false)], args := [d1, d2] }
  | _ => none }
def DiskLastWrongFalsely : Prop := diskLastRow.holds Try.pinned (OpenSpec.ofChange diskLastWrong)

/-- 'sallyportlaw01.DiskPower': WHATEVER THE INPUT: true; the input reads as it did. -/
def diskPowerSpec : ChangeSpec := { name := "diskPower", fn := fun _ => fun
  | [d1, d2] => { results := [.lit (.bool true)], args := [d1, d2] }
  | _ => none }
def diskPowerRow : OpenClaim := { program := "ytlalaifbipmgeaa", sum := "d6794725dca91d1f27751f8d088599fe48b9ffd48272e6f689e561fe3f4dcdf8", func := "sallyport/sallyportlaw01.DiskPower", spec := "diskPower", apart := false }
def DiskPowerSaid : Prop := diskPowerRow.holds Try.pinned (OpenSpec.ofChange diskPowerSpec)

/-- ITS FALSE NEIGHBOUR: 'it returns false'. Refute it at one input. -/
def diskPowerWrong : ChangeSpec := { name := "diskPower", fn := fun _ => fun
  | [d1, d2] => { results := [.lit (.bool false)], args := [d1, d2] }
  | _ => none }
def DiskPowerWrongFalsely : Prop := diskPowerRow.holds Try.pinned (OpenSpec.ofChange diskPowerWrong)

/-- 'sallyportlaw01.DiskCut': WHATEVER THE INPUT: true; the input reads as it did. -/
def diskCutSpec : ChangeSpec := { name := "diskCut", fn := fun _ => fun
  | [d1, d2] => { results := [.lit (.bool true)], args := [d1, d2] }
  | _ => none }
def diskCutRow : OpenClaim := { program := "ytlalaifbipmgeaa", sum := "d6794725dca91d1f27751f8d088599fe48b9ffd48272e6f689e561fe3f4dcdf8", func := "sallyport/sallyportlaw01.DiskCut", spec := "diskCut", apart := false }
def DiskCutSaid : Prop := diskCutRow.holds Try.pinned (OpenSpec.ofChange diskCutSpec)

/-- ITS FALSE NEIGHBOUR: 'it returns false'. Refute it at one input. -/
def diskCutWrong : ChangeSpec := { name := "diskCut", fn := fun _ => fun
  | [d1, d2] => { results := [.lit (.bool false)], args := [d1, d2] }
  | _ => none }
def DiskCutWrongFalsely : Prop := diskCutRow.holds Try.pinned (OpenSpec.ofChange diskCutWrong)

/-- 'sallyportlaw02.StoreTwo': WHATEVER THE INPUT: true; the input reads as it did. -/
def storeTwoSpec : ChangeSpec := { name := "storeTwo", fn := fun _ => fun
  | [d] => { results := [.lit (.bool true)], args := [d] }
  | _ => none }
def storeTwoRow : OpenClaim := { program := "ytlalaifbipmgeaa", sum := "d6794725dca91d1f27751f8d088599fe48b9ffd48272e6f689e561fe3f4dcdf8", func := "sallyport/sallyportlaw02.StoreTwo", spec := "storeTwo", unfollowed := true, recurses := true, apart := false }
def StoreTwoSaid : Prop := storeTwoRow.holds Try.pinned (OpenSpec.ofChange storeTwoSpec)

/-- ITS FALSE NEIGHBOUR: 'it returns false'. Refute it at one input. -/
def storeTwoWrong : ChangeSpec := { name := "storeTwo", fn := fun _ => fun
  | [d] => { results := [.lit (.bool false)], args := [d] }
  | _ => none }
def StoreTwoWrongFalsely : Prop := storeTwoRow.holds Try.pinned (OpenSpec.ofChange storeTwoWrong)

/-- 'sallyportlaw20.ControlBack': WHATEVER THE INPUT: true; the input reads as it did. -/
def controlBackSpec : ChangeSpec := { name := "controlBack", fn := fun _ => fun
  | [d1, d2] => { results := [.lit (.bool true)], args := [d1, d2] }
  | _ => none }
def controlBackRow : OpenClaim := { program := "ytlalaifbipmgeaa", sum := "d6794725dca91d1f27751f8d088599fe48b9ffd48272e6f689e561fe3f4dcdf8", func := "sallyport/sallyportlaw20.ControlBack", spec := "controlBack", apart := false }
def ControlBackSaid : Prop := controlBackRow.holds Try.pinned (OpenSpec.ofChange controlBackSpec)

/-- ITS FALSE NEIGHBOUR: 'it returns false'. Refute it at one input. -/
def controlBackWrong : ChangeSpec := { name := "controlBack", fn := fun _ => fun
  | [d1, d2] => { results := [.lit (.bool false)], args := [d1, d2] }
  | _ => none }
def ControlBackWrongFalsely : Prop := controlBackRow.holds Try.pinned (OpenSpec.ofChange controlBackWrong)

/-- 'sallyportlaw20.ControlTurned': WHATEVER THE INPUT: true; the input reads as it did. -/
def controlTurnedSpec : ChangeSpec := { name := "controlTurned", fn := fun _ => fun
  | [d1, d2, d3, d4] => { results := [.lit (.bool true)], args := [d1, d2, d3, d4] }
  | _ => none }
def controlTurnedRow : OpenClaim := { program := "ytlalaifbipmgeaa", sum := "d6794725dca91d1f27751f8d088599fe48b9ffd48272e6f689e561fe3f4dcdf8", func := "sallyport/sallyportlaw20.ControlTurned", spec := "controlTurned", apart := false }
def ControlTurnedSaid : Prop := controlTurnedRow.holds Try.pinned (OpenSpec.ofChange controlTurnedSpec)

/-- ITS FALSE NEIGHBOUR: 'it returns false'. Refute it at one input. -/
def controlTurnedWrong : ChangeSpec := { name := "controlTurned", fn := fun _ => fun
  | [d1, d2, d3, d4] => { results := [.lit (.bool false)], args := [d1, d2, d3, d4] }
  | _ => none }
def ControlTurnedWrongFalsely : Prop := controlTurnedRow.holds Try.pinned (OpenSpec.ofChange controlTurnedWrong)

/-- 'sallyportlaw02.StoreCuts': WHATEVER THE INPUT: true; the input reads as it did. -/
def storeCutsSpec : ChangeSpec := { name := "storeCuts", fn := fun _ => fun
  | [d1, d2] => { results := [.lit (.bool true)], args := [d1, d2] }
  | _ => none }
def storeCutsRow : OpenClaim := { program := "ytlalaifbipmgeaa", sum := "d6794725dca91d1f27751f8d088599fe48b9ffd48272e6f689e561fe3f4dcdf8", func := "sallyport/sallyportlaw02.StoreCuts", spec := "storeCuts", unfollowed := true, recurses := true, apart := false }
def StoreCutsSaid : Prop := storeCutsRow.holds Try.pinned (OpenSpec.ofChange storeCutsSpec)

/-- ITS FALSE NEIGHBOUR: 'it returns false'. Refute it at one input. -/
def storeCutsWrong : ChangeSpec := { name := "storeCuts", fn := fun _ => fun
  | [d1, d2] => { results := [.lit (.bool false)], args := [d1, d2] }
  | _ => none }
def StoreCutsWrongFalsely : Prop := storeCutsRow.holds Try.pinned (OpenSpec.ofChange storeCutsWrong)

/-- 'sallyportlaw01.DiskReads': WHATEVER THE INPUT: true; the input reads as it did. -/
def diskReadsSpec : ChangeSpec := { name := "diskReads", fn := fun _ => fun
  | [d1, d2] => { results := [.lit (.bool true)], args := [d1, d2] }
  | _ => none }
def diskReadsRow : OpenClaim := { program := "ytlalaifbipmgeaa", sum := "d6794725dca91d1f27751f8d088599fe48b9ffd48272e6f689e561fe3f4dcdf8", func := "sallyport/sallyportlaw01.DiskReads", spec := "diskReads", apart := false }
def DiskReadsSaid : Prop := diskReadsRow.holds Try.pinned (OpenSpec.ofChange diskReadsSpec)

/-- ITS FALSE NEIGHBOUR: 'it returns false'. Refute it at one input. -/
def diskReadsWrong : ChangeSpec := { name := "diskReads", fn := fun _ => fun
  | [d1, d2] => { results := [.lit (.bool false)], args := [d1, d2] }
  | _ => none }
def DiskReadsWrongFalsely : Prop := diskReadsRow.holds Try.pinned (OpenSpec.ofChange diskReadsWrong)

/-- 'sallyportlaw01.DiskScript': WHATEVER THE INPUT: true; the input reads as it did. -/
def diskScriptSpec : ChangeSpec := { name := "diskScript", fn := fun _ => fun
  | [d] => { results := [.lit (.bool true)], args := [d] }
  | _ => none }
def diskScriptRow : OpenClaim := { program := "ytlalaifbipmgeaa", sum := "d6794725dca91d1f27751f8d088599fe48b9ffd48272e6f689e561fe3f4dcdf8", func := "sallyport/sallyportlaw01.DiskScript", spec := "diskScript", apart := false }
def DiskScriptSaid : Prop := diskScriptRow.holds Try.pinned (OpenSpec.ofChange diskScriptSpec)

/-- ITS FALSE NEIGHBOUR: 'it returns false'. Refute it at one input. -/
def diskScriptWrong : ChangeSpec := { name := "diskScript", fn := fun _ => fun
  | [d] => { results := [.lit (.bool false)], args := [d] }
  | _ => none }
def DiskScriptWrongFalsely : Prop := diskScriptRow.holds Try.pinned (OpenSpec.ofChange diskScriptWrong)

/- THE SECOND FORM. 'bulk': how many values and letters a reading holds, each counted each time it is reached (what is shared counts as often as it is met; a slice's spare places count too). A statement '..UptoSaid' is the law's where the arguments, and the package variables that the reading takes, are together of bulk at most 1048576: NARROWER than '..Said'. Prove '..Said' where nothing that the law and all that it calls make is longer than what came in: it says more and counts as full. Else prove '..UptoSaid'. A law counts once. -/
mutual
def uptoBulk {H : Type} : DataW H → Nat
  | .lit (.string bytes) => bytes.length + 1
  | .lit _ => 1
  | .nil => 1
  | .ptr d => uptoBulk d + 1
  | .slice elems spare => uptoBulkAll elems + uptoBulkAll spare + 1
  | .agg parts => uptoBulkAll parts + 1
  | .iface _ d => uptoBulk d + 1
  | .map entries => uptoBulkEntries entries + 1
  | .held _ => 1
def uptoBulkAll {H : Type} : List (DataW H) → Nat
  | [] => 0
  | d :: r => uptoBulk d + uptoBulkAll r
def uptoBulkEntries {H : Type} : List (Lit × DataW H) → Nat
  | [] => 0
  | x :: r => uptoBulkEntry x + uptoBulkEntries r
def uptoBulkEntry {H : Type} : Lit × DataW H → Nat
  | (.string bytes, d) => bytes.length + uptoBulk d + 1
  | (_, d) => uptoBulk d + 1
 end
def uptoSmall : (H : Type) → List (DataW H) → Bool := fun _ ds => decide (uptoBulkAll ds ≤ 1048576)
def OpenSpec.upto (s : _root_.Go.ChangeSpec) : _root_.Go.OpenSpec := { _root_.Go.OpenSpec.ofChange s with cond := some uptoSmall }

/-- 'sallyportlaw20.ControlSince', WHERE WHAT IT READS IS OF BULK AT MOST 1048576: true; the input reads as it did. -/
def controlSinceUptoRow : OpenClaim := { program := "ytlalaifbipmgeaa", sum := "d6794725dca91d1f27751f8d088599fe48b9ffd48272e6f689e561fe3f4dcdf8", func := "sallyport/sallyportlaw20.ControlSince", spec := "controlSince", apart := false, narrowed := true }
def ControlSinceUptoSaid : Prop := controlSinceUptoRow.holds Try.pinned (OpenSpec.upto controlSinceSpec)

/-- 'sallyportlaw04.WireSums', WHERE WHAT IT READS IS OF BULK AT MOST 1048576: true; the input reads as it did. -/
def wireSumsUptoRow : OpenClaim := { program := "ytlalaifbipmgeaa", sum := "d6794725dca91d1f27751f8d088599fe48b9ffd48272e6f689e561fe3f4dcdf8", func := "sallyport/sallyportlaw04.WireSums", spec := "wireSums", apart := false, narrowed := true }
def WireSumsUptoSaid : Prop := wireSumsUptoRow.holds Try.pinned (OpenSpec.upto wireSumsSpec)

/-- 'sallyportlaw20.ControlParts', WHERE WHAT IT READS IS OF BULK AT MOST 1048576: true; the input reads as it did. -/
def controlPartsUptoRow : OpenClaim := { program := "ytlalaifbipmgeaa", sum := "d6794725dca91d1f27751f8d088599fe48b9ffd48272e6f689e561fe3f4dcdf8", func := "sallyport/sallyportlaw20.ControlParts", spec := "controlParts", apart := false, narrowed := true }
def ControlPartsUptoSaid : Prop := controlPartsUptoRow.holds Try.pinned (OpenSpec.upto controlPartsSpec)

/-- 'sallyportlaw01.DiskLast', WHERE WHAT IT READS IS OF BULK AT MOST 1048576: true; the input reads as it did. -/
def diskLastUptoRow : OpenClaim := { program := "ytlalaifbipmgeaa", sum := "d6794725dca91d1f27751f8d088599fe48b9ffd48272e6f689e561fe3f4dcdf8", func := "sallyport/sallyportlaw01.DiskLast", spec := "diskLast", apart := false, narrowed := true }
def DiskLastUptoSaid : Prop := diskLastUptoRow.holds Try.pinned (OpenSpec.upto diskLastSpec)

/-- 'sallyportlaw01.DiskPower', WHERE WHAT IT READS IS OF BULK AT MOST 1048576: true; the input reads as it did. -/
def diskPowerUptoRow : OpenClaim := { program := "ytlalaifbipmgeaa", sum := "d6794725dca91d1f27751f8d088599fe48b9ffd48272e6f689e561fe3f4dcdf8", func := "sallyport/sallyportlaw01.DiskPower", spec := "diskPower", apart := false, narrowed := true }
def DiskPowerUptoSaid : Prop := diskPowerUptoRow.holds Try.pinned (OpenSpec.upto diskPowerSpec)

/-- 'sallyportlaw01.DiskCut', WHERE WHAT IT READS IS OF BULK AT MOST 1048576: true; the input reads as it did. -/
def diskCutUptoRow : OpenClaim := { program := "ytlalaifbipmgeaa", sum := "d6794725dca91d1f27751f8d088599fe48b9ffd48272e6f689e561fe3f4dcdf8", func := "sallyport/sallyportlaw01.DiskCut", spec := "diskCut", apart := false, narrowed := true }
def DiskCutUptoSaid : Prop := diskCutUptoRow.holds Try.pinned (OpenSpec.upto diskCutSpec)

/-- 'sallyportlaw02.StoreTwo', WHERE WHAT IT READS IS OF BULK AT MOST 1048576: true; the input reads as it did. -/
def storeTwoUptoRow : OpenClaim := { program := "ytlalaifbipmgeaa", sum := "d6794725dca91d1f27751f8d088599fe48b9ffd48272e6f689e561fe3f4dcdf8", func := "sallyport/sallyportlaw02.StoreTwo", spec := "storeTwo", unfollowed := true, recurses := true, apart := false, narrowed := true }
def StoreTwoUptoSaid : Prop := storeTwoUptoRow.holds Try.pinned (OpenSpec.upto storeTwoSpec)

/-- 'sallyportlaw20.ControlBack', WHERE WHAT IT READS IS OF BULK AT MOST 1048576: true; the input reads as it did. -/
def controlBackUptoRow : OpenClaim := { program := "ytlalaifbipmgeaa", sum := "d6794725dca91d1f27751f8d088599fe48b9ffd48272e6f689e561fe3f4dcdf8", func := "sallyport/sallyportlaw20.ControlBack", spec := "controlBack", apart := false, narrowed := true }
def ControlBackUptoSaid : Prop := controlBackUptoRow.holds Try.pinned (OpenSpec.upto controlBackSpec)

/-- 'sallyportlaw20.ControlTurned', WHERE WHAT IT READS IS OF BULK AT MOST 1048576: true; the input reads as it did. -/
def controlTurnedUptoRow : OpenClaim := { program := "ytlalaifbipmgeaa", sum := "d6794725dca91d1f27751f8d088599fe48b9ffd48272e6f689e561fe3f4dcdf8", func := "sallyport/sallyportlaw20.ControlTurned", spec := "controlTurned", apart := false, narrowed := true }
def ControlTurnedUptoSaid : Prop := controlTurnedUptoRow.holds Try.pinned (OpenSpec.upto controlTurnedSpec)

/-- 'sallyportlaw02.StoreCuts', WHERE WHAT IT READS IS OF BULK AT MOST 1048576: true; the input reads as it did. -/
def storeCutsUptoRow : OpenClaim := { program := "ytlalaifbipmgeaa", sum := "d6794725dca91d1f27751f8d088599fe48b9ffd48272e6f689e561fe3f4dcdf8", func := "sallyport/sallyportlaw02.StoreCuts", spec := "storeCuts", unfollowed := true, recurses := true, apart := false, narrowed := true }
def StoreCutsUptoSaid : Prop := storeCutsUptoRow.holds Try.pinned (OpenSpec.upto storeCutsSpec)

/-- 'sallyportlaw01.DiskReads', WHERE WHAT IT READS IS OF BULK AT MOST 1048576: true; the input reads as it did. -/
def diskReadsUptoRow : OpenClaim := { program := "ytlalaifbipmgeaa", sum := "d6794725dca91d1f27751f8d088599fe48b9ffd48272e6f689e561fe3f4dcdf8", func := "sallyport/sallyportlaw01.DiskReads", spec := "diskReads", apart := false, narrowed := true }
def DiskReadsUptoSaid : Prop := diskReadsUptoRow.holds Try.pinned (OpenSpec.upto diskReadsSpec)

/-- 'sallyportlaw01.DiskScript', WHERE WHAT IT READS IS OF BULK AT MOST 1048576: true; the input reads as it did. -/
def diskScriptUptoRow : OpenClaim := { program := "ytlalaifbipmgeaa", sum := "d6794725dca91d1f27751f8d088599fe48b9ffd48272e6f689e561fe3f4dcdf8", func := "sallyport/sallyportlaw01.DiskScript", spec := "diskScript", apart := false, narrowed := true }
def DiskScriptUptoSaid : Prop := diskScriptUptoRow.holds Try.pinned (OpenSpec.upto diskScriptSpec)

end Rows
end Go.Proofs.Ytlalaifbipmgeaa
