/-
  No cell of these rows narrows 'for every input' (looked for: loops, veiled, ifaces, maps, wideKeys, modest, calm, conditions, laid).
  DERIVED. THE GIVEN ROWS OF THIS SEAT. 8 by the template 'for every input the law returns true; each argument reads behind the call as it read before'; 0 by the template 'total and deterministic' (their statements: YtainkpgplmkiaaaTotals.lean).
  GIVEN WITH THE SEED: the statements are not yours to turn. If you find one false, say at which input.
  Laid BY PROGRAM, IN A SANDBOX (cutbox-rows.mjs): the forced cells as the released guide's own fill.sh prints them over the translation 496c437ff319f198… (all of the seat's roots in one cut). By AI agents, Wed Nov 11 2026. No macro, syntax, notation, axiom, sorry.
-/
import Derived.Test.YtainkpgplmkiaaaChecked
import GoSem.Claim
import GoSem.ClaimJoined
import GoSem.ClaimMapViews
import Derived.JoinedTies
import Derived.KernelRfl
namespace Go.Proofs.Ytainkpgplmkiaaa
/- THE CELL 'sum', in the pinned program and in every row, IS THE sha256 OF THE DUMP (.gsa) THAT YtainkpgplmkiaaaProg.lean LOADS. Nothing in Lean hashes anything: it is a label: what it is worth is what the hold of that sum in a sandbox is worth. -/
noncomputable def Try.pinned : Pinned := { name := "ytainkpgplmkiaaa", sum := "496c437ff319f1984e8588579b535fcb600a9c2d24bb27d59261ed60be066c12", checked := Try.checked }
namespace Rows
def none {H : Type} : Left H := { results := [], args := [] }

/-- 'sallyportlaw17.CookieHash': WHATEVER THE INPUT: true; the input reads as it did. -/
def cookieHashSpec : ChangeSpec := { name := "cookieHash", fn := fun _ => fun
  | [d1, d2, d3, d4, d5] => { results := [.lit (.bool true)], args := [d1, d2, d3, d4, d5] }
  | _ => none }
def cookieHashRow : OpenClaim := { program := "ytainkpgplmkiaaa", sum := "496c437ff319f1984e8588579b535fcb600a9c2d24bb27d59261ed60be066c12", func := "sallyport/sallyportlaw17.CookieHash", spec := "cookieHash", unfollowed := true, recurses := true, apart := false }
def CookieHashSaid : Prop := cookieHashRow.holds Try.pinned (OpenSpec.ofChange cookieHashSpec)

/-- ITS FALSE NEIGHBOUR: 'it returns false'. Refute it at one input. -/
def cookieHashWrong : ChangeSpec := { name := "cookieHash", fn := fun _ => fun
  | [d1, d2, d3, d4, d5] => { results := [.lit (.bool false)], args := [d1, d2, d3, d4, d5] }
  | _ => none }
def CookieHashWrongFalsely : Prop := cookieHashRow.holds Try.pinned (OpenSpec.ofChange cookieHashWrong)

/-- 'sallyportlaw15.WindowQuiet': WHATEVER THE INPUT: true; the input reads as it did. -/
def windowQuietSpec : ChangeSpec := { name := "windowQuiet", fn := fun _ => fun
  | [d1, d2, d3] => { results := [.lit (.bool true)], args := [d1, d2, d3] }
  | _ => none }
def windowQuietRow : OpenClaim := { program := "ytainkpgplmkiaaa", sum := "496c437ff319f1984e8588579b535fcb600a9c2d24bb27d59261ed60be066c12", func := "sallyport/sallyportlaw15.WindowQuiet", spec := "windowQuiet", apart := false }
def WindowQuietSaid : Prop := windowQuietRow.holds Try.pinned (OpenSpec.ofChange windowQuietSpec)

/-- ITS FALSE NEIGHBOUR: 'it returns false'. Refute it at one input. -/
def windowQuietWrong : ChangeSpec := { name := "windowQuiet", fn := fun _ => fun
  | [d1, d2, d3] => { results := [.lit (.bool false)], args := [d1, d2, d3] }
  | _ => none }
def WindowQuietWrongFalsely : Prop := windowQuietRow.holds Try.pinned (OpenSpec.ofChange windowQuietWrong)

/-- 'sallyportlaw17.CookieOld': WHATEVER THE INPUT: true; the input reads as it did. -/
def cookieOldSpec : ChangeSpec := { name := "cookieOld", fn := fun _ => fun
  | [d1, d2, d3, d4, d5, d6, d7] => { results := [.lit (.bool true)], args := [d1, d2, d3, d4, d5, d6, d7] }
  | _ => none }
def cookieOldRow : OpenClaim := { program := "ytainkpgplmkiaaa", sum := "496c437ff319f1984e8588579b535fcb600a9c2d24bb27d59261ed60be066c12", func := "sallyport/sallyportlaw17.CookieOld", spec := "cookieOld", unfollowed := true, recurses := true, apart := false }
def CookieOldSaid : Prop := cookieOldRow.holds Try.pinned (OpenSpec.ofChange cookieOldSpec)

/-- ITS FALSE NEIGHBOUR: 'it returns false'. Refute it at one input. -/
def cookieOldWrong : ChangeSpec := { name := "cookieOld", fn := fun _ => fun
  | [d1, d2, d3, d4, d5, d6, d7] => { results := [.lit (.bool false)], args := [d1, d2, d3, d4, d5, d6, d7] }
  | _ => none }
def CookieOldWrongFalsely : Prop := cookieOldRow.holds Try.pinned (OpenSpec.ofChange cookieOldWrong)

/-- 'sallyportlaw17.CookieScript': WHATEVER THE INPUT: true; the input reads as it did. -/
def cookieScriptSpec : ChangeSpec := { name := "cookieScript", fn := fun _ => fun
  | [d1, d2] => { results := [.lit (.bool true)], args := [d1, d2] }
  | _ => none }
def cookieScriptRow : OpenClaim := { program := "ytainkpgplmkiaaa", sum := "496c437ff319f1984e8588579b535fcb600a9c2d24bb27d59261ed60be066c12", func := "sallyport/sallyportlaw17.CookieScript", spec := "cookieScript", unfollowed := true, recurses := true, apart := false }
def CookieScriptSaid : Prop := cookieScriptRow.holds Try.pinned (OpenSpec.ofChange cookieScriptSpec)

/-- ITS FALSE NEIGHBOUR: 'it returns false'. Refute it at one input. -/
def cookieScriptWrong : ChangeSpec := { name := "cookieScript", fn := fun _ => fun
  | [d1, d2] => { results := [.lit (.bool false)], args := [d1, d2] }
  | _ => none }
def CookieScriptWrongFalsely : Prop := cookieScriptRow.holds Try.pinned (OpenSpec.ofChange cookieScriptWrong)

/-- 'sallyportlaw17.CookieBack': WHATEVER THE INPUT: true; the input reads as it did. -/
def cookieBackSpec : ChangeSpec := { name := "cookieBack", fn := fun _ => fun
  | [d1, d2, d3, d4, d5, d6] => { results := [.lit (.bool true)], args := [d1, d2, d3, d4, d5, d6] }
  | _ => none }
def cookieBackRow : OpenClaim := { program := "ytainkpgplmkiaaa", sum := "496c437ff319f1984e8588579b535fcb600a9c2d24bb27d59261ed60be066c12", func := "sallyport/sallyportlaw17.CookieBack", spec := "cookieBack", unfollowed := true, recurses := true, apart := false }
def CookieBackSaid : Prop := cookieBackRow.holds Try.pinned (OpenSpec.ofChange cookieBackSpec)

/-- ITS FALSE NEIGHBOUR: 'it returns false'. Refute it at one input. -/
def cookieBackWrong : ChangeSpec := { name := "cookieBack", fn := fun _ => fun
  | [d1, d2, d3, d4, d5, d6] => { results := [.lit (.bool false)], args := [d1, d2, d3, d4, d5, d6] }
  | _ => none }
def CookieBackWrongFalsely : Prop := cookieBackRow.holds Try.pinned (OpenSpec.ofChange cookieBackWrong)

/-- 'sallyportlaw15.WindowWraps': WHATEVER THE INPUT: true; the input reads as it did. -/
def windowWrapsSpec : ChangeSpec := { name := "windowWraps", fn := fun _ => fun
  | [d1, d2, d3, d4] => { results := [.lit (.bool true)], args := [d1, d2, d3, d4] }
  | _ => none }
def windowWrapsRow : OpenClaim := { program := "ytainkpgplmkiaaa", sum := "496c437ff319f1984e8588579b535fcb600a9c2d24bb27d59261ed60be066c12", func := "sallyport/sallyportlaw15.WindowWraps", spec := "windowWraps", apart := false }
def WindowWrapsSaid : Prop := windowWrapsRow.holds Try.pinned (OpenSpec.ofChange windowWrapsSpec)

/-- ITS FALSE NEIGHBOUR: 'it returns false'. Refute it at one input. -/
def windowWrapsWrong : ChangeSpec := { name := "windowWraps", fn := fun _ => fun
  | [d1, d2, d3, d4] => { results := [.lit (.bool false)], args := [d1, d2, d3, d4] }
  | _ => none }
def WindowWrapsWrongFalsely : Prop := windowWrapsRow.holds Try.pinned (OpenSpec.ofChange windowWrapsWrong)

/-- 'sallyportlaw15.WindowOpens': WHATEVER THE INPUT: true; the input reads as it did. -/
def windowOpensSpec : ChangeSpec := { name := "windowOpens", fn := fun _ => fun
  | [d1, d2, d3, d4, d5] => { results := [.lit (.bool true)], args := [d1, d2, d3, d4, d5] }
  | _ => none }
def windowOpensRow : OpenClaim := { program := "ytainkpgplmkiaaa", sum := "496c437ff319f1984e8588579b535fcb600a9c2d24bb27d59261ed60be066c12", func := "sallyport/sallyportlaw15.WindowOpens", spec := "windowOpens", apart := false }
def WindowOpensSaid : Prop := windowOpensRow.holds Try.pinned (OpenSpec.ofChange windowOpensSpec)

/-- ITS FALSE NEIGHBOUR: 'it returns false'. Refute it at one input. -/
def windowOpensWrong : ChangeSpec := { name := "windowOpens", fn := fun _ => fun
  | [d1, d2, d3, d4, d5] => { results := [.lit (.bool false)], args := [d1, d2, d3, d4, d5] }
  | _ => none }
def WindowOpensWrongFalsely : Prop := windowOpensRow.holds Try.pinned (OpenSpec.ofChange windowOpensWrong)

/-- 'sallyportlaw15.WindowClosed': WHATEVER THE INPUT: true; the input reads as it did. -/
def windowClosedSpec : ChangeSpec := { name := "windowClosed", fn := fun _ => fun
  | [d1, d2] => { results := [.lit (.bool true)], args := [d1, d2] }
  | _ => none }
def windowClosedRow : OpenClaim := { program := "ytainkpgplmkiaaa", sum := "496c437ff319f1984e8588579b535fcb600a9c2d24bb27d59261ed60be066c12", func := "sallyport/sallyportlaw15.WindowClosed", spec := "windowClosed", apart := false }
def WindowClosedSaid : Prop := windowClosedRow.holds Try.pinned (OpenSpec.ofChange windowClosedSpec)

/-- ITS FALSE NEIGHBOUR: 'it returns false'. Refute it at one input. -/
def windowClosedWrong : ChangeSpec := { name := "windowClosed", fn := fun _ => fun
  | [d1, d2] => { results := [.lit (.bool false)], args := [d1, d2] }
  | _ => none }
def WindowClosedWrongFalsely : Prop := windowClosedRow.holds Try.pinned (OpenSpec.ofChange windowClosedWrong)

/- THE SECOND FORM. 'bulk': how many values and letters a reading holds, each counted each time it is reached (what is shared counts as often as it is met; a slice's spare places count too). A statement '..UptoSaid' is the law's where the arguments, and the package variables that the reading takes, are together of bulk at most 1048576: NARROWER than '..Said'. Prove '..Said' where nothing that the law and all that it calls make is longer than what came in: it says more and counts as full. Else prove '..UptoSaid'. A law counts once. -/
mutual
def uptoBulk {H : Type} : DataW H → Nat
  | .lit (.string bytes) => bytes.length + 1
  | .lit _ => 1
  | .nil => 1
  | .ptr d => uptoBulk d + 1
  | .slice elems spare => uptoBulkAll elems + uptoBulkAll spare + 1
  | .agg parts => uptoBulkAll parts + 1
  | .iface _ d => uptoBulk d + 1
  | .map entries => uptoBulkEntries entries + 1
  | .held _ => 1
def uptoBulkAll {H : Type} : List (DataW H) → Nat
  | [] => 0
  | d :: r => uptoBulk d + uptoBulkAll r
def uptoBulkEntries {H : Type} : List (Lit × DataW H) → Nat
  | [] => 0
  | x :: r => uptoBulkEntry x + uptoBulkEntries r
def uptoBulkEntry {H : Type} : Lit × DataW H → Nat
  | (.string bytes, d) => bytes.length + uptoBulk d + 1
  | (_, d) => uptoBulk d + 1
 end
def uptoSmall : (H : Type) → List (DataW H) → Bool := fun _ ds => decide (uptoBulkAll ds ≤ 1048576)
def OpenSpec.upto (s : _root_.Go.ChangeSpec) : _root_.Go.OpenSpec := { _root_.Go.OpenSpec.ofChange s with cond := some uptoSmall }

/-- 'sallyportlaw17.CookieHash', WHERE WHAT IT READS IS OF BULK AT MOST 1048576: true; the input reads as it did. -/
def cookieHashUptoRow : OpenClaim := { program := "ytainkpgplmkiaaa", sum := "496c437ff319f1984e8588579b535fcb600a9c2d24bb27d59261ed60be066c12", func := "sallyport/sallyportlaw17.CookieHash", spec := "cookieHash", unfollowed := true, recurses := true, apart := false, narrowed := true }
def CookieHashUptoSaid : Prop := cookieHashUptoRow.holds Try.pinned (OpenSpec.upto cookieHashSpec)

/-- 'sallyportlaw15.WindowQuiet', WHERE WHAT IT READS IS OF BULK AT MOST 1048576: true; the input reads as it did. -/
def windowQuietUptoRow : OpenClaim := { program := "ytainkpgplmkiaaa", sum := "496c437ff319f1984e8588579b535fcb600a9c2d24bb27d59261ed60be066c12", func := "sallyport/sallyportlaw15.WindowQuiet", spec := "windowQuiet", apart := false, narrowed := true }
def WindowQuietUptoSaid : Prop := windowQuietUptoRow.holds Try.pinned (OpenSpec.upto windowQuietSpec)

/-- 'sallyportlaw17.CookieOld', WHERE WHAT IT READS IS OF BULK AT MOST 1048576: true; the input reads as it did. -/
def cookieOldUptoRow : OpenClaim := { program := "ytainkpgplmkiaaa", sum := "496c437ff319f1984e8588579b535fcb600a9c2d24bb27d59261ed60be066c12", func := "sallyport/sallyportlaw17.CookieOld", spec := "cookieOld", unfollowed := true, recurses := true, apart := false, narrowed := true }
def CookieOldUptoSaid : Prop := cookieOldUptoRow.holds Try.pinned (OpenSpec.upto cookieOldSpec)

/-- 'sallyportlaw17.CookieScript', WHERE WHAT IT READS IS OF BULK AT MOST 1048576: true; the input reads as it did. -/
def cookieScriptUptoRow : OpenClaim := { program := "ytainkpgplmkiaaa", sum := "496c437ff319f1984e8588579b535fcb600a9c2d24bb27d59261ed60be066c12", func := "sallyport/sallyportlaw17.CookieScript", spec := "cookieScript", unfollowed := true, recurses := true, apart := false, narrowed := true }
def CookieScriptUptoSaid : Prop := cookieScriptUptoRow.holds Try.pinned (OpenSpec.upto cookieScriptSpec)

/-- 'sallyportlaw17.CookieBack', WHERE WHAT IT READS IS OF BULK AT MOST 1048576: true; the input reads as it did. -/
def cookieBackUptoRow : OpenClaim := { program := "ytainkpgplmkiaaa", sum := "496c437ff319f1984e8588579b535fcb600a9c2d24bb27d59261ed60be066c12", func := "sallyport/sallyportlaw17.CookieBack", spec := "cookieBack", unfollowed := true, recurses := true, apart := false, narrowed := true }
def CookieBackUptoSaid : Prop := cookieBackUptoRow.holds Try.pinned (OpenSpec.upto cookieBackSpec)

/-- 'sallyportlaw15.WindowWraps', WHERE WHAT IT READS IS OF BULK AT MOST 1048576: true; the input reads as it did. -/
def windowWrapsUptoRow : OpenClaim := { program := "ytainkpgplmkiaaa", sum := "496c437ff319f1984e8588579b535fcb600a9c2d24bb27d59261ed60be066c12", func := "sallyport/sallyportlaw15.WindowWraps", spec := "windowWraps", apart := false, narrowed := true }
def WindowWrapsUptoSaid : Prop := windowWrapsUptoRow.holds Try.pinned (OpenSpec.upto windowWrapsSpec)

/-- 'sallyportlaw15.WindowOpens', WHERE WHAT IT READS IS OF BULK AT MOST 1048576: true; the input reads as it did. -/
def windowOpensUptoRow : OpenClaim := { program := "ytainkpgplmkiaaa", sum := "496c437ff319f1984e8588579b535fcb600a9c2d24bb27d59261ed60be066c12", func := "sallyport/sallyportlaw15.WindowOpens", spec := "windowOpens", apart := false, narrowed := true }
def WindowOpensUptoSaid : Prop := windowOpensUptoRow.holds Try.pinned (OpenSpec.upto windowOpensSpec)

/-- 'sallyportlaw15.WindowClosed', WHERE WHAT IT READS IS OF BULK AT MOST 1048576: true; the input reads as it did. -/
def windowClosedUptoRow : OpenClaim := { program := "ytainkpgplmkiaaa", sum := "496c437ff319f1984e8588579b535fcb600a9c2d24bb27d59261ed60be066c12", func := "sallyport/sallyportlaw15.WindowClosed", spec := "windowClosed", apart := false, narrowed := true }
def WindowClosedUptoSaid : Prop := windowClosedUptoRow.holds Try.pinned (OpenSpec.upto windowClosedSpec)

end Rows
end Go.Proofs.Ytainkpgplmkiaaa
