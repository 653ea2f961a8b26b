/- The walk of WireSums: the printed function's contract, joined with the pure statement: the call returns true and leaves all memory that was there as it was. No condition. -/
import Derived.Test.YtlalaifbipmgeaaPureWireSums
import Derived.Test.YtlalaifbipmgeaaMArgs
namespace Go.Proofs.Ytlalaifbipmgeaa.WireSumsWalk
open Go.RowKit Go.Proofs.Ytlalaifbipmgeaa.PWireSums Go.Proofs.YtlalaifbipmgeaaW.PrintWords Go.Proofs.Ytlalaifbipmgeaa.MArgs
theorem walk (A0 : Option Addr) (c0 : Nat) (l0 : List Int) (a1 a2 : Int) (w : World) (w0 : IntsIn .u8 1 w A0 c0 l0) (w1 : (Lit.int .i64 a1).wf = true) (w2 : (Lit.int .i64 a2).wf = true) :
    Calls Try.prog 4 #[.slice A0 l0.length c0, .int .i64 a1, .int .i64 a2] w fun e w' => e = .returned (.bool true) ∧ Below w.heap.size w w' := by
  obtain ⟨k, h⟩ := Pure.WireSums l0 a1 a2 w0.max w0.bytes w0.wf w1 w2
  exact sallyportlaw04_WireSums.calls k _ _ l0 a1 a2 true w (Kd.C_of_reads (d := (0 : Int)) (h1 := fun _ => rfl) w0.reads) w0.room h
end Go.Proofs.Ytlalaifbipmgeaa.WireSumsWalk
