/- theirs, at whatever frame: the same fields. No condition. -/
import Derived.Test.YthjholnpkpkakaaDecode
namespace Go.Proofs.Ythjholnpkpkakaa.Theirs
open Go.RowKit Go.Proofs.YthjholnpkpkakaaW.PrintWords Go.Proofs.YthjholnpkpkakaaW.PrintLast Go.Proofs.YthjholnpkpkakaaW.PrintMore Go.Proofs.Ythjholnpkpkakaa.PControlFrames Go.Proofs.Ythjholnpkpkakaa.Decode Go.Proofs.Ythjholnpkpkakaa.MWorld
set_option linter.unusedVariables false
theorem infoR : (Try.prog.info? 63).map (·.size) = some 4 := by kernel_rfl
set_option maxHeartbeats 8000000 in
set_option maxRecDepth 100000 in
theorem theirs_any (p q s : Int) (A : Option Addr) (n c : Nat) (w : World) :
    Calls Try.prog 30 #[.agg #[.int .i64 p, .int .i64 q, .int .i64 s, .slice A n c]] w fun e w' => e = .returned (.agg #[.int .i64 p, .int .i64 q, .int .i64 s, .slice A n c]) ∧ Below w.heap.size w w' := by
  have hu := Try.underlying59
  have hu2 := Try.underlying63
  go_enter Try.func30, Try.ntmps30
  go_wp2_with (first | ((with_reducible refine gate_dst (N := 1) rfl ?_); refine box_event ?hg (N := 1) ?hd (cs := #[.int .i64 p, .int .i64 q, .int .i64 s, .slice A n c]) (t := 59) ?hr ?_; (case hd => rfl); (case hg => rfl); (case hr => first | (go_simp; done) | (go_simp; rfl)); intro g hg w3 hbox hb; have HB := Aside0.mk hb; have BK := Aside0.mk hbox; have GW := Aside0.mk (by rw [hg]; exact Nat.le_refl _ : w.heap.size ≤ g); clear hb hbox hg) | ((with_reducible refine gate_dst (N := 2) rfl ?_); refine box_event ?hg (N := 2) ?hd (cs := #[.int .i64 0, .int .i64 0, .int .i64 0, .slice none 0 0]) (t := 63) ?hr ?_; (case hd => rfl); (case hg => rfl); (case hr => first | (go_simp; done) | (go_simp; rfl)); intro g2 hg2 w4 hbox hb; have HB4 := Aside0.mk (below_step HB.out hb); have BK4 := Aside0.mk hbox; have BG4 := Aside0.mk (blk_below BK.out hb); have GW4 := Aside0.mk (by rw [hg2]; exact HB.out.size : w.heap.size ≤ g2); clear hb hbox hg2 BK HB; have hz0 : w4.cell? ⟨g, 0, none⟩ = some (.int .i64 p) := (blk_cell BG4.out 0).trans rfl; have hz1 : w4.cell? ⟨g, 1, none⟩ = some (.int .i64 q) := (blk_cell BG4.out 1).trans rfl; have hz2 : w4.cell? ⟨g, 2, none⟩ = some (.int .i64 s) := (blk_cell BG4.out 2).trans rfl; have hz3 : w4.cell? ⟨g, 3, none⟩ = some (.slice A n c) := (blk_cell BG4.out 3).trans rfl; have hy0 : w4.cell? ⟨g2, 0, none⟩ = some (.int .i64 0) := (blk_cell BK4.out 0).trans rfl; have hy1 : w4.cell? ⟨g2, 1, none⟩ = some (.int .i64 0) := (blk_cell BK4.out 1).trans rfl; have hy2 : w4.cell? ⟨g2, 2, none⟩ = some (.int .i64 0) := (blk_cell BK4.out 2).trans rfl; have hy3 : w4.cell? ⟨g2, 3, none⟩ = some (.slice none 0 0) := (blk_cell BK4.out 3).trans rfl; have hf0 := blk_frozen BK4.out 0; have hf1 := blk_frozen BK4.out 1; have hf2 := blk_frozen BK4.out 2; have hf3 := blk_frozen BK4.out 3))
  have BK2 := blk_put (blk_put (blk_put (blk_put BK4.out 0 (.int .i64 p) rfl) 1 (.int .i64 q) rfl) 2 (.int .i64 s) rfl) 3 (.slice A n c) rfl
  have HB2 := below_set (j := 3) (v := .slice A n c) (below_set (j := 2) (v := .int .i64 s) (below_set (j := 1) (v := .int .i64 q) (below_set (j := 0) (v := .int .i64 p) HB4.out GW4.out) GW4.out) GW4.out) GW4.out
  refine bodyPost_ret (results_cell_row (ty := 63) (p := 2) ?r1 _ _ g2 63 _ (0, 0) _ ?r2 BK2 hu2 ?r3 ?r4) ?r5 ?r6
  case r1 => rfl
  case r2 => rfl
  case r3 => rfl
  case r4 => exact infoR
  case r5 => rfl
  case r6 => exact ⟨rfl, HB2⟩
end Go.Proofs.Ythjholnpkpkakaa.Theirs
