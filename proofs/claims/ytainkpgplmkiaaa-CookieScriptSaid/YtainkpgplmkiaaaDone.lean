/- What a drawn region's operation waited for. No condition. -/
import Derived.Test.YtainkpgplmkiaaaRgw
namespace Go.Proofs.Ytainkpgplmkiaaa.Done
open Go Go.RowKit Go.Proofs.Ytainkpgplmkiaaa.Rg Go.Proofs.Ytainkpgplmkiaaa.Rgw
set_option linter.unusedVariables false
variable {P : Program} {ops : Array Oper} {o : Oper} {a a0 : Act} {Q : Exit → Act → World → Prop} {W w w' : World} {K : Act → World → Prop} {listed : Array Bool} {vals : Nat → Value}
/-- What was waited for, with its value. -/
theorem done_val (hD : Done ops a0 listed vals a) (ha : ∀ e ∈ o.after, Region.binds .any e = true → listed.getD e.on false = true)
    (j d : Nat) (he : (o.after.toList.any fun e => Region.binds .any e && e.on == j) = true) (hd : dstOf ops j = some d) : listed.getD j false = true ∧ a.tmps[d]? = some (vals j) := by
  obtain ⟨e, hm, hb⟩ := List.any_eq_true.1 he
  simp only [Bool.and_eq_true, beq_iff_eq] at hb
  have hl := ha e (Array.mem_toList_iff.1 hm) hb.1
  rw [hb.2] at hl
  exact ⟨hl, hD.got j d hl hd⟩
end Go.Proofs.Ytainkpgplmkiaaa.Done
