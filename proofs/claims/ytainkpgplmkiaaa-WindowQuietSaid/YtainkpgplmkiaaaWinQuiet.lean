/- WindowQuiet in plain Lean: what does not belong to a connection changes nothing. No condition. -/
import Derived.Test.YtainkpgplmkiaaaWinOpens
namespace Go.Proofs.Ytainkpgplmkiaaa.WinQuiet
open Go Go.Proofs.Ytainkpgplmkiaaa.Win Go.Proofs.Ytainkpgplmkiaaa.Win2 Go.Proofs.Ytainkpgplmkiaaa.WinModel Go.Proofs.Ytainkpgplmkiaaa.WinOpens
set_option linter.unusedVariables false
theorem synced_keep (c : Cn) (back fi rs ac : Bool) (ak wi da en : Int) (h : (synced c back fi rs ac ak wi da en).2 = false) : (synced c back fi rs ac ak wi da en).1 = c := by
  rcases synced_ways c back fi rs ac ak wi da en with ⟨b, e⟩ | ⟨_, _, _, _, _, e⟩
  · rw [e]
  · rw [e] at h; cases h
/-- What does not belong to a connection changes nothing. -/
theorem next_keep (c : Cn) (back : Bool) (t : Tr) : (next c back t).2 = false → (next c back t).1 = c := by
  unfold next
  generalize flag t.fl 1 = fi
  generalize flag t.fl 2 = sy
  generalize flag t.fl 4 = rs
  generalize flag t.fl 16 = ac
  generalize endOf t.sq t.fl t.da = en
  dsimp only
  by_cases z0 : (decide (c.st < 1) || decide (4 < c.st)) = true
  · rw [if_pos z0]; exact fun _ => rfl
  rw [if_neg z0]
  by_cases z1 : (((if back = true then c.a else c.b).seen && ac) && less (if back = true then c.a else c.b).e t.ak) = true
  · rw [if_pos z1]; exact fun _ => rfl
  rw [if_neg z1]
  by_cases z2 : ((!ac && !sy) && !rs) = true
  · rw [if_pos z2]; exact fun _ => rfl
  rw [if_neg z2]
  by_cases hsy : sy = true
  · rw [if_pos hsy]
    exact synced_keep c back fi rs ac t.ak t.wi t.da en
  rw [if_neg hsy]
  by_cases z3 : (!(if back = true then c.b else c.a).seen) = true
  · rw [if_pos z3]
    by_cases z4 : ((rs && ac) && (t.ak == (if back = true then c.a else c.b).e)) = true
    · rw [if_pos z4]; exact fun h => by cases h
    · rw [if_neg z4]; exact fun _ => rfl
  rw [if_neg z3]
  by_cases z5 : less (if back = true then c.b else c.a).m en = true
  · rw [if_pos z5]; exact fun _ => rfl
  rw [if_neg z5]
  by_cases z6 : less t.sq (((if back = true then c.b else c.a).e - 65536) % 4294967296) = true
  · rw [if_pos z6]; exact fun _ => rfl
  rw [if_neg z6]
  exact fun h => by cases h
theorem next_closed5 (x y : Sd) (back : Bool) (t : Tr) : next ⟨5, x, y⟩ back t = (⟨5, x, y⟩, false) := by
  unfold next
  dsimp only
  rfl
end Go.Proofs.Ytainkpgplmkiaaa.WinQuiet
