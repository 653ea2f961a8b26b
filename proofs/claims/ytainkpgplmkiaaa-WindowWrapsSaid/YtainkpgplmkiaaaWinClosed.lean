/- WindowClosed in plain Lean: how a connection is closed. No condition. -/
import Derived.Test.YtainkpgplmkiaaaWinOpens
namespace Go.Proofs.Ytainkpgplmkiaaa.WinClosed
open Go Go.Proofs.Ytainkpgplmkiaaa.Win Go.Proofs.Ytainkpgplmkiaaa.Win2 Go.Proofs.Ytainkpgplmkiaaa.WinModel Go.Proofs.Ytainkpgplmkiaaa.Win6 Go.Proofs.Ytainkpgplmkiaaa.WinFlags Go.Proofs.Ytainkpgplmkiaaa.WinOpens
theorem synced_rst (c : Cn) (back fi ac : Bool) (ak wi da en : Int) : synced c back fi true ac ak wi da en = (c, false) := by
  unfold synced; cases fi <;> rfl
theorem synced_st (c : Cn) (back fi rs ac : Bool) (ak wi da en : Int) : (synced c back fi rs ac ak wi da en).1.st = c.st ∨ (synced c back fi rs ac ak wi da en).1.st = 2 := by
  rcases synced_ways c back fi rs ac ak wi da en with ⟨b, h⟩ | ⟨_, _, _, _, h, _⟩
  · exact .inl (by rw [h])
  · exact .inr h
/-- A segment that belongs to an open connection closes it just if it bears Rst. -/
theorem next_closed (c : Cn) (back : Bool) (t : Tr) (h1 : 1 ≤ c.st) (h4 : c.st ≤ 4) :
    ((next c back t).2 = true → flag t.fl 4 = true → (next c back t).1.st = 5) ∧ (((next c back t).2 && flag t.fl 4) = false → 1 ≤ (next c back t).1.st ∧ (next c back t).1.st ≤ 4) := by
  unfold next
  generalize flag t.fl 1 = fi
  generalize flag t.fl 2 = sy
  generalize flag t.fl 4 = rs
  generalize flag t.fl 16 = ac
  generalize endOf t.sq t.fl t.da = en
  dsimp only
  have no : ∀ b : Bool, (b = false) → ((c, b).2 = true → rs = true → (c, b).1.st = 5) ∧ (((c, b).2 && rs) = false → 1 ≤ (c, b).1.st ∧ (c, b).1.st ≤ 4) := fun b hb => ⟨fun h => (by rw [hb] at h; cases h), fun _ => ⟨h1, h4⟩⟩
  by_cases z0 : (decide (c.st < 1) || decide (4 < c.st)) = true
  · rw [if_pos z0]; exact no _ rfl
  rw [if_neg z0]
  by_cases z1 : (((if back = true then c.a else c.b).seen && ac) && less (if back = true then c.a else c.b).e t.ak) = true
  · rw [if_pos z1]; exact no _ rfl
  rw [if_neg z1]
  by_cases z2 : ((!ac && !sy) && !rs) = true
  · rw [if_pos z2]; exact no _ rfl
  rw [if_neg z2]
  by_cases hsy : sy = true
  · rw [if_pos hsy]
    cases rs
    · refine ⟨fun _ h => (by cases h), fun _ => ?_⟩
      rcases synced_st c back fi false ac t.ak t.wi t.da en with h | h
      · rw [h]; exact ⟨h1, h4⟩
      · rw [h]; omega
    · rw [synced_rst]; exact no _ rfl
  rw [if_neg hsy]
  by_cases z3 : (!(if back = true then c.b else c.a).seen) = true
  · rw [if_pos z3]
    by_cases z4 : ((rs && ac) && (t.ak == (if back = true then c.a else c.b).e)) = true
    · rw [if_pos z4]
      refine ⟨fun _ _ => rfl, fun h => ?_⟩
      have : rs = true := by cases rs <;> simp_all
      rw [this] at h; cases h
    · rw [if_neg z4]; exact no _ rfl
  rw [if_neg z3]
  by_cases z5 : less (if back = true then c.b else c.a).m en = true
  · rw [if_pos z5]; exact no _ rfl
  rw [if_neg z5]
  by_cases z6 : less t.sq (((if back = true then c.b else c.a).e - 65536) % 4294967296) = true
  · rw [if_pos z6]; exact no _ rfl
  rw [if_neg z6]
  dsimp only
  cases rs
  · refine ⟨fun _ h => (by cases h), fun _ => ?_⟩
    rw [if_neg (by decide)]
    generalize hF : (Sd.fin _ || Sd.fin _) = F
    cases F
    case true => exact ⟨by show 1 ≤ (4 : Int); decide, by show (4 : Int) ≤ 4; decide⟩
    case false =>
      rw [if_neg (by decide)]
      by_cases z8 : (((c.st == 2) && ac) && !back) = true
      · rw [if_pos z8]; omega
      · rw [if_neg z8]; exact ⟨h1, h4⟩
  · exact ⟨fun _ _ => rfl, fun h => by cases h⟩
theorem opened_cases (t : Tr) : opened t = (Cn.zero, false) ∨ ∃ e m, opened t = (⟨1, ⟨true, e, m, false⟩, ⟨false, 0, 0, false⟩⟩, true) := by
  unfold opened
  split
  · exact .inl rfl
  · exact .inr ⟨_, _, rfl⟩
theorem life_open {st : Int} (h1 : 1 ≤ st) (h4 : st ≤ 4) : decide (10 ≤ life st) = true := by
  apply decide_eq_true
  unfold life
  split
  · omega
  · split
    · omega
    · split
      · omega
      · omega
end Go.Proofs.Ytainkpgplmkiaaa.WinClosed
