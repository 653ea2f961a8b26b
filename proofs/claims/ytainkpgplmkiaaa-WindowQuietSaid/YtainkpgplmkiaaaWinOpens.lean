/- WindowOpens in plain Lean: how a connection is opened. No condition. -/
import Derived.Test.YtainkpgplmkiaaaWin6
import Derived.Test.YtainkpgplmkiaaaWinFlags
namespace Go.Proofs.Ytainkpgplmkiaaa.WinOpens
open Go Go.Proofs.Ytainkpgplmkiaaa.Win Go.Proofs.Ytainkpgplmkiaaa.Win2 Go.Proofs.Ytainkpgplmkiaaa.WinModel Go.Proofs.Ytainkpgplmkiaaa.Win6 Go.Proofs.Ytainkpgplmkiaaa.WinFlags
theorem f2_2 : flag 2 2 = true := by kernel_rfl
theorem f2_1 : flag 2 1 = false := by kernel_rfl
theorem f2_4 : flag 2 4 = false := by kernel_rfl
theorem f2_16 : flag 2 16 = false := by kernel_rfl
theorem f18_2 : flag 18 2 = true := by kernel_rfl
theorem f18_1 : flag 18 1 = false := by kernel_rfl
theorem f18_4 : flag 18 4 = false := by kernel_rfl
theorem f18_16 : flag 18 16 = true := by kernel_rfl
theorem f16_2 : flag 16 2 = false := by kernel_rfl
theorem f16_1 : flag 16 1 = false := by kernel_rfl
theorem f16_4 : flag 16 4 = false := by kernel_rfl
theorem f16_16 : flag 16 16 = true := by kernel_rfl
theorem less_self (e : Int) : less e e = false := by
  unfold less
  exact decide_eq_false (by omega)
theorem open_first (a wi : Int) : opened ⟨0, 0, a, 0, 2, wi, 0, 0, 0, 0⟩ = (⟨1, ⟨true, (a + 1) % 4294967296, ((a + 1) % 4294967296 + wi) % 4294967296, false⟩, ⟨false, 0, 0, false⟩⟩, true) := by
  have he : endOf a 2 0 = (a + 1) % 4294967296 := by
    unfold endOf; rw [f2_2, f2_1]; simp
  simp only [opened, f2_2, f2_1, f2_4, f2_16, he]
  rfl
theorem next_first (a b w1 w2 : Int) : ∃ a' b' : Sd, a'.seen = true ∧ a'.e = (a + 1) % 4294967296 ∧ a'.fin = false ∧ (a'.m = ((a + 1) % 4294967296 + w1) % 4294967296 ∨ a'.m = ((a + 1) % 4294967296 + w2) % 4294967296) ∧ b'.seen = true ∧ b'.e = (b + 1) % 4294967296 ∧ b'.fin = false ∧
    next ⟨1, ⟨true, (a + 1) % 4294967296, ((a + 1) % 4294967296 + w1) % 4294967296, false⟩, ⟨false, 0, 0, false⟩⟩ true ⟨0, 0, b, (a + 1) % 4294967296, 18, w2, 0, 0, 0, 0⟩ = (⟨2, a', b'⟩, true) := by
  have he : endOf b 18 0 = (b + 1) % 4294967296 := by
    unfold endOf; rw [f18_2, f18_1]; simp
  refine ⟨⟨true, (a + 1) % 4294967296, grant true true (((a + 1) % 4294967296 + w1) % 4294967296) ((a + 1) % 4294967296) w2, false⟩, ⟨true, (b + 1) % 4294967296, ((b + 1) % 4294967296 + w2) % 4294967296, false⟩, rfl, rfl, rfl, ?_, rfl, rfl, rfl, ?_⟩
  · show grant true true _ _ _ = _ ∨ grant true true _ _ _ = _
    unfold grant later
    rcases less (((a + 1) % 4294967296 + w1) % 4294967296) (((a + 1) % 4294967296 + w2) % 4294967296) with _ | _
    · exact .inl rfl
    · exact .inr rfl
  · simp [next, synced, f18_2, f18_1, f18_4, f18_16, he, less_self]
theorem next_third (a b w1 w2 wi : Int) (a' b' : Sd) (h1 : a'.seen = true) (h2 : a'.e = (a + 1) % 4294967296) (h3 : a'.fin = false) (h4 : a'.m = ((a + 1) % 4294967296 + w1) % 4294967296 ∨ a'.m = ((a + 1) % 4294967296 + w2) % 4294967296)
    (h5 : b'.seen = true) (h6 : b'.e = (b + 1) % 4294967296) (h7 : b'.fin = false) (r1 : 0 ≤ w1 ∧ w1 < 65536) (r2 : 0 ≤ w2 ∧ w2 < 65536) :
    ∃ y : Cn, y.st = 3 ∧ next ⟨2, a', b'⟩ false ⟨0, 0, (a + 1) % 4294967296, (b + 1) % 4294967296, 16, wi, 0, 0, 0, 0⟩ = (y, true) := by
  have he : endOf ((a + 1) % 4294967296) 16 0 = (a + 1) % 4294967296 := by
    unfold endOf; rw [f16_2, f16_1]; simp
  have l1 : less a'.m ((a + 1) % 4294967296) = false := by
    unfold less
    exact decide_eq_false (by omega)
  have l2 : less ((a + 1) % 4294967296) (((a + 1) % 4294967296 - 65536) % 4294967296) = false := by
    unfold less
    exact decide_eq_false (by omega)
  have l3 : less ((a + 1) % 4294967296) ((a + 1 - 65536) % 4294967296) = false := by
    unfold less
    exact decide_eq_false (by omega)
  have hn : (next ⟨2, a', b'⟩ false ⟨0, 0, (a + 1) % 4294967296, (b + 1) % 4294967296, 16, wi, 0, 0, 0, 0⟩).1.st = 3 ∧ (next ⟨2, a', b'⟩ false ⟨0, 0, (a + 1) % 4294967296, (b + 1) % 4294967296, 16, wi, 0, 0, 0, 0⟩).2 = true := by
    simp [next, f16_2, f16_1, f16_4, f16_16, he, h1, h2, h3, h5, h6, h7, less_self, l1, l2, l3]
  exact ⟨_, hn.1, Prod.ext rfl hn.2⟩
theorem synced_ways (c : Cn) (back fi rs ac : Bool) (ak wi da en : Int) : (∃ b, synced c back fi rs ac ak wi da en = (c, b)) ∨ (c.st = 1 ∧ back = true ∧ ac = true ∧ ak = c.a.e ∧ (synced c back fi rs ac ak wi da en).1.st = 2 ∧ (synced c back fi rs ac ak wi da en).2 = true) := by
  unfold synced
  split
  · exact .inl ⟨_, rfl⟩
  split
  · exact .inl ⟨_, rfl⟩
  split
  · exact .inl ⟨_, rfl⟩
  cases back
  · dsimp only
    split
    · split
      · exact .inl ⟨_, rfl⟩
      · exact .inl ⟨_, rfl⟩
    · exact .inl ⟨_, rfl⟩
  · dsimp only
    split
    · split
      · exact .inl ⟨_, rfl⟩
      · exact .inl ⟨_, rfl⟩
    · split
      · exact .inl ⟨_, rfl⟩
      · rename_i h1
        split
        · split
          · exact .inl ⟨_, rfl⟩
          · rename_i h2 h3
            exact .inr ⟨by simpa using h1, rfl, h2, by simpa using h3, rfl, rfl⟩
        · exact .inl ⟨_, rfl⟩
theorem next_ways (c : Cn) (back : Bool) (t : Tr) : (∃ b, next c back t = (c, b)) ∨ (c.st = 1 ∧ back = true ∧ flag t.fl 2 = true ∧ flag t.fl 16 = true ∧ t.ak = c.a.e ∧ (next c back t).1.st = 2 ∧ (next c back t).2 = true) ∨ (next c back t).1.st = 5 ∨ (next c back t).1.st = 4 ∨
    (c.st = 2 ∧ back = false ∧ flag t.fl 16 = true ∧ (next c back t).1.st = 3) ∨ (next c back t).1.st = c.st := by
  unfold next
  generalize flag t.fl 1 = fi
  generalize flag t.fl 2 = sy
  generalize flag t.fl 4 = rs
  generalize flag t.fl 16 = ac
  generalize endOf t.sq t.fl t.da = en
  dsimp only
  by_cases z0 : (decide (c.st < 1) || decide (4 < c.st)) = true
  · rw [if_pos z0]; exact .inl ⟨_, rfl⟩
  rw [if_neg z0]
  by_cases z1 : (((if back = true then c.a else c.b).seen && ac) && less (if back = true then c.a else c.b).e t.ak) = true
  · rw [if_pos z1]; exact .inl ⟨_, rfl⟩
  rw [if_neg z1]
  by_cases z2 : ((!ac && !sy) && !rs) = true
  · rw [if_pos z2]; exact .inl ⟨_, rfl⟩
  rw [if_neg z2]
  by_cases hsy : sy = true
  · rw [if_pos hsy]
    rcases synced_ways c back fi rs ac t.ak t.wi t.da en with h | ⟨h1, h2, h3, h4, h5⟩
    · exact .inl h
    · exact .inr (.inl ⟨h1, h2, hsy, h3, h4, h5⟩)
  rw [if_neg hsy]
  by_cases z3 : (!(if back = true then c.b else c.a).seen) = true
  · rw [if_pos z3]
    by_cases z4 : ((rs && ac) && (t.ak == (if back = true then c.a else c.b).e)) = true
    · rw [if_pos z4]; exact .inr (.inr (.inl rfl))
    · rw [if_neg z4]; exact .inl ⟨_, rfl⟩
  rw [if_neg z3]
  by_cases z5 : less (if back = true then c.b else c.a).m en = true
  · rw [if_pos z5]; exact .inl ⟨_, rfl⟩
  rw [if_neg z5]
  by_cases z6 : less t.sq (((if back = true then c.b else c.a).e - 65536) % 4294967296) = true
  · rw [if_pos z6]; exact .inl ⟨_, rfl⟩
  rw [if_neg z6]
  dsimp only
  by_cases z7 : rs = true
  · rw [if_pos z7]; exact .inr (.inr (.inl rfl))
  rw [if_neg z7]
  refine .inr (.inr (.inr ?_))
  generalize hF : (Sd.fin _ || Sd.fin _) = F
  cases F
  · rw [if_neg (by decide)]
    by_cases z8 : (((c.st == 2) && ac) && !back) = true
    · rw [if_pos z8]
      simp only [Bool.and_eq_true, beq_iff_eq, Bool.not_eq_true'] at z8
      exact .inr (.inl ⟨z8.1.1, z8.2, z8.1.2, rfl⟩)
    · rw [if_neg z8]; exact .inr (.inr rfl)
  · exact .inl rfl
/-- What a segment may do to a connection's state. -/
theorem next_two (c : Cn) (back : Bool) (t : Tr) (h2 : (next c back t).1.st = 2) (h1 : c.st = 1) : back = true ∧ t.ak = c.a.e ∧ flag t.fl 2 = true ∧ flag t.fl 16 = true := by
  rcases next_ways c back t with ⟨b, h⟩ | ⟨_, a1, a2, a3, a4, _⟩ | h | h | ⟨h, _, _, h'⟩ | h
  · rw [h] at h2; replace h2 : c.st = 2 := h2; omega
  · exact ⟨a1, a4, a2, a3⟩
  all_goals omega
theorem next_three (c : Cn) (back : Bool) (t : Tr) (h3 : (next c back t).1.st = 3) (h1 : c.st ≠ 3) : c.st = 2 ∧ back = false ∧ flag t.fl 16 = true := by
  rcases next_ways c back t with ⟨b, h⟩ | ⟨_, a1, a2, a3, a4, _⟩ | h | h | ⟨h, a1, a2, h'⟩ | h
  · rw [h] at h3; exact absurd h3 h1
  · omega
  · omega
  · omega
  · exact ⟨h, a1, a2⟩
  · omega
theorem next_from (c : Cn) (back : Bool) (t : Tr) (h2 : (next c back t).1.st = 2) : c.st = 2 ∨ (c.st = 1 ∧ (next c back t).2 = true) := by
  rcases next_ways c back t with ⟨b, h⟩ | ⟨h, a1, a2, a3, a4, _, h6⟩ | h | h | ⟨h, a1, a2, h'⟩ | h
  · rw [h] at h2; exact .inl h2
  · exact .inr ⟨h, h6⟩
  all_goals omega
theorem an_kept {an : Bool} {c n : Cn} {back gd : Bool} {t : Tr} (ha : c.st = 2 → an = true) (hn : next c back t = (n, gd)) (hE : ((gd && (n.st == 2)) && (c.st == 1)) = false) : n.st = 2 → an = true := by
  intro h
  have := next_from c back t (by rw [hn]; exact h)
  rw [hn] at this
  rcases this with h1 | ⟨h1, h2⟩
  · exact ha h1
  · replace h2 : gd = true := h2
    rw [h, h1, h2] at hE
    exact absurd hE (by decide)
end Go.Proofs.Ytainkpgplmkiaaa.WinOpens
