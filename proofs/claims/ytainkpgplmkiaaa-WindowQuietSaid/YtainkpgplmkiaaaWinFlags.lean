/- Flags of a segment: tests on several bits at once. -/
import Derived.Test.YtainkpgplmkiaaaWinModel
namespace Go.Proofs.Ytainkpgplmkiaaa.WinFlags
open Go Go.Proofs.Ytainkpgplmkiaaa.Win Go.Proofs.Ytainkpgplmkiaaa.WinModel
theorem and_low (x : Int) : ∃ m : Nat, m < 32 ∧ ∀ c : Nat, c < 32 → bits .and .i64 x (c : Int) = ((m &&& c : Nat) : Int) := by
  refine ⟨(BitVec.ofInt 64 x &&& 31#64).toNat, ?_, fun c hc => ?_⟩
  · rw [BitVec.toNat_and]
    exact Nat.lt_of_le_of_lt Nat.and_le_right (by decide)
  · have h2 : (BitVec.ofInt 64 (c : Int)).toNat = c := by
      rw [BitVec.ofInt_natCast, BitVec.toNat_ofNat]; exact Nat.mod_eq_of_lt (by omega)
    have hcc : ∀ c : Nat, c < 32 → 31 &&& c = c := by decide
    have e : (BitVec.ofInt 64 x &&& BitVec.ofInt 64 (c : Int)).toNat = (BitVec.ofInt 64 x &&& 31#64).toNat &&& c := by
      rw [BitVec.toNat_and, BitVec.toNat_and, h2, Nat.and_assoc]
      rw [show (31#64 : BitVec 64).toNat &&& c = c from hcc c hc]
    have hlt : (BitVec.ofInt 64 x &&& 31#64).toNat &&& c < 32 := Nat.lt_of_le_of_lt Nat.and_le_right hc
    show IntKind.i64.wrap ((BitVec.ofInt 64 x &&& BitVec.ofInt 64 (c : Int)).toNat : Int) = _
    rw [e, IntKind.wrap_i64]
    omega
theorem flag_low (x : Int) : ∃ m : Nat, m < 32 ∧ (∀ c : Nat, c < 32 → flag x (c : Int) = (m &&& c != 0)) ∧ ∀ c : Nat, c < 32 → bits .and .i64 x (c : Int) = ((m &&& c : Nat) : Int) := by
  obtain ⟨m, hm, h⟩ := and_low x
  refine ⟨m, hm, fun c hc => ?_, h⟩
  unfold flag
  rw [h c hc]
  rcases hq : (m &&& c) with _ | n
  · rfl
  · rw [bne_iff_ne.2 (by omega), bne_iff_ne.2 (by omega)]
theorem nat18 : ∀ m : Nat, m < 32 → ((m &&& 18 : Nat) = 18 ↔ (((m &&& 2 != 0) && (m &&& 16 != 0)) = true)) := by decide
theorem nat23 : ∀ m : Nat, m < 32 → ((m &&& 23 : Nat) = 2 ↔ ((((m &&& 2 != 0) && !(m &&& 1 != 0)) && !(m &&& 4 != 0)) && !(m &&& 16 != 0)) = true) := by decide
theorem and18 (x : Int) : (bits .and .i64 x 18 != 18) = !(flag x 2 && flag x 16) := by
  obtain ⟨m, hm, hf, hb⟩ := flag_low x
  have h18 : bits .and .i64 x 18 = ((m &&& 18 : Nat) : Int) := hb 18 (by omega)
  have h2 : flag x 2 = (m &&& 2 != 0) := hf 2 (by omega)
  have h16 : flag x 16 = (m &&& 16 != 0) := hf 16 (by omega)
  rw [h18, h2, h16]
  have := nat18 m hm
  rcases hq : ((m &&& 2 != 0) && (m &&& 16 != 0)) with _ | _
  · rw [hq] at this
    rw [Bool.not_false, bne_iff_ne]
    intro e
    have e' : (m &&& 18 : Nat) = 18 := by omega
    exact absurd (this.1 e') (by decide)
  · rw [hq] at this
    rw [this.2 rfl]; rfl
theorem and23 (x : Int) : (bits .and .i64 x 23 != 2) = !((((flag x 2 && !flag x 1) && !flag x 4) && !flag x 16)) := by
  obtain ⟨m, hm, hf, hb⟩ := flag_low x
  have h23 : bits .and .i64 x 23 = ((m &&& 23 : Nat) : Int) := hb 23 (by omega)
  have h1 : flag x 1 = (m &&& 1 != 0) := hf 1 (by omega)
  have h2 : flag x 2 = (m &&& 2 != 0) := hf 2 (by omega)
  have h4 : flag x 4 = (m &&& 4 != 0) := hf 4 (by omega)
  have h16 : flag x 16 = (m &&& 16 != 0) := hf 16 (by omega)
  rw [h23, h1, h2, h4, h16]
  have := nat23 m hm
  rcases hq : ((((m &&& 2 != 0) && !(m &&& 1 != 0)) && !(m &&& 4 != 0)) && !(m &&& 16 != 0)) with _ | _
  · rw [hq] at this
    rw [Bool.not_false, bne_iff_ne]
    intro e
    have e' : (m &&& 23 : Nat) = 2 := by omega
    exact absurd (this.1 e') (by decide)
  · rw [hq] at this
    rw [this.2 rfl]; rfl
end Go.Proofs.Ytainkpgplmkiaaa.WinFlags
