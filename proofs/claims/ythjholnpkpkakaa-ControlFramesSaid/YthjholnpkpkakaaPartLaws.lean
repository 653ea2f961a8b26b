/- The plain law of the reference's Part and Numbers: what they tell, as lists. -/
import Derived.Test.YthjholnpkpkakaaFrameLaws
import Derived.Test.YthjholnpkpkakaaParts
import Derived.Test.YthjholnpkpkakaaNumbers
namespace Go.Proofs.Ythjholnpkpkakaa.PartLaws
open Go.RowKit Go.Proofs.YthjholnpkpkakaaW.PrintWords Go.Proofs.YthjholnpkpkakaaW.PrintMore Go.Proofs.Ythjholnpkpkakaa.PControlFrames Go.Proofs.Ythjholnpkpkakaa.FrameLaws Go.Proofs.Ythjholnpkpkakaa.Parts Go.Proofs.Ythjholnpkpkakaa.Numbers
set_option linter.unusedVariables false

theorem ref_part (xs : List Int) (f m : Int) (hl : xs.length < 100000000) (hm : -9223372036854775808 ≤ m ∧ m ≤ 9223372036854775807) : sallyportref20_Part.f xs f m = some (cutB xs f m) := by
  unfold sallyportref20_Part.f cutB
  simp only [Option.bind_some]
  by_cases h1 : f < 0
  · rw [if_pos h1, if_pos (.inl h1)]
  rw [if_neg h1]
  by_cases h2 : m < 0
  · rw [if_pos h2, if_pos (.inr (.inl h2))]
  rw [if_neg h2]
  by_cases h3 : f ≥ (xs.length : Int)
  · rw [if_pos h3, if_pos (.inr (.inr h3))]
  rw [if_neg h3, if_pos (show 0 ≤ f by omega)]
  have hw : wrap64 ((xs.length : Int) - f) = (xs.length : Int) - f := wrap_of (by omega) (by omega)
  rw [hw]
  have hmn : 0 ≤ mn m ((xs.length : Int) - f) ∧ mn m ((xs.length : Int) - f) ≤ (xs.length : Int) - f ∧ (mn m ((xs.length : Int) - f) = m ∨ (mn m ((xs.length : Int) - f) = (xs.length : Int) - f ∧ (xs.length : Int) - f ≤ m)) := by
    unfold mn; split <;> omega
  generalize mn m ((xs.length : Int) - f) = z at *
  have hw2 : wrap64 (f + z) = f + z := wrap_of (by omega) (by omega)
  rw [hw2, if_pos (by omega), if_pos (by omega), if_pos (by simp; omega), if_neg (by omega)]
  simp only [List.nil_append]
  congr 1
  rw [List.drop_take]
  have : (f + z).toNat - f.toNat = z.toNat := by omega
  rw [this]
  rcases hmn.2.2 with e | ⟨e, hle⟩
  · rw [e]
  · rw [e, List.take_of_length_le (by simp; omega), List.take_of_length_le (by simp; omega)]

theorem shr_of (x : Int) (j : Nat) (hj : j ≤ 63) : shr .i64 x (j : Int) = x / 2 ^ j := by
  unfold shr
  rw [Int.toNat_natCast, Nat.min_eq_left (by simp [IntKind.bits]; omega)]
theorem ref_inner (xs : List Int) (hl : xs.length ≤ 4096) (i : Nat) (hi : i < xs.length) : ∀ (j : Nat) (k : Nat) (acc : List Int), j ≤ 8 → acc.length + j ≤ 100000 → j < k →
    sallyportref20_Numbers.l1 k xs acc i ((j : Int) - 1) = sallyportref20_Numbers.l0 (k - j - 1) xs (acc ++ ((List.range j).reverse.map fun q => (xs.getD i 0 / 2 ^ (8 * q)) % 256)) ((i : Int) + 1)
  | 0, k, acc, _, _, hk => by
    obtain ⟨k, rfl⟩ : ∃ m, k = m + 1 := ⟨k - 1, by omega⟩
    simp only [sallyportref20_Numbers.l1]
    rw [if_neg (by omega), wrap_of (by omega) (by omega)]
    simp
  | j + 1, k, acc, hj, ha, hk => by
    obtain ⟨k, rfl⟩ : ∃ m, k = m + 1 := ⟨k - 1, by omega⟩
    simp only [sallyportref20_Numbers.l1]
    have e1 : ((j + 1 : Nat) : Int) - 1 = (j : Int) := by omega
    rw [e1]
    have w1 : wrap64 (8 * (j : Int)) = 8 * (j : Int) := by unfold wrap64; omega
    have w2 : wrap64 ((j : Int) - 1) = (j : Int) - 1 := by unfold wrap64; omega
    rw [if_pos (show (j : Int) ≥ 0 by omega), if_pos (show 0 ≤ (i : Int) by omega), if_pos (show (i : Int) < xs.length by omega), w1, if_pos (by omega), if_pos (by omega), w2]
    have e2 : (8 * (j : Int)) = ((8 * j : Nat) : Int) := by omega
    rw [e2, shr_of _ _ (by omega)]
    rw [ref_inner xs hl i hi j k (acc ++ [(rd xs i / 2 ^ (8 * j)) % 256]) (by omega) (by simp; omega) (by omega)]
    rw [List.range_succ, List.reverse_append, List.map_append, ← List.append_assoc]
    have e3 : k - j - 1 = k + 1 - (j + 1) - 1 := by omega
    rw [e3]
    simp [rd, List.append_assoc]
theorem bytes8_eq (n : Int) : ((List.range 8).reverse.map fun q => (n / 2 ^ (8 * q)) % 256) = bytes8 n := by
  simp only [bytes8, List.map_cons, List.map_nil, show (List.range 8).reverse = [7, 6, 5, 4, 3, 2, 1, 0] from rfl, Nat.reduceMul]
theorem ref_outer (xs : List Int) (hl : xs.length ≤ 4096) : ∀ (d i : Nat) (k : Nat) (acc : List Int), d + i = xs.length → acc.length ≤ 8 * i → 10 * d + 1 ≤ k →
    sallyportref20_Numbers.l0 k xs acc i = some (acc ++ numbers (xs.drop i))
  | 0, i, k, acc, hd, ha, hk => by
    obtain ⟨k, rfl⟩ : ∃ m, k = m + 1 := ⟨k - 1, by omega⟩
    simp only [sallyportref20_Numbers.l0]
    rw [if_neg (by omega), List.drop_eq_nil_of_le (by omega)]
    simp [numbers]
  | d + 1, i, k, acc, hd, ha, hk => by
    obtain ⟨k, rfl⟩ : ∃ m, k = m + 1 := ⟨k - 1, by omega⟩
    simp only [sallyportref20_Numbers.l0]
    rw [if_pos (by omega)]
    have := ref_inner xs hl i (by omega) 8 k acc (by omega) (by omega) (by omega)
    rw [show ((8 : Nat) : Int) - 1 = 7 from rfl, bytes8_eq] at this
    rw [this]
    have e : (i : Int) + 1 = ((i + 1 : Nat) : Int) := by omega
    rw [e, ref_outer xs hl d (i + 1) (k - 8 - 1) _ (by omega) (by simp [bytes8_length]; omega) (by omega)]
    have hg : xs.getD i 0 = xs[i] := by simp [List.getD_eq_getElem?_getD, show i < xs.length by omega]
    rw [List.drop_eq_getElem_cons (show i < xs.length by omega), hg, List.append_assoc]
    rfl
theorem ref_numbers (xs : List Int) (hl : xs.length ≤ 4096) : ∃ k, sallyportref20_Numbers.f k xs = some (numbers xs) := by
  refine ⟨10 * xs.length + 1, ?_⟩
  unfold sallyportref20_Numbers.f
  have := ref_outer xs hl xs.length 0 (10 * xs.length + 1) [] (by omega) (by simp) (by omega)
  simpa using this
end Go.Proofs.Ythjholnpkpkakaa.PartLaws
