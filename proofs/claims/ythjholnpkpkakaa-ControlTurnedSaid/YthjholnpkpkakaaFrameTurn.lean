/- The plain law of control's frames, third part: one byte turned, cut short, going on. No program in sight. -/
import Derived.Test.YthjholnpkpkakaaFrameBack
namespace Go.Proofs.Ythjholnpkpkakaa.FrameLaws
open Go.RowKit Go.Proofs.YthjholnpkpkakaaW.PrintWords Go.Proofs.YthjholnpkpkakaaW.PrintMore Go.Proofs.Ythjholnpkpkakaa.PControlFrames
set_option linter.unusedVariables false

theorem sum_set : ∀ (l : List Int) (k : Nat) (v : Int), k < l.length → (l.set k v).sum = l.sum - l.getD k 0 + v
  | [], k, v, h => absurd h (by simp)
  | a :: l, 0, v, h => by simp; omega
  | a :: l, k + 1, v, h => by
    have := sum_set l k v (by simpa using h)
    simp only [List.set_cons_succ, List.sum_cons, List.getD_cons_succ, this]
    omega
theorem getD_set_ne (l : List Int) (k j : Nat) (v : Int) (h : k ≠ j) : (l.set k v).getD j 0 = l.getD j 0 := by
  rw [List.getD_eq_getElem?_getD, List.getD_eq_getElem?_getD, List.getElem?_set_ne h]
theorem getD_set_self (l : List Int) (k : Nat) (v : Int) (h : k < l.length) : (l.set k v).getD k 0 = v := by
  rw [List.getD_eq_getElem?_getD, List.getElem?_set_self h]; rfl
theorem getD_take (l : List Int) (n k : Nat) (h : k < n) : (l.take n).getD k 0 = l.getD k 0 := by
  rw [List.getD_eq_getElem?_getD, List.getD_eq_getElem?_getD, List.getElem?_take_of_lt h]
theorem set_self (l : List Int) (k : Nat) (h : k < l.length) : l.set k (l.getD k 0) = l := by
  apply List.ext_getElem?
  intro i
  by_cases hi : k = i
  · subst hi
    rw [List.getElem?_set_self h, List.getD_eq_getElem?_getD, List.getElem?_eq_getElem h]; rfl
  · rw [List.getElem?_set_ne hi]

/-- The byte at k goes on by b. -/
def turned (xs : List Int) (k : Nat) (b : Int) : List Int := xs.set k ((xs.getD k 0 + b) % 256)
theorem turned_length (xs : List Int) (k : Nat) (b : Int) : (turned xs k b).length = xs.length := by simp [turned]
theorem turned_byt {xs : List Int} (h : Byt xs) (k : Nat) (b : Int) : Byt (turned xs k b) := by
  intro x hx
  rcases List.mem_or_eq_of_mem_set hx with h1 | h1
  · exact h x h1
  · omega
theorem turned_back {xs : List Int} (h : Byt xs) (k : Nat) (hk : k < xs.length) (b : Int) : (turned xs k b).set k (((turned xs k b).getD k 0 - b) % 256) = xs := by
  have hx : 0 ≤ xs.getD k 0 ∧ xs.getD k 0 < 256 := by
    rw [List.getD_eq_getElem?_getD, List.getElem?_eq_getElem hk]; exact h _ (List.getElem_mem hk)
  unfold turned
  rw [getD_set_self _ _ _ hk, List.set_set, show ((xs.getD k 0 + b) % 256 - b) % 256 = xs.getD k 0 by omega]
  exact set_self xs k hk
theorem turned_zero {xs : List Int} (h : Byt xs) (k : Nat) (hk : k < xs.length) : turned xs k 0 = xs := by
  have hx : 0 ≤ xs.getD k 0 ∧ xs.getD k 0 < 256 := by
    rw [List.getD_eq_getElem?_getD, List.getElem?_eq_getElem hk]; exact h _ (List.getElem_mem hk)
  unfold turned
  rw [show (xs.getD k 0 + 0) % 256 = xs.getD k 0 by omega]
  exact set_self xs k hk
/-- A frame of which a byte behind its length is another one is none. -/
theorem turned_fr {xs : List Int} (hb : Byt xs) (h : Fr xs) (k : Nat) (h2 : 2 ≤ k) (hk : k < xs.length) (b : Int) (b0 : 0 < b) (b1 : b < 256) : ¬ Fr (turned xs k b) := by
  intro h'
  obtain ⟨_, _, _, hs⟩ := h
  obtain ⟨_, _, _, hs'⟩ := h'
  rw [turned_length] at hs'
  by_cases hl : k = xs.length - 1
  · have e : (turned xs k b).take (xs.length - 1) = xs.take (xs.length - 1) := by
      unfold turned
      rw [hl, List.take_set, List.set_eq_of_length_le (by rw [List.length_take]; omega)]
    rw [e, hs, ← hl] at hs'
    unfold turned at hs'
    rw [getD_set_self _ _ _ hk] at hs'
    have hx : 0 ≤ xs.getD k 0 ∧ xs.getD k 0 < 256 := by
      rw [List.getD_eq_getElem?_getD, List.getElem?_eq_getElem hk]; exact hb _ (List.getElem_mem hk)
    omega
  · have e : (turned xs k b).take (xs.length - 1) = (xs.take (xs.length - 1)).set k ((xs.getD k 0 + b) % 256) := by
      unfold turned
      rw [List.take_set]
    have e2 : (turned xs k b).getD (xs.length - 1) 0 = xs.getD (xs.length - 1) 0 := by
      unfold turned
      exact getD_set_ne _ _ _ _ hl
    rw [e, e2, sum_set _ _ _ (by rw [List.length_take]; omega), getD_take _ _ _ (by omega), ← hs] at hs'
    have hx : 0 ≤ xs.getD k 0 ∧ xs.getD k 0 < 256 := by
      rw [List.getD_eq_getElem?_getD, List.getElem?_eq_getElem hk]; exact hb _ (List.getElem_mem hk)
    omega
/-- A frame that is cut short is none. -/
theorem short_fr {xs : List Int} (h : Fr xs) (k : Nat) (hk : k < xs.length) : ¬ Fr (xs.take k) := by
  intro h'
  obtain ⟨_, _, hw, _⟩ := h
  obtain ⟨h7, _, hw', _⟩ := h'
  have hl : (xs.take k).length = k := by rw [List.length_take]; omega
  rw [hl] at h7 hw'
  rw [getD_take _ _ _ (by omega), getD_take _ _ _ (by omega)] at hw'
  omega
/-- A frame that goes on is none. -/
theorem long_fr {xs ys : List Int} (h : Fr xs) (hy : ys ≠ []) : ¬ Fr (xs ++ ys) := by
  intro h'
  obtain ⟨h7, _, hw, _⟩ := h
  obtain ⟨_, _, hw', _⟩ := h'
  have g (i : Nat) (hi : i < xs.length) : (xs ++ ys).getD i 0 = xs.getD i 0 := by
    rw [List.getD_eq_getElem?_getD, List.getD_eq_getElem?_getD, List.getElem?_append_left hi]
  rw [g 0 (by omega), g 1 (by omega), List.length_append] at hw'
  have := List.length_pos_iff.2 hy
  omega
end Go.Proofs.Ythjholnpkpkakaa.FrameLaws
