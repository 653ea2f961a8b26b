/- The hash of bytes in plain Lean. No condition. -/
import Derived.Test.YtainkpgplmkiaaaCook
namespace Go.Proofs.Ytainkpgplmkiaaa.HashDef
open Go Go.RowKit Go.Proofs.YtainkpgplmkiaaaW.PrintWords Go.Proofs.YtainkpgplmkiaaaW.PrintLast Go.Proofs.YtainkpgplmkiaaaW.PrintMore Go.Proofs.Ytainkpgplmkiaaa.Cook
set_option linter.unusedVariables false
/-- The first j bytes as a number. -/
def lowp (l : List Int) : Nat → Int
  | 0 => 0
  | j + 1 => bits .or .u64 (lowp l j) (IntKind.u64.wrap (IntKind.u64.wrap (rd l j) * 2 ^ min (8 * j) 64))
def lowm (l : List Int) : Int := lowp l l.length
def chunks (v : V4) (l : List Int) : Nat → V4
  | 0 => v
  | j + 1 => tk (chunks v l j) (lowm ((l.drop (8 * j)).take 8))
/-- what a hash does from its first four numbers on -/
def hsh1 (v : V4) (l : List Int) (en : Int) : Int :=
  let v2 := tk (chunks v l (l.length / 8)) (bits .or .u64 (lowm (l.drop (8 * (l.length / 8)))) en)
  let v3 := rnd (rnd (rnd (rnd ⟨v2.a, v2.b, bits .xor .u64 v2.c 255, v2.d⟩)))
  bits .xor .u64 (bits .xor .u64 (bits .xor .u64 v3.a v3.b) v3.c) v3.d
def hsh (sa sb : Int) (l : List Int) : Int := hsh1 ⟨bits .xor .u64 sa 8317987319222330741, bits .xor .u64 sb 7237128888997146477, bits .xor .u64 sa 7816392313619706465, bits .xor .u64 sb 8387220255154660723⟩ l (IntKind.u64.wrap (IntKind.u64.wrap (l.length : Int) * 72057594037927936))
theorem lowp_take (l : List Int) (m : Nat) : ∀ j, j ≤ m → m ≤ l.length → lowp (l.take m) j = lowp l j
  | 0, _, _ => rfl
  | j + 1, h, hm => by
    rw [lowp, lowp, lowp_take l m j (by omega) hm]
    have e : rd (l.take m) j = rd l j := by
      unfold rd
      simp only [Int.toNat_natCast, List.getD_eq_getElem?_getD]
      rw [List.getElem?_take_of_lt (by omega)]
    rw [e]
theorem lowm_take (l : List Int) (m : Nat) (hm : m ≤ l.length) : lowm (l.take m) = lowp l m := by
  unfold lowm
  rw [List.length_take, Nat.min_eq_left hm]
  exact lowp_take l m m (Nat.le_refl _) hm
theorem rd_drop (l : List Int) (a j : Nat) : rd (l.drop a) j = rd l ((a + j : Nat) : Int) := by
  unfold rd
  simp only [Int.toNat_natCast, List.getD_eq_getElem?_getD, List.getElem?_drop]
end Go.Proofs.Ytainkpgplmkiaaa.HashDef
