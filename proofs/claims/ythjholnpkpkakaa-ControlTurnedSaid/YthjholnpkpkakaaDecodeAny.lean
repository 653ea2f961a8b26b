/- control.Decode at whatever bytes: what it says of them, in one contract. No condition but the sizes. -/
import Derived.Test.YthjholnpkpkakaaTheirs
namespace Go.Proofs.Ythjholnpkpkakaa.DecodeAny
open Go.RowKit Go.Proofs.YthjholnpkpkakaaW.PrintWords Go.Proofs.Ythjholnpkpkakaa.FrameLaws Go.Proofs.Ythjholnpkpkakaa.Parts Go.Proofs.Ythjholnpkpkakaa.Decode
/-- What Decode says of these bytes: 0, if they are a frame, else 200. -/
def Says (xs : List Int) (m : Int) : Prop := (Fr xs → m = 0) ∧ (¬ Fr xs → m = 200)
theorem says_ex (xs : List Int) : ∃ m, Says xs m := by
  by_cases h : Fr xs
  · exact ⟨0, fun _ => rfl, fun g => absurd h g⟩
  · exact ⟨200, fun g => absurd g h, fun _ => rfl⟩
def DecPost (m : Int) (w : World) (e : Ending) (w' : World) : Prop :=
  ∃ (a b d : Int) (A : Option Addr) (n c : Nat), e = .returned (.tuple #[.agg #[.int .i64 a, .int .i64 b, .int .i64 d, .slice A n c], .int .i64 m]) ∧ Below w.heap.size w w'
theorem decode_any (A : Option Addr) (n c : Nat) (xs : List Int) (w : World) (hr : Bs w A xs) (hn : n = xs.length) (hc : xs.length ≤ c) (hb : Byt xs) (m : Int) (hm : Says xs m) :
    Calls Try.prog 31 #[.slice A n c] w (DecPost m w) := by
  subst hn
  by_cases h : Fr xs
  · obtain rfl := hm.1 h
    refine (decode_good A c xs w hr hc hb h).mono ?_
    rintro e w' ⟨v, rfl, ho, hbl⟩
    obtain ⟨A', c', rfl, _, _⟩ := Kd.R_reads ho
    exact ⟨_, _, _, _, _, _, rfl, hbl⟩
  · obtain rfl := hm.2 h
    refine (decode_bad A c xs w hr hc hb h).mono ?_
    rintro e w' ⟨rfl, hbl⟩
    exact ⟨0, 0, 0, none, 0, 0, rfl, hbl⟩
end Go.Proofs.Ythjholnpkpkakaa.DecodeAny
