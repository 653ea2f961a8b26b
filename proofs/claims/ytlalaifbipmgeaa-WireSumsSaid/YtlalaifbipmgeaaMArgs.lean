/- How arguments read: a slice of whole numbers, a slice of structs of one-cell fields, as lists; for the rows of the laws. No condition. -/
import Derived.Test.YtlalaifbipmgeaaProg
import Derived.Test.YtlalaifbipmgeaaWWords
import Derived.Test.YtlalaifbipmgeaaWSized
import Derived.SizedLaws
import Derived.ChangeSlices
import Derived.Deep.Slices
import Derived.Deep.Fields
import Derived.ChangeSame
import Derived.OpenShut
namespace Go.Proofs.Ytlalaifbipmgeaa.MArgs
open Go.RowKit Go.Proofs.YtlalaifbipmgeaaW.PrintWords Go.ChangeShapes Go.WideShapes Go.Deep

section
variable {H : Type} {enc : TypeId × Value → H} {P : Program} {W : World} {base : Nat}

/-- A slice of whole numbers that came in: the list of its numbers. -/
structure IntsIn (k : IntKind) (B : Nat) (W : World) (A : Option Addr) (c : Nat) (l : List Int) : Prop where
  room : l.length ≤ c
  max : l.length ≤ maxLen
  bytes : l.length * B ≤ 140737488351232
  wf : ∀ x ∈ l, (Lit.int k x).wf = true
  reads : ReadsInt W k A l.length l

theorem open_ints_in {t e : TypeId} {k : IntKind} {B : Nat} {r : Reach} {b0 : Nat} {v : Value} {d : DataW H} {ps : List MemPlace} {ts : List TypeId} {ds : List (DataW H)} {j : Nat}
    (ht : P.underlying t = some (.slice e)) (he : P.underlying e = some (.int k)) (hc : P.cellsOf e = 1) (hB : P.bytesOf e = B)
    (hv : Value.okWide P W r b0 t v) (h : DataW.Trod enc P W base (fun _ => true) true t v d ps)
    (hsz : (DataW.weightsEach P ts ds).all (· ≤ reachBytes) = true) (htj : ts[j]? = some t) (hd : ds[j]? = some d) :
    ∃ A c l, v = .slice A l.length c ∧ IntsIn k B W A c l := by
  obtain ⟨a, len, cap, rfl⟩ := okWide_slice ht hv
  have hbytes := sized_ints hsz htj hd ht he hc hB h
  obtain ⟨fuel, hf⟩ := h
  rcases open_ints ht he hc hf with ⟨hcs, _⟩ | ⟨x, l, c, zs, hcs, _, hl, hm, hz, _, hcell, hwz⟩
  · simp [Value.cells] at hcs
    obtain ⟨rfl, rfl, rfl⟩ := hcs
    exact ⟨none, 0, [], rfl, by simp, by simp, by simp, by simp, ReadsInt.nil _ _⟩
  · simp [Value.cells] at hcs
    obtain ⟨rfl, rfl, rfl⟩ := hcs
    have hz' : zs.length = cap := by simpa using hz
    have hlen : (zs.take len).length = len := by rw [List.length_take]; omega
    have hmx : maxLen = 9223372036854775807 := by simp [maxLen]
    refine ⟨some x, cap, zs.take len, by rw [hlen], by omega, by omega, by rw [hlen]; exact hbytes, fun n hn => hwz n (List.mem_of_mem_take hn), rfl, by omega, fun hp => ⟨x, rfl, fun i hi => ?_⟩⟩
    rw [hlen] at hi
    rw [hcell i (by omega)]
    simp [List.getD_eq_getElem?_getD, hi]
end
end Go.Proofs.Ytlalaifbipmgeaa.MArgs
