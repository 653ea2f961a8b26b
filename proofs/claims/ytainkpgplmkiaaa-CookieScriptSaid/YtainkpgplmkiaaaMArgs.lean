/- How arguments read: slices of whole numbers, of structs, of slices, as lists; for the rows of the laws. No condition. -/
import Derived.Test.YtainkpgplmkiaaaProg
import Derived.Test.YtainkpgplmkiaaaWWords
import Derived.Test.YtainkpgplmkiaaaWSized
import Derived.SizedLaws
import Derived.ChangeSlices
import Derived.Deep.Slices
import Derived.Deep.Fields
import Derived.ChangeSame
import Derived.OpenShut
namespace Go.Proofs.Ytainkpgplmkiaaa.MArgs
open Go.RowKit Go.Proofs.YtainkpgplmkiaaaW.PrintWords Go.ChangeShapes Go.WideShapes Go.Deep

section
variable {H : Type} {enc : TypeId × Value → H} {P : Program} {W : World} {base : Nat}

/-- A slice of whole numbers that came in: the list of its numbers. -/
structure IntsIn (k : IntKind) (B : Nat) (W : World) (A : Option Addr) (c : Nat) (l : List Int) : Prop where
  room : l.length ≤ c
  max : l.length ≤ maxLen
  bytes : l.length * B ≤ 140737488351232
  wf : ∀ x ∈ l, (Lit.int k x).wf = true
  reads : ReadsInt W k A l.length l

theorem open_ints_in {t e : TypeId} {k : IntKind} {B : Nat} {r : Reach} {b0 : Nat} {v : Value} {d : DataW H} {ps : List MemPlace} {ts : List TypeId} {ds : List (DataW H)} {j : Nat}
    (ht : P.underlying t = some (.slice e)) (he : P.underlying e = some (.int k)) (hc : P.cellsOf e = 1) (hB : P.bytesOf e = B)
    (hv : Value.okWide P W r b0 t v) (h : DataW.Trod enc P W base (fun _ => true) true t v d ps)
    (hsz : (DataW.weightsEach P ts ds).all (· ≤ reachBytes) = true) (htj : ts[j]? = some t) (hd : ds[j]? = some d) :
    ∃ A c l, v = .slice A l.length c ∧ IntsIn k B W A c l := by
  obtain ⟨a, len, cap, rfl⟩ := okWide_slice ht hv
  have hbytes := sized_ints hsz htj hd ht he hc hB h
  obtain ⟨fuel, hf⟩ := h
  rcases open_ints ht he hc hf with ⟨hcs, _⟩ | ⟨x, l, c, zs, hcs, _, hl, hm, hz, _, hcell, hwz⟩
  · simp [Value.cells] at hcs
    obtain ⟨rfl, rfl, rfl⟩ := hcs
    exact ⟨none, 0, [], rfl, by simp, by simp, by simp, by simp, ReadsInt.nil _ _⟩
  · simp [Value.cells] at hcs
    obtain ⟨rfl, rfl, rfl⟩ := hcs
    have hz' : zs.length = cap := by simpa using hz
    have hlen : (zs.take len).length = len := by rw [List.length_take]; omega
    have hmx : maxLen = 9223372036854775807 := by simp [maxLen]
    refine ⟨some x, cap, zs.take len, by rw [hlen], by omega, by omega, by rw [hlen]; exact hbytes, fun n hn => hwz n (List.mem_of_mem_take hn), rfl, by omega, fun hp => ⟨x, rfl, fun i hi => ?_⟩⟩
    rw [hlen] at hi
    rw [hcell i (by omega)]
    simp [List.getD_eq_getElem?_getD, hi]

/-- What each index has, a list has. -/
theorem list_of {α : Type} {Q : Nat → α → Prop} : ∀ n, (∀ i, i < n → ∃ x, Q i x) → ∃ l : List α, l.length = n ∧ ∀ i x, l[i]? = some x → Q i x
  | 0, _ => ⟨[], rfl, fun i x h => by simp at h⟩
  | n + 1, h => by
    obtain ⟨l, hl, hq⟩ := list_of n (fun i hi => h i (by omega))
    obtain ⟨x, hx⟩ := h n (by omega)
    refine ⟨l ++ [x], by simp [hl], fun i y hy => ?_⟩
    rw [List.getElem?_append] at hy
    by_cases hi : i < l.length
    · rw [if_pos hi] at hy; exact hq i y hy
    · rw [if_neg hi] at hy
      obtain rfl : i = n := by
        rcases Nat.lt_or_ge (i - l.length) 1 with h1 | h1
        · omega
        · rw [List.getElem?_eq_none (by simpa using h1)] at hy; cases hy
      rw [hl, Nat.sub_self] at hy
      simp at hy
      subst hy; exact hx

/-- A slice that came in: its elements as a list, each element's cells as R says. -/
structure RowIn {α : Type} (R : α → List Value → Prop) (size B : Nat) (W : World) (A : Option Addr) (c : Nat) (l : List α) : Prop where
  room : l.length ≤ c
  bytes : l.length * B ≤ 140737488351232
  reads : ReadsRow R size W A l.length l

/-- One slice, read at some depth. -/
theorem row_of_trod {α : Type} {R : α → List Value → Prop} {t e : TypeId} {size : Nat} {fuel : Nat} {v : Value} {y : DataW H × List MemPlace}
    (ht : P.underlying t = some (.slice e)) (hc : P.cellsOf e = size)
    (hR : ∀ n cs y, DataW.trod enc P W base (fun _ => true) true n e cs = some y → ∃ x, R x cs)
    (hf : DataW.trod enc P W base (fun _ => true) true fuel t [v] = some y) :
    ∃ A c l, v = .slice A l.length c ∧ l.length ≤ c ∧ c ≤ maxLen ∧ ReadsRow R size W A l.length l ∧ (y.1 = .nil ∧ l = [] ∨ ∃ a b, y.1 = .slice a b ∧ l.length ≤ a.length + b.length) := by
  rcases open_slice ht hf with ⟨h0, hy⟩ | ⟨a, len, cap, m, n, D, Pl, hcs, _, hl, hm, hmm, hx, hi⟩
  · simp at h0
    subst h0
    exact ⟨none, 0, [], rfl, by simp, by simp, ⟨rfl, by simp, fun h => absurd h (by simp)⟩, .inl ⟨by rw [hy], rfl⟩⟩
  · simp at hcs
    subst hcs
    have hmx : maxLen = 9223372036854775807 := by simp [maxLen]
    have hm' : m = cap := by simpa using hmm
    obtain ⟨l, hll, hq⟩ := list_of (Q := fun i x => ∃ cs, cs.length = size ∧ R x cs ∧ ∀ j u, cs[j]? = some u → W.cell? (a.add (i * size + j)) = some u) len (fun i hil => by
      obtain ⟨cs', hcs, htr⟩ := hi i (by omega)
      obtain ⟨_, hcl, hat⟩ := World.cells?_some hcs
      obtain ⟨x, hx⟩ := hR _ _ _ htr
      rw [hc] at hcl hat
      refine ⟨x, cs', hcl, hx, fun j u hu => ?_⟩
      have hj : j < size := by
        rcases Nat.lt_or_ge j size with h1 | h1
        · exact h1
        · rw [List.getElem?_eq_none (by omega)] at hu; cases hu
      rw [← Go.Deep.add_add, hat j hj, hu])
    refine ⟨some a, cap, l, by rw [hll], by omega, by omega, ⟨rfl, by omega, fun hp => ⟨a, rfl, fun j p hp => hq j p hp⟩⟩, .inr ⟨_, _, by rw [hx], ?_⟩⟩
    simp; omega

theorem open_row_in {α : Type} {R : α → List Value → Prop} {t e : TypeId} {size B : Nat} {r : Reach} {b0 : Nat} {v : Value} {d : DataW H} {ps : List MemPlace} {ts : List TypeId} {ds : List (DataW H)} {j : Nat}
    (ht : P.underlying t = some (.slice e)) (hc : P.cellsOf e = size) (hB : P.bytesOf e = B)
    (hR : ∀ n cs y, DataW.trod enc P W base (fun _ => true) true n e cs = some y → ∃ x, R x cs)
    (hv : Value.okWide P W r b0 t v) (h : DataW.Trod enc P W base (fun _ => true) true t v d ps)
    (hsz : (DataW.weightsEach P ts ds).all (· ≤ reachBytes) = true) (htj : ts[j]? = some t) (hd : ds[j]? = some d) :
    ∃ A c l, v = .slice A l.length c ∧ RowIn R size B W A c l := by
  obtain ⟨a, len, cap, rfl⟩ := okWide_slice ht hv
  obtain ⟨fuel, hf⟩ := h
  obtain ⟨A, c, l, he, h1, _, h3, h4⟩ := row_of_trod ht hc hR (by simpa [Value.cells] using hf)
  refine ⟨A, c, l, he, h1, ?_, h3⟩
  rcases h4 with ⟨_, rfl⟩ | ⟨x, y, hx, hl⟩
  · simp
  · simp only at hx
    subst hx
    have z := sized_slice hsz htj hd ht
    rw [hB] at z
    exact Nat.le_trans (Nat.mul_le_mul_right _ hl) z

/-- A struct of one-cell fields, read: each field by itself. -/
theorem struct_cells {t : TypeId} {fs : Array Field} {n : Nat} {cs : List Value} {y : DataW H × List MemPlace} (ht : P.underlying t = some (.struct fs)) (hone : oneCellFields P fs = true)
    (h : DataW.trod enc P W base (fun _ => true) true n t cs = some y) :
    cs.length = P.cellsOf t ∧ ∀ (j : Nat) (f : Field), fs[j]? = some f → ∀ u, cs[j]? = some u → ∃ m z, DataW.trod enc P W base (fun _ => true) true m f.type [u] = some z := by
  obtain ⟨xs, m, _, _, hl, hx, hf⟩ := DataW.trod_struct ht h
  refine ⟨hl, fun j f hj u hu => ?_⟩
  obtain ⟨ho, hk⟩ := hone_of hone j f hj
  have e := hf j f hj
  have hjl : j < fs.size := (Array.getElem?_eq_some_iff.1 hj).1
  have hul : j < cs.length := (List.getElem?_eq_some_iff.1 hu).1
  have huv : cs[j] = u := (List.getElem?_eq_some_iff.1 hu).2
  rw [ho, hk, List.drop_eq_getElem_cons hul, huv, List.getElem?_eq_getElem (by omega)] at e
  exact ⟨m, _, e⟩
theorem one_int {t : TypeId} {k : IntKind} {n : Nat} {u : Value} {y : DataW H × List MemPlace} (ht : P.underlying t = some (.int k)) (h : DataW.trod enc P W base (fun _ => true) true n t [u] = some y) :
    ∃ x, u = .int k x ∧ (Lit.int k x).wf = true := by
  obtain ⟨x, hx, _, wx⟩ := DataW.trod_int ht h
  exact ⟨x, (List.cons.inj hx).1, wx⟩
theorem one_string {t : TypeId} {n : Nat} {u : Value} {y : DataW H × List MemPlace} (ht : P.underlying t = some .string) (h : DataW.trod enc P W base (fun _ => true) true n t [u] = some y) :
    ∃ x, u = .string x ∧ x.size ≤ maxLen := by
  obtain ⟨x, hx, _, wx⟩ := DataW.trod_string ht h
  exact ⟨x, (List.cons.inj hx).1, wx⟩
theorem one_bool {t : TypeId} {n : Nat} {u : Value} {y : DataW H × List MemPlace} (ht : P.underlying t = some .bool) (h : DataW.trod enc P W base (fun _ => true) true n t [u] = some y) :
    ∃ x, u = .bool x := by
  obtain ⟨x, hx, _⟩ := DataW.trod_bool ht h
  exact ⟨x, (List.cons.inj hx).1⟩

/-- The cells of the element at k. -/
theorem RowIn.at_ {α : Type} {R : α → List Value → Prop} {size B c : Nat} {A : Option Addr} {l : List α} (h : RowIn R size B W A c l) {k : Nat} {x : α} (hk : l[k]? = some x) :
    ∃ ad cs, A = some ad ∧ R x cs ∧ ∀ j u, cs[j]? = some u → W.cell? (ad.add (k * size + j)) = some u := by
  have hlt : k < l.length := (List.getElem?_eq_some_iff.1 hk).1
  obtain ⟨ad, e, hc⟩ := h.reads.2.2 (by omega)
  obtain ⟨cs, _, hr, hcell⟩ := hc k x hk
  exact ⟨ad, cs, e, hr, hcell⟩
theorem IntsIn.at_ {k : IntKind} {B c : Nat} {A : Option Addr} {l : List Int} (h : IntsIn k B W A c l) {i : Nat} {x : Int} (hk : l[i]? = some x) :
    ∃ ad, A = some ad ∧ W.cell? (ad.add i) = some (.int k x) ∧ (Lit.int k x).wf = true := by
  have hlt : i < l.length := (List.getElem?_eq_some_iff.1 hk).1
  obtain ⟨ad, e, hc⟩ := h.reads.2.2 (by omega)
  have := hc i hlt
  rw [List.getD_eq_getElem?_getD, hk] at this
  exact ⟨ad, e, this, h.wf x (List.mem_of_getElem? hk)⟩
end
end Go.Proofs.Ytainkpgplmkiaaa.MArgs
