/- A frame, or bytes, handed in: opened for the rows. No condition. -/
import Derived.Test.YthjholnpkpkakaaMArgs
import Derived.Test.YthjholnpkpkakaaFrameLaws
namespace Go.Proofs.Ythjholnpkpkakaa.FrameArg
open Go.RowKit Go.Proofs.YthjholnpkpkakaaW.PrintWords Go.ChangeShapes Go.WideShapes Go.Deep Go.Proofs.Ythjholnpkpkakaa.MArgs Go.Proofs.Ythjholnpkpkakaa.FrameLaws

/-- A slice of bytes that came in. -/
structure BytesIn (W : World) (A : Option Addr) (c : Nat) (l : List Int) : Prop where
  room : l.length ≤ c
  max : l.length ≤ 9223372036854775807
  byt : Byt l
  reads : Kd.C (Kd.int .u8) W A l.length l
theorem byt_of_wf {l : List Int} (h : ∀ x ∈ l, (Lit.int .u8 x).wf = true) : Byt l := fun x hx => by have := bounds_u8 (h x hx); omega
theorem IntsIn.bytes' {W : World} {A : Option Addr} {c : Nat} {l : List Int} (h : IntsIn .u8 1 W A c l) : BytesIn W A c l :=
  ⟨h.room, by have := h.max; simpa [maxLen] using this, byt_of_wf h.wf, Kd.C_of_reads (d := (0 : Int)) (h1 := fun _ => rfl) h.reads⟩

theorem four_of {α : Type} : ∀ {l : List α}, l.length = 4 → ∃ a b c d, l = [a, b, c, d]
  | [a, b, c, d], _ => ⟨a, b, c, d, rfl⟩
variable {H : Type} {enc : TypeId × Value → H} {W : World} {base : Nat}
theorem bytes_of_trod {fuel : Nat} {u : Value} {y : DataW H × List MemPlace} (hf : DataW.trod enc Try.prog W base (fun _ => true) true fuel 32 [u] = some y) :
    ∃ A c l, u = .slice A l.length c ∧ BytesIn W A c l := by
  rcases open_ints Try.underlying32 Try.underlying5 (by kernel_rfl) hf with ⟨hcs, _⟩ | ⟨x, l, c, zs, hcs, _, hl, hm, hz, _, hcell, hwz⟩
  · obtain rfl : u = .slice none 0 0 := by simpa using hcs
    exact ⟨none, 0, [], rfl, by simp, by simp, fun x hx => by simp at hx, Kd.C_of_reads (d := (0 : Int)) (h1 := fun _ => rfl) (ReadsInt.nil _ _)⟩
  · obtain rfl : u = .slice (some x) l c := by simpa using hcs
    have hz' : zs.length = c := by simpa using hz
    have hlen : (zs.take l).length = l := by rw [List.length_take]; omega
    have hmx : maxLen = 9223372036854775807 := by simp [maxLen]
    refine ⟨some x, c, zs.take l, by rw [hlen], by omega, by omega, byt_of_wf (fun n hn => hwz n (List.mem_of_mem_take hn)), Kd.C_of_reads (d := (0 : Int)) (h1 := fun _ => rfl) ⟨rfl, by omega, fun hp => ⟨x, rfl, fun i hi => ?_⟩⟩⟩
    rw [hlen] at hi
    rw [hcell i (by omega)]
    simp [List.getD_eq_getElem?_getD, hi]

set_option maxRecDepth 100000 in
theorem open_aggframe {r : Reach} {b0 : Nat} {v : Value} {d : DataW H} {ps : List MemPlace} {ts : List TypeId} {ds : List (DataW H)} {j : Nat}
    (hv : Value.okWide Try.prog W r b0 59 v) (h : DataW.Trod enc Try.prog W base (fun _ => true) true 59 v d ps)
    (hsz : (DataW.weightsEach Try.prog ts ds).all (· ≤ reachBytes) = true) (htj : ts[j]? = some 59) (hd : ds[j]? = some d) :
    ∃ (p q s : Int) (A : Option Addr) (c : Nat) (l : List Int), v = .agg #[.int .i64 p, .int .i64 q, .int .i64 s, .slice A l.length c] ∧ BytesIn W A c l := by
  obtain ⟨cs, rfl, hsize⟩ := okWide_struct Try.underlying59 hv
  obtain ⟨fuel, hf⟩ := h
  obtain ⟨hl, hfield⟩ := struct_cells Try.underlying59 (by kernel_rfl) hf
  have h4 : Try.prog.cellsOf 59 = 4 := by kernel_rfl
  rw [h4] at hl hsize
  have hc : (Value.agg cs).cells.toList = cs.toList := rfl
  rw [hc] at hfield hl
  obtain ⟨u0, u1, u2, u3, hu⟩ := four_of hl
  rw [hu] at hfield
  obtain ⟨_, _, f0⟩ := hfield 0 _ rfl u0 rfl
  obtain ⟨_, _, f1⟩ := hfield 1 _ rfl u1 rfl
  obtain ⟨_, _, f2⟩ := hfield 2 _ rfl u2 rfl
  obtain ⟨_, _, f3⟩ := hfield 3 _ rfl u3 rfl
  obtain ⟨p, rfl, _⟩ := one_int Try.underlying3 f0
  obtain ⟨q, rfl, _⟩ := one_int Try.underlying3 f1
  obtain ⟨s, rfl, _⟩ := one_int Try.underlying3 f2
  obtain ⟨A, c, l, rfl, hb⟩ := bytes_of_trod f3
  refine ⟨p, q, s, A, c, l, ?_, hb⟩
  congr 1
  exact Array.toList_inj.1 hu
end Go.Proofs.Ythjholnpkpkakaa.FrameArg
