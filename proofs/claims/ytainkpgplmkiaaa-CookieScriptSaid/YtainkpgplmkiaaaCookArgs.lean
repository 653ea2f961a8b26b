/- Secrets and keys handed in: opened for the rows. No condition. -/
import Derived.Test.YtainkpgplmkiaaaMArgs
import Derived.Deep.MidRow
namespace Go.Proofs.Ytainkpgplmkiaaa.CookArgs
open Go Go.RowKit Go.Proofs.YtainkpgplmkiaaaW.PrintWords Go.ChangeShapes Go.WideShapes Go.Deep Go.Proofs.Ytainkpgplmkiaaa.MArgs
set_option linter.unusedVariables false
theorem list_two {α : Type} : ∀ {l : List α}, l.length = 2 → ∃ u0 u1, l = [u0, u1]
  | [u0, u1], _ => ⟨u0, u1, rfl⟩
variable {H : Type} {enc : TypeId × Value → H} {W : World} {base : Nat}
set_option maxRecDepth 100000 in
theorem sec_of_trod {n : Nat} {cs : List Value} {y : DataW H × List MemPlace} (h : DataW.trod enc Try.prog W base (fun _ => true) true n 24 cs = some y) : ∃ a b : Int, cs = [.int .u64 a, .int .u64 b] := by
  obtain ⟨hl, hf⟩ := struct_cells Try.underlying24 (by kernel_rfl) h
  have hc : Try.prog.cellsOf 24 = 2 := by kernel_rfl
  rw [hc] at hl
  obtain ⟨u0, u1, rfl⟩ := list_two hl
  obtain ⟨_, _, f0⟩ := hf 0 _ rfl u0 rfl
  obtain ⟨_, _, f1⟩ := hf 1 _ rfl u1 rfl
  obtain ⟨x0, rfl, w0⟩ := one_int Try.underlying22 f0
  obtain ⟨x1, rfl, w1⟩ := one_int Try.underlying22 f1
  exact ⟨x0, x1, rfl⟩
set_option maxRecDepth 100000 in
theorem addr_of_trod {n : Nat} {cs : List Value} {y : DataW H × List MemPlace} (h : DataW.trod enc Try.prog W base (fun _ => true) true n 27 cs = some y) : ∃ a b : Int, cs = [.int .u64 a, .int .u64 b] := by
  obtain ⟨hl, hf⟩ := struct_cells Try.underlying27 (by kernel_rfl) h
  have hc : Try.prog.cellsOf 27 = 2 := by kernel_rfl
  rw [hc] at hl
  obtain ⟨u0, u1, rfl⟩ := list_two hl
  obtain ⟨_, _, f0⟩ := hf 0 _ rfl u0 rfl
  obtain ⟨_, _, f1⟩ := hf 1 _ rfl u1 rfl
  obtain ⟨x0, rfl, w0⟩ := one_int Try.underlying22 f0
  obtain ⟨x1, rfl, w1⟩ := one_int Try.underlying22 f1
  exact ⟨x0, x1, rfl⟩
set_option maxRecDepth 100000 in
theorem open_aggsec {r : Reach} {b0 : Nat} {v : Value} {d : DataW H} {ps : List MemPlace} {ts : List TypeId} {ds : List (DataW H)} {j : Nat}
    (hv : Value.okWide Try.prog W r b0 24 v) (h : DataW.Trod enc Try.prog W base (fun _ => true) true 24 v d ps)
    (hsz : (DataW.weightsEach Try.prog ts ds).all (· ≤ reachBytes) = true) (htj : ts[j]? = some 24) (hd : ds[j]? = some d) : ∃ a b : Int, v = .agg #[.int .u64 a, .int .u64 b] ∧ True := by
  obtain ⟨cs, rfl, hsize⟩ := okWide_struct Try.underlying24 hv
  obtain ⟨fuel, hf⟩ := h
  obtain ⟨a, b, e⟩ := sec_of_trod hf
  refine ⟨a, b, ?_, trivial⟩
  congr 1
  exact Array.toList_inj.1 e
set_option maxRecDepth 100000 in
theorem open_aggkey {r : Reach} {b0 : Nat} {v : Value} {d : DataW H} {ps : List MemPlace} {ts : List TypeId} {ds : List (DataW H)} {j : Nat}
    (hv : Value.okWide Try.prog W r b0 29 v) (h : DataW.Trod enc Try.prog W base (fun _ => true) true 29 v d ps)
    (hsz : (DataW.weightsEach Try.prog ts ds).all (· ≤ reachBytes) = true) (htj : ts[j]? = some 29) (hd : ds[j]? = some d) :
    ∃ p sh sl dh dl sp dp : Int, v = .agg #[.int .i64 p, .int .u64 sh, .int .u64 sl, .int .u64 dh, .int .u64 dl, .int .i64 sp, .int .i64 dp] ∧ True := by
  obtain ⟨cs, rfl, hsize⟩ := okWide_struct Try.underlying29 hv
  obtain ⟨fuel, hf⟩ := h
  obtain ⟨xs, m, _, _, hl, hx, hfd⟩ := DataW.trod_struct Try.underlying29 hf
  have hc : Try.prog.cellsOf 29 = 7 := by kernel_rfl
  have hs : Try.prog.cellsOf 27 = 2 := by kernel_rfl
  have hi : Try.prog.cellsOf 3 = 1 := by kernel_rfl
  have hcv : (Value.agg cs).cells.toList = cs.toList := rfl
  rw [hc] at hl
  rw [hcv] at hl hfd
  have g0 : DataW.trod enc Try.prog W base (fun _ => true) true m 3 ((cs.toList.drop 0).take (Try.prog.cellsOf 3)) = xs[0]? := hfd 0 _ rfl
  have g1 : DataW.trod enc Try.prog W base (fun _ => true) true m 27 ((cs.toList.drop 1).take (Try.prog.cellsOf 27)) = xs[1]? := hfd 1 _ rfl
  have g2 : DataW.trod enc Try.prog W base (fun _ => true) true m 27 ((cs.toList.drop 3).take (Try.prog.cellsOf 27)) = xs[2]? := hfd 2 _ rfl
  have g3 : DataW.trod enc Try.prog W base (fun _ => true) true m 3 ((cs.toList.drop 5).take (Try.prog.cellsOf 3)) = xs[3]? := hfd 3 _ rfl
  have g4 : DataW.trod enc Try.prog W base (fun _ => true) true m 3 ((cs.toList.drop 6).take (Try.prog.cellsOf 3)) = xs[4]? := hfd 4 _ rfl
  rw [hi] at g0 g3 g4
  rw [hs] at g1 g2
  generalize hcl : cs.toList = l at *
  match l, hl with
  | [c0, c1, c2, c3, c4, c5, c6], _ =>
    have hx5 : xs.length = 5 := hx
    match xs, hx5 with
    | [y0, y1, y2, y3, y4], _ =>
      obtain ⟨x0, rfl, _⟩ := one_int (H := H) (enc := enc) Try.underlying3 (show DataW.trod enc Try.prog W base (fun _ => true) true m 3 [c0] = some y0 from g0)
      obtain ⟨a1, b1, e1⟩ := addr_of_trod (show DataW.trod enc Try.prog W base (fun _ => true) true m 27 [c1, c2] = some y1 from g1)
      obtain ⟨a2, b2, e2⟩ := addr_of_trod (show DataW.trod enc Try.prog W base (fun _ => true) true m 27 [c3, c4] = some y2 from g2)
      obtain ⟨x3, rfl, _⟩ := one_int (H := H) (enc := enc) Try.underlying3 (show DataW.trod enc Try.prog W base (fun _ => true) true m 3 [c5] = some y3 from g3)
      obtain ⟨x4, rfl, _⟩ := one_int (H := H) (enc := enc) Try.underlying3 (show DataW.trod enc Try.prog W base (fun _ => true) true m 3 [c6] = some y4 from g4)
      obtain ⟨rfl, rfl⟩ : c1 = .int .u64 a1 ∧ c2 = .int .u64 b1 := by simpa using e1
      obtain ⟨rfl, rfl⟩ : c3 = .int .u64 a2 ∧ c4 = .int .u64 b2 := by simpa using e2
      refine ⟨x0, a1, b1, a2, b2, x3, x4, ?_, trivial⟩
      show Value.agg cs = .agg #[_, _, _, _, _, _, _]
      congr 1
      exact Array.toList_inj.1 hcl
end Go.Proofs.Ytainkpgplmkiaaa.CookArgs
