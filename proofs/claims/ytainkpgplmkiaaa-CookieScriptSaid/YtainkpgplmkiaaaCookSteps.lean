/- Scripts of calls on a keeper handed in: opened for the row of CookieScript. No condition. -/
import Derived.Test.YtainkpgplmkiaaaCookArgs
namespace Go.Proofs.Ytainkpgplmkiaaa.CookSteps
open Go Go.RowKit Go.Proofs.YtainkpgplmkiaaaW.PrintWords Go.ChangeShapes Go.WideShapes Go.Deep Go.Proofs.Ytainkpgplmkiaaa.MArgs Go.Proofs.Ytainkpgplmkiaaa.CookArgs
set_option linter.unusedVariables false
/-- A call: its kind, the key, the time, a number, a secret. -/
structure Stp where
  kd : Int
  p : Int
  sh : Int
  sl : Int
  dh : Int
  dl : Int
  sp : Int
  dp : Int
  now : Int
  n : Int
  ta : Int
  tb : Int
def Stp.cells (x : Stp) : List Value := [.int .i64 x.kd, .int .i64 x.p, .int .u64 x.sh, .int .u64 x.sl, .int .u64 x.dh, .int .u64 x.dl, .int .i64 x.sp, .int .i64 x.dp, .int .i64 x.now, .int .u32 x.n, .int .u64 x.ta, .int .u64 x.tb]
variable {H : Type} {enc : TypeId × Value → H} {W : World} {base : Nat}
set_option maxRecDepth 100000 in
theorem key_of_trod {m0 : Nat} {l : List Value} {y : DataW H × List MemPlace} (hf : DataW.trod enc Try.prog W base (fun _ => true) true m0 29 l = some y) :
    ∃ p sh sl dh dl sp dp : Int, l = [.int .i64 p, .int .u64 sh, .int .u64 sl, .int .u64 dh, .int .u64 dl, .int .i64 sp, .int .i64 dp] := by
  obtain ⟨xs, m, _, _, hl, hx, hfd⟩ := DataW.trod_struct Try.underlying29 hf
  have hc : Try.prog.cellsOf 29 = 7 := by kernel_rfl
  have hs : Try.prog.cellsOf 27 = 2 := by kernel_rfl
  have hi : Try.prog.cellsOf 3 = 1 := by kernel_rfl
  rw [hc] at hl
  have g0 : DataW.trod enc Try.prog W base (fun _ => true) true m 3 ((l.drop 0).take (Try.prog.cellsOf 3)) = xs[0]? := hfd 0 _ rfl
  have g1 : DataW.trod enc Try.prog W base (fun _ => true) true m 27 ((l.drop 1).take (Try.prog.cellsOf 27)) = xs[1]? := hfd 1 _ rfl
  have g2 : DataW.trod enc Try.prog W base (fun _ => true) true m 27 ((l.drop 3).take (Try.prog.cellsOf 27)) = xs[2]? := hfd 2 _ rfl
  have g3 : DataW.trod enc Try.prog W base (fun _ => true) true m 3 ((l.drop 5).take (Try.prog.cellsOf 3)) = xs[3]? := hfd 3 _ rfl
  have g4 : DataW.trod enc Try.prog W base (fun _ => true) true m 3 ((l.drop 6).take (Try.prog.cellsOf 3)) = xs[4]? := hfd 4 _ rfl
  rw [hi] at g0 g3 g4
  rw [hs] at g1 g2
  match l, hl with
  | [c0, c1, c2, c3, c4, c5, c6], _ =>
    have hx5 : xs.length = 5 := hx
    match xs, hx5 with
    | [y0, y1, y2, y3, y4], _ =>
      obtain ⟨x0, rfl, _⟩ := one_int (H := H) (enc := enc) Try.underlying3 (show DataW.trod enc Try.prog W base (fun _ => true) true m 3 [c0] = some y0 from g0)
      obtain ⟨a1, b1, e1⟩ := addr_of_trod (show DataW.trod enc Try.prog W base (fun _ => true) true m 27 [c1, c2] = some y1 from g1)
      obtain ⟨a2, b2, e2⟩ := addr_of_trod (show DataW.trod enc Try.prog W base (fun _ => true) true m 27 [c3, c4] = some y2 from g2)
      obtain ⟨x3, rfl, _⟩ := one_int (H := H) (enc := enc) Try.underlying3 (show DataW.trod enc Try.prog W base (fun _ => true) true m 3 [c5] = some y3 from g3)
      obtain ⟨x4, rfl, _⟩ := one_int (H := H) (enc := enc) Try.underlying3 (show DataW.trod enc Try.prog W base (fun _ => true) true m 3 [c6] = some y4 from g4)
      obtain ⟨rfl, rfl⟩ : c1 = .int .u64 a1 ∧ c2 = .int .u64 b1 := by simpa using e1
      obtain ⟨rfl, rfl⟩ : c3 = .int .u64 a2 ∧ c4 = .int .u64 b2 := by simpa using e2
      exact ⟨x0, a1, b1, a2, b2, x3, x4, rfl⟩
def StpC (x : Stp) (cs : List Value) : Prop := cs = Stp.cells x
set_option maxRecDepth 100000 in
theorem stc_of_trod (n : Nat) (cs : List Value) (y : DataW H × List MemPlace) (h : DataW.trod enc Try.prog W base (fun _ => true) true n 65 cs = some y) : ∃ x, StpC x cs := by
  obtain ⟨xs, m, _, _, hl, hx, hfd⟩ := DataW.trod_struct Try.underlying65 h
  have hc : Try.prog.cellsOf 65 = 12 := by kernel_rfl
  have hk : Try.prog.cellsOf 29 = 7 := by kernel_rfl
  have hs : Try.prog.cellsOf 24 = 2 := by kernel_rfl
  have hi : Try.prog.cellsOf 3 = 1 := by kernel_rfl
  have hu : Try.prog.cellsOf 33 = 1 := by kernel_rfl
  rw [hc] at hl
  have g0 : DataW.trod enc Try.prog W base (fun _ => true) true m 3 ((cs.drop 0).take (Try.prog.cellsOf 3)) = xs[0]? := hfd 0 _ rfl
  have g1 : DataW.trod enc Try.prog W base (fun _ => true) true m 29 ((cs.drop 1).take (Try.prog.cellsOf 29)) = xs[1]? := hfd 1 _ rfl
  have g2 : DataW.trod enc Try.prog W base (fun _ => true) true m 3 ((cs.drop 8).take (Try.prog.cellsOf 3)) = xs[2]? := hfd 2 _ rfl
  have g3 : DataW.trod enc Try.prog W base (fun _ => true) true m 33 ((cs.drop 9).take (Try.prog.cellsOf 33)) = xs[3]? := hfd 3 _ rfl
  have g4 : DataW.trod enc Try.prog W base (fun _ => true) true m 24 ((cs.drop 10).take (Try.prog.cellsOf 24)) = xs[4]? := hfd 4 _ rfl
  rw [hi] at g0 g2
  rw [hu] at g3
  rw [hk] at g1
  rw [hs] at g4
  match cs, hl with
  | [c0, c1, c2, c3, c4, c5, c6, c7, c8, c9, c10, c11], _ =>
    have hx5 : xs.length = 5 := hx
    match xs, hx5 with
    | [y0, y1, y2, y3, y4], _ =>
      obtain ⟨x0, rfl, _⟩ := one_int (H := H) (enc := enc) Try.underlying3 (show DataW.trod enc Try.prog W base (fun _ => true) true m 3 [c0] = some y0 from g0)
      obtain ⟨p, sh, sl, dh, dl, sp, dp, e1⟩ := key_of_trod (show DataW.trod enc Try.prog W base (fun _ => true) true m 29 [c1, c2, c3, c4, c5, c6, c7] = some y1 from g1)
      obtain ⟨x2, rfl, _⟩ := one_int (H := H) (enc := enc) Try.underlying3 (show DataW.trod enc Try.prog W base (fun _ => true) true m 3 [c8] = some y2 from g2)
      obtain ⟨x3, rfl, _⟩ := one_int (H := H) (enc := enc) Try.underlying33 (show DataW.trod enc Try.prog W base (fun _ => true) true m 33 [c9] = some y3 from g3)
      obtain ⟨a, b, e4⟩ := sec_of_trod (show DataW.trod enc Try.prog W base (fun _ => true) true m 24 [c10, c11] = some y4 from g4)
      obtain ⟨rfl, rfl, rfl, rfl, rfl, rfl, rfl⟩ : c1 = .int .i64 p ∧ c2 = .int .u64 sh ∧ c3 = .int .u64 sl ∧ c4 = .int .u64 dh ∧ c5 = .int .u64 dl ∧ c6 = .int .i64 sp ∧ c7 = .int .i64 dp := by simpa using e1
      obtain ⟨rfl, rfl⟩ : c10 = .int .u64 a ∧ c11 = .int .u64 b := by simpa using e4
      exact ⟨⟨x0, p, sh, sl, dh, dl, sp, dp, x2, x3, a, b⟩, rfl⟩
abbrev ScriptC (W : World) (A : Option Addr) (c : Nat) (l : List Stp) : Prop := RowIn StpC 12 96 W A c l
theorem cellsStp : Try.prog.cellsOf 65 = 12 := by kernel_rfl
theorem bytesStp : Try.prog.bytesOf 65 = 96 := by kernel_rfl
set_option maxRecDepth 100000 in
theorem open_csteps {r : Reach} {b0 : Nat} {v : Value} {d : DataW H} {ps : List MemPlace} {ts : List TypeId} {ds : List (DataW H)} {j : Nat}
    (hv : Value.okWide Try.prog W r b0 60 v) (h : DataW.Trod enc Try.prog W base (fun _ => true) true 60 v d ps)
    (hsz : (DataW.weightsEach Try.prog ts ds).all (· ≤ reachBytes) = true) (htj : ts[j]? = some 60) (hd : ds[j]? = some d) :
    ∃ A c l, v = .slice A l.length c ∧ ScriptC W A c l :=
  open_row_in (R := StpC) (size := 12) (B := 96) (r := r) (b0 := b0) (ts := ts) (ds := ds) (j := j) Try.underlying60 cellsStp bytesStp (stc_of_trod (enc := enc) (W := W) (base := base)) hv h hsz htj hd
theorem add_add (ad : Addr) (m j : Nat) : (ad.add m).add j = ad.add (m + j) := by
  unfold Addr.add
  by_cases hj : j = 0
  · subst hj; simp
  · by_cases hm : m = 0
    · subst hm; simp [hj]
    · simp [hj, hm, Nat.add_assoc]
/-- Step k in memory, in a world behind the one of the call. -/
theorem ScriptC.step {W w : World} {A : Option Addr} {c : Nat} {l : List Stp} (h : ScriptC W A c l) (hb : Below W.heap.size W w) {k : Nat} {x : Stp} (hk : l[k]? = some x) :
    ∃ ad : Addr, A = some ad ∧ ∀ j v, (Stp.cells x)[j]? = some v → w.cell? ((ad.add (k * 12)).add j) = some v := by
  obtain ⟨ad, cs, e, rfl, hc⟩ := h.at_ hk
  refine ⟨ad, e, fun j v hv => ?_⟩
  rw [add_add]
  exact pw_cell_below hb (hc j v hv)
section
variable {P : Program} {ops : Array Oper} {rest : List Oper} {o : Oper} {a : Act} {Q : Exit → Act → World → Prop} {W : World}
theorem run_loadAt_any (w : World) (p : Addr) (ty : TypeId) (cs : List Value) (d : TypeDesc) (hc : ∀ j v, cs[j]? = some v → w.cell? (p.add j) = some v)
    (hu : P.underlying ty = some d) (hd : d.isRow = true) (hi : (P.info? ty).map (·.size) = some cs.length) :
    (Instr.loadAt ty (.pointer (some p))).run P w = .ok (.agg cs.toArray) w := by
  have hl : (loadCells p cs.length).run P w = .ok cs.toArray w := run_loadCells_list (P := P) w p cs hc
  have hv : (loadVar ty p).run P w = .ok (.agg cs.toArray) w := by
    cases hq : P.info? ty with
    | none => simp [hq] at hi
    | some i =>
      have hs : i.size = cs.length := by simpa [hq] using hi
      have hagg : (isAgg ty).run P w = .ok true w := by
        unfold isAgg
        rw [Sem.run_bind, run_underlying hu w]
        cases d <;> simp_all
      simp [loadVar, Sem.run_bind, hagg, sizeOf, typeInfo, hq, hs, hl]
  simp only [Instr.loadAt, Instr.sureAddr, Sem.run_bind, Sem.run_pure, Result.andThen_ok, hv]
theorem loadany_event (hgd : o.guard = none) (ty : TypeId) (x : Operand) (ho : o.op = .load ty x) (p : Addr) (hx : a.eval x = .pointer (some p)) (cs : List Value) (d : TypeDesc)
    (hc : ∀ j v, cs[j]? = some v → W.cell? (p.add j) = some v) (hu : P.underlying ty = some d) (hd : d.isRow = true) (hi : (P.info? ty).map (·.size) = some cs.length)
    (h : wpList P ops Q rest (a.put o.dst (.agg cs.toArray)) W) : wpList P ops Q (o :: rest) a W :=
  Kd.event_run hgd (by simp only [execOp, ho, hx, Sem.run_bind, Sem.run_pure, run_loadAt_any W p ty cs d hc hu hd hi, Result.andThen_ok]) h
end
end Go.Proofs.Ytainkpgplmkiaaa.CookSteps
