/- Segments, connections and scripts of segments handed in: opened for the rows. No condition. -/
import Derived.Test.YtainkpgplmkiaaaMArgs
import Derived.Test.YtainkpgplmkiaaaWinModel
import Derived.Deep.MidRow
namespace Go.Proofs.Ytainkpgplmkiaaa.WinArgs
open Go Go.RowKit Go.Proofs.YtainkpgplmkiaaaW.PrintWords Go.ChangeShapes Go.WideShapes Go.Deep Go.Proofs.Ytainkpgplmkiaaa.MArgs Go.Proofs.Ytainkpgplmkiaaa.WinModel
set_option linter.unusedVariables false
def Tr.cells (t : Tr) : List Value := [.int .i64 t.sp, .int .i64 t.dp, .int .u32 t.sq, .int .u32 t.ak, .int .i64 t.fl, .int .i64 t.wi, .int .i64 t.ty, .int .i64 t.co, .int .i64 t.he, .int .i64 t.da]
structure TrOk (t : Tr) : Prop where
  sq0 : 0 ≤ t.sq
  sq1 : t.sq < 4294967296
  ak0 : 0 ≤ t.ak
  ak1 : t.ak < 4294967296
  fl0 : -9223372036854775808 ≤ t.fl
  fl1 : t.fl ≤ 9223372036854775807
theorem Tr.val_cells (t : Tr) : t.val = .agg (Tr.cells t).toArray := rfl
theorem list_ten {α : Type} : ∀ {l : List α}, l.length = 10 → ∃ u0 u1 u2 u3 u4 u5 u6 u7 u8 u9, l = [u0, u1, u2, u3, u4, u5, u6, u7, u8, u9]
  | [u0, u1, u2, u3, u4, u5, u6, u7, u8, u9], _ => ⟨u0, u1, u2, u3, u4, u5, u6, u7, u8, u9, rfl⟩
theorem list_four {α : Type} : ∀ {l : List α}, l.length = 4 → ∃ u0 u1 u2 u3, l = [u0, u1, u2, u3]
  | [u0, u1, u2, u3], _ => ⟨u0, u1, u2, u3, rfl⟩
variable {H : Type} {enc : TypeId × Value → H} {W : World} {base : Nat}
set_option maxRecDepth 100000 in
theorem tr_of_trod {n : Nat} {cs : List Value} {y : DataW H × List MemPlace} (h : DataW.trod enc Try.prog W base (fun _ => true) true n 43 cs = some y) : ∃ t : Tr, cs = Tr.cells t ∧ TrOk t := by
  obtain ⟨hl, hf⟩ := struct_cells Try.underlying43 (by kernel_rfl) h
  have hc : Try.prog.cellsOf 43 = 10 := by kernel_rfl
  rw [hc] at hl
  obtain ⟨u0, u1, u2, u3, u4, u5, u6, u7, u8, u9, rfl⟩ := list_ten hl
  obtain ⟨_, _, f0⟩ := hf 0 _ rfl u0 rfl
  obtain ⟨_, _, f1⟩ := hf 1 _ rfl u1 rfl
  obtain ⟨_, _, f2⟩ := hf 2 _ rfl u2 rfl
  obtain ⟨_, _, f3⟩ := hf 3 _ rfl u3 rfl
  obtain ⟨_, _, f4⟩ := hf 4 _ rfl u4 rfl
  obtain ⟨_, _, f5⟩ := hf 5 _ rfl u5 rfl
  obtain ⟨_, _, f6⟩ := hf 6 _ rfl u6 rfl
  obtain ⟨_, _, f7⟩ := hf 7 _ rfl u7 rfl
  obtain ⟨_, _, f8⟩ := hf 8 _ rfl u8 rfl
  obtain ⟨_, _, f9⟩ := hf 9 _ rfl u9 rfl
  obtain ⟨x0, rfl, w0⟩ := one_int Try.underlying3 f0
  obtain ⟨x1, rfl, w1⟩ := one_int Try.underlying3 f1
  obtain ⟨x2, rfl, w2⟩ := one_int Try.underlying33 f2
  obtain ⟨x3, rfl, w3⟩ := one_int Try.underlying33 f3
  obtain ⟨x4, rfl, w4⟩ := one_int Try.underlying3 f4
  obtain ⟨x5, rfl, w5⟩ := one_int Try.underlying3 f5
  obtain ⟨x6, rfl, w6⟩ := one_int Try.underlying3 f6
  obtain ⟨x7, rfl, w7⟩ := one_int Try.underlying3 f7
  obtain ⟨x8, rfl, w8⟩ := one_int Try.underlying3 f8
  obtain ⟨x9, rfl, w9⟩ := one_int Try.underlying3 f9
  have b2 := bounds_u32 w2
  have b3 := bounds_u32 w3
  have b4 := bounds_i64 w4
  exact ⟨⟨x0, x1, x2, x3, x4, x5, x6, x7, x8, x9⟩, rfl, by show 0 ≤ x2; omega, by show x2 < 4294967296; omega, by show 0 ≤ x3; omega, by show x3 < 4294967296; omega, b4.1, b4.2⟩
set_option maxRecDepth 100000 in
theorem open_aggtr {r : Reach} {b0 : Nat} {v : Value} {d : DataW H} {ps : List MemPlace} {ts : List TypeId} {ds : List (DataW H)} {j : Nat}
    (hv : Value.okWide Try.prog W r b0 43 v) (h : DataW.Trod enc Try.prog W base (fun _ => true) true 43 v d ps)
    (hsz : (DataW.weightsEach Try.prog ts ds).all (· ≤ reachBytes) = true) (htj : ts[j]? = some 43) (hd : ds[j]? = some d) : ∃ t : Tr, v = t.val ∧ TrOk t := by
  obtain ⟨cs, rfl, hsize⟩ := okWide_struct Try.underlying43 hv
  obtain ⟨fuel, hf⟩ := h
  obtain ⟨t, ht, hok⟩ := tr_of_trod hf
  refine ⟨t, ?_, hok⟩
  rw [Tr.val_cells]
  congr 1
  exact Array.toList_inj.1 ht
structure SdOk (s : Sd) : Prop where
  e0 : 0 ≤ s.e
  e1 : s.e < 4294967296
  m0 : 0 ≤ s.m
  m1 : s.m < 4294967296
def Sd.cells (s : Sd) : List Value := [.bool s.seen, .int .u32 s.e, .int .u32 s.m, .bool s.fin]
set_option maxRecDepth 100000 in
theorem sd_of_trod {n : Nat} {cs : List Value} {y : DataW H × List MemPlace} (h : DataW.trod enc Try.prog W base (fun _ => true) true n 39 cs = some y) : ∃ s : Sd, cs = Sd.cells s ∧ SdOk s := by
  obtain ⟨hl, hf⟩ := struct_cells Try.underlying39 (by kernel_rfl) h
  have hc : Try.prog.cellsOf 39 = 4 := by kernel_rfl
  rw [hc] at hl
  obtain ⟨u0, u1, u2, u3, rfl⟩ := list_four hl
  obtain ⟨_, _, f0⟩ := hf 0 _ rfl u0 rfl
  obtain ⟨_, _, f1⟩ := hf 1 _ rfl u1 rfl
  obtain ⟨_, _, f2⟩ := hf 2 _ rfl u2 rfl
  obtain ⟨_, _, f3⟩ := hf 3 _ rfl u3 rfl
  obtain ⟨x0, rfl⟩ := one_bool Try.underlying4 f0
  obtain ⟨x1, rfl, w1⟩ := one_int Try.underlying33 f1
  obtain ⟨x2, rfl, w2⟩ := one_int Try.underlying33 f2
  obtain ⟨x3, rfl⟩ := one_bool Try.underlying4 f3
  have b1 := bounds_u32 w1
  have b2 := bounds_u32 w2
  exact ⟨⟨x0, x1, x2, x3⟩, rfl, by show 0 ≤ x1; omega, by show x1 < 4294967296; omega, by show 0 ≤ x2; omega, by show x2 < 4294967296; omega⟩
set_option maxRecDepth 100000 in
theorem open_aggcn {r : Reach} {b0 : Nat} {v : Value} {d : DataW H} {ps : List MemPlace} {ts : List TypeId} {ds : List (DataW H)} {j : Nat}
    (hv : Value.okWide Try.prog W r b0 41 v) (h : DataW.Trod enc Try.prog W base (fun _ => true) true 41 v d ps)
    (hsz : (DataW.weightsEach Try.prog ts ds).all (· ≤ reachBytes) = true) (htj : ts[j]? = some 41) (hd : ds[j]? = some d) : ∃ c : Cn, v = c.val ∧ (SdOk c.a ∧ SdOk c.b) := by
  obtain ⟨cs, rfl, hsize⟩ := okWide_struct Try.underlying41 hv
  obtain ⟨fuel, hf⟩ := h
  obtain ⟨xs, m, _, _, hl, hx, hfd⟩ := DataW.trod_struct Try.underlying41 hf
  have hc : Try.prog.cellsOf 41 = 9 := by kernel_rfl
  have hs : Try.prog.cellsOf 39 = 4 := by kernel_rfl
  have hi : Try.prog.cellsOf 3 = 1 := by kernel_rfl
  have hcv : (Value.agg cs).cells.toList = cs.toList := rfl
  rw [hc] at hl
  rw [hcv] at hl hfd
  have g0 : DataW.trod enc Try.prog W base (fun _ => true) true m 3 ((cs.toList.drop 0).take (Try.prog.cellsOf 3)) = xs[0]? := hfd 0 _ rfl
  have g1 : DataW.trod enc Try.prog W base (fun _ => true) true m 39 ((cs.toList.drop 1).take (Try.prog.cellsOf 39)) = xs[1]? := hfd 1 _ rfl
  have g2 : DataW.trod enc Try.prog W base (fun _ => true) true m 39 ((cs.toList.drop 5).take (Try.prog.cellsOf 39)) = xs[2]? := hfd 2 _ rfl
  rw [hi] at g0
  rw [hs] at g1 g2
  generalize hcl : cs.toList = l at *
  match l, hl with
  | [c0, c1, c2, c3, c4, c5, c6, c7, c8], _ =>
    have hx3 : xs.length = 3 := hx
    match xs, hx3 with
    | [y0, y1, y2], _ =>
      obtain ⟨x0, rfl, _⟩ := one_int (H := H) (enc := enc) Try.underlying3 (show DataW.trod enc Try.prog W base (fun _ => true) true m 3 [c0] = some y0 from g0)
      obtain ⟨s1, e1, o1⟩ := sd_of_trod (show DataW.trod enc Try.prog W base (fun _ => true) true m 39 [c1, c2, c3, c4] = some y1 from g1)
      obtain ⟨s2, e2, o2⟩ := sd_of_trod (show DataW.trod enc Try.prog W base (fun _ => true) true m 39 [c5, c6, c7, c8] = some y2 from g2)
      obtain ⟨rfl, rfl, rfl, rfl⟩ : c1 = .bool s1.seen ∧ c2 = .int .u32 s1.e ∧ c3 = .int .u32 s1.m ∧ c4 = .bool s1.fin := by simpa [Sd.cells] using e1
      obtain ⟨rfl, rfl, rfl, rfl⟩ : c5 = .bool s2.seen ∧ c6 = .int .u32 s2.e ∧ c7 = .int .u32 s2.m ∧ c8 = .bool s2.fin := by simpa [Sd.cells] using e2
      refine ⟨⟨x0, s1, s2⟩, ?_, o1, o2⟩
      show Value.agg cs = .agg #[_, _, _, _, _, _, _, _, _]
      congr 1
      exact Array.toList_inj.1 hcl
/-- A step: a segment of B, if back. -/
def StpR (x : Bool × Tr) (cs : List Value) : Prop := cs = .bool x.1 :: Tr.cells x.2 ∧ TrOk x.2
set_option maxRecDepth 100000 in
theorem stp_of_trod (n : Nat) (cs : List Value) (y : DataW H × List MemPlace) (h : DataW.trod enc Try.prog W base (fun _ => true) true n 75 cs = some y) : ∃ x, StpR x cs := by
  obtain ⟨xs, m, _, _, hl, hx, hfd⟩ := DataW.trod_struct Try.underlying75 h
  have hc : Try.prog.cellsOf 75 = 11 := by kernel_rfl
  have ht : Try.prog.cellsOf 43 = 10 := by kernel_rfl
  have hb : Try.prog.cellsOf 4 = 1 := by kernel_rfl
  rw [hc] at hl
  have g0 : DataW.trod enc Try.prog W base (fun _ => true) true m 4 ((cs.drop 0).take (Try.prog.cellsOf 4)) = xs[0]? := hfd 0 _ rfl
  have g1 : DataW.trod enc Try.prog W base (fun _ => true) true m 43 ((cs.drop 1).take (Try.prog.cellsOf 43)) = xs[1]? := hfd 1 _ rfl
  rw [hb] at g0
  rw [ht] at g1
  have hx2 : xs.length = 2 := hx
  match xs, hx2 with
  | [y0, y1], _ =>
    match cs, hl with
    | c0 :: r, hl =>
      have hr : r.length = 10 := by simpa using hl
      obtain ⟨b, rfl⟩ := one_bool (H := H) (enc := enc) Try.underlying4 (show DataW.trod enc Try.prog W base (fun _ => true) true m 4 [c0] = some y0 from by simpa using g0)
      have g1' : DataW.trod enc Try.prog W base (fun _ => true) true m 43 r = some y1 := by
        have e : ((Value.bool b :: r).drop 1).take 10 = r := by rw [List.drop_succ_cons, List.drop_zero]; exact List.take_of_length_le (by omega)
        rw [e] at g1
        simpa using g1
      obtain ⟨t, rfl, hok⟩ := tr_of_trod g1'
      exact ⟨(b, t), rfl, hok⟩
abbrev ScriptIn (W : World) (A : Option Addr) (c : Nat) (l : List (Bool × Tr)) : Prop := RowIn StpR 11 80 W A c l
theorem cellsStep : Try.prog.cellsOf 75 = 11 := by kernel_rfl
theorem bytesStep : Try.prog.bytesOf 75 = 80 := by kernel_rfl
set_option maxRecDepth 100000 in
theorem open_steps {r : Reach} {b0 : Nat} {v : Value} {d : DataW H} {ps : List MemPlace} {ts : List TypeId} {ds : List (DataW H)} {j : Nat}
    (hv : Value.okWide Try.prog W r b0 70 v) (h : DataW.Trod enc Try.prog W base (fun _ => true) true 70 v d ps)
    (hsz : (DataW.weightsEach Try.prog ts ds).all (· ≤ reachBytes) = true) (htj : ts[j]? = some 70) (hd : ds[j]? = some d) :
    ∃ A c l, v = .slice A l.length c ∧ ScriptIn W A c l :=
  open_row_in (R := StpR) (size := 11) (B := 80) (r := r) (b0 := b0) (ts := ts) (ds := ds) (j := j) Try.underlying70 cellsStep bytesStep (stp_of_trod (enc := enc) (W := W) (base := base)) hv h hsz htj hd
/-- Step k in memory, in a world behind the one of the call. -/
theorem ScriptIn.step {W w : World} {A : Option Addr} {c : Nat} {l : List (Bool × Tr)} (h : ScriptIn W A c l) (hb : Below W.heap.size W w) {k : Nat} {x : Bool × Tr} (hk : l[k]? = some x) :
    ∃ ad : Addr, A = some ad ∧ w.cell? (ad.add (k * 11)) = some (.bool x.1) ∧ w.rangeAt (ad.add (k * 11)).block ((ad.add (k * 11)).off + 1) (Tr.cells x.2) ∧ TrOk x.2 := by
  obtain ⟨ad, cs, e, ⟨rfl, hok⟩, hc⟩ := h.at_ hk
  refine ⟨ad, e, pw_cell_below hb (hc 0 _ rfl), fun j v hv => ?_, hok⟩
  have h1 := pw_cell_below hb (hc (j + 1) v (by simpa using hv))
  rw [add_field _ _ _ (by omega)] at h1
  have e2 : (ad.add (k * 11)).off + 1 + j = (ad.add (k * 11)).off + (j + 1) := by omega
  rw [e2]
  exact h1
end Go.Proofs.Ytainkpgplmkiaaa.WinArgs
