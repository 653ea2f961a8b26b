/- control.Decode: what it answers. No condition but the sizes named. -/
import Derived.Test.YthjholnpkpkakaaEncode
import Derived.Test.YthjholnpkpkakaaParts
import Derived.Test.YthjholnpkpkakaaFrameBack
import Derived.Test.YthjholnpkpkakaaMWorld
import Derived.Deep.QuietTactic
import Derived.BigQuiet
import Derived.StillTailTactics
namespace Go.Proofs.Ythjholnpkpkakaa.Decode
open Go.RowKit Go.Proofs.YthjholnpkpkakaaW.PrintWords Go.Proofs.YthjholnpkpkakaaW.PrintLast Go.Proofs.YthjholnpkpkakaaW.PrintMore Go.Proofs.Ythjholnpkpkakaa.PControlFrames Go.Proofs.Ythjholnpkpkakaa.FrameLaws Go.Proofs.Ythjholnpkpkakaa.Parts Go.Proofs.Ythjholnpkpkakaa.MWorld
set_option linter.unusedVariables false
set_option linter.unusedSimpArgs false

theorem setRow_upd (w : World) (g : Nat) (cs : Array Value) : Upd (fun k => k = g) w (w.setRow g cs) :=
  ⟨rfl, rfl, rfl, by simp, fun k _ hn => setRow_other w g k cs hn⟩
theorem or_bytes (x y : Int) (hx : 0 ≤ x) (hx' : x < 256) (hy : 0 ≤ y) (hy' : y < 256) : bits .or .i64 (x * 256) y = x * 256 + y := by
  obtain ⟨a, rfl⟩ := Int.eq_ofNat_of_zero_le hx
  obtain ⟨b, rfl⟩ := Int.eq_ofNat_of_zero_le hy
  have h1 : (BitVec.ofInt 64 ((a : Int) * 256)).toNat = a * 256 := by
    rw [show (a : Int) * 256 = ((a * 256 : Nat) : Int) by omega, BitVec.ofInt_natCast, BitVec.toNat_ofNat]; exact Nat.mod_eq_of_lt (by omega)
  have h2 : (BitVec.ofInt 64 (b : Int)).toNat = b := by
    rw [BitVec.ofInt_natCast, BitVec.toNat_ofNat]; exact Nat.mod_eq_of_lt (by omega)
  have h3 : a * 256 ||| b = a * 256 + b := by
    have := Nat.shiftLeft_add_eq_or_of_lt (show b < 2 ^ 8 by omega) a
    rw [Nat.shiftLeft_eq] at this
    simpa using this.symm
  show IntKind.i64.wrap ((BitVec.ofInt 64 ((a : Int) * 256) ||| BitVec.ofInt 64 (b : Int)).toNat : Int) = _
  rw [BitVec.toNat_or, h1, h2, h3, IntKind.wrap_i64]
  omega
theorem or_walk (x y : Int) (hx : 0 ≤ x) (hx' : x < 256) (hy : 0 ≤ y) (hy' : y < 256) : bits .or .i64 (IntKind.i64.wrap (IntKind.i64.wrap x * 256)) (IntKind.i64.wrap y) = x * 256 + y := by
  rw [IntKind.wrap_i64, IntKind.wrap_i64, IntKind.wrap_i64]
  rw [show (x + 9223372036854775808) % 18446744073709551616 - 9223372036854775808 = x by omega, show (x * 256 + 9223372036854775808) % 18446744073709551616 - 9223372036854775808 = x * 256 by omega, show (y + 9223372036854775808) % 18446744073709551616 - 9223372036854775808 = y by omega]
  exact or_bytes x y hx hx' hy hy'
theorem cell_far {w : World} {g i : Nat} {v : Value} {a : Addr} (h : a.block ≠ g) : (w.setCell ⟨g, i, none⟩ v).cell? a = w.cell? a := by
  unfold World.cell?
  rw [Below.heap_setCell w ⟨g, i, none⟩ v a.block h]
theorem cell_far4 {w : World} {g i j k l b o : Nat} {v1 v2 v3 v4 u : Value} (h : b ≠ g) (hc : w.cell? ⟨b, o, none⟩ = some u) :
    ((((w.setCell ⟨g, i, none⟩ v1).setCell ⟨g, j, none⟩ v2).setCell ⟨g, k, none⟩ v3).setCell ⟨g, l, none⟩ v4).cell? ⟨b, o, none⟩ = some u := by
  rw [cell_far h, cell_far h, cell_far h, cell_far h, hc]
def z4 : Array Value := #[.int .i64 0, .int .i64 0, .int .i64 0, .slice none 0 0]
theorem info4 : (Try.prog.info? 59).map (·.size) = some 4 := by kernel_rfl
theorem results_cell_tmp {P : Program} {fn : Func} {p u : Tmp} {ty : TypeId} (h : fn.results = #[.cell p ty, .tmp u]) (tmps : Array Value) (w : World) (g : Nat) (t : TypeId) (cs : Array Value) (fr : Nat × Nat) (d : TypeDesc)
    (hp : tmps.getD p undef = .pointer (some ⟨g, 0, none⟩)) (hg : w.heap[g]? = some (.cells cs t fr))
    (hu : P.underlying ty = some d) (hd : (match d with | .struct _ | .array _ _ => true | _ => false) = true) (hi : (P.info? ty).map (·.size) = some cs.size) :
    (results fn tmps).run P w = .ok (.tuple #[.agg cs, tmps.getD u undef]) w := by
  have hp' : tmps[p]?.getD undef = .pointer (some ⟨g, 0, none⟩) := by simpa using hp
  simp [results, h, hp', asAddr, run_loadVar_row w g t ty cs fr d hg hu hd hi]

set_option maxHeartbeats 8000000 in
set_option maxRecDepth 100000 in
theorem decode_short (A : Option Addr) (c : Nat) (xs : List Int) (w : World) (h : xs.length < 7 ∨ 1024 < xs.length) :
    Calls Try.prog 31 #[.slice A xs.length c] w fun e w' => e = .returned (.tuple #[.agg #[.int .i64 0, .int .i64 0, .int .i64 0, .slice none 0 0], .int .i64 200]) ∧ Below w.heap.size w w' := by
  have hu := Try.underlying59
  by_cases h1 : (xs.length : Int) < 7
  · clear h
    go_enter Try.func31, Try.ntmps31
    go_wp2_with fail
    have BK := Aside0.mk (blk_new w (.cells #[.int .i64 0, .int .i64 0, .int .i64 0, .slice none 0 0] 59))
    have HB := Aside0.mk ((Below.refl w.heap.size w).alloc (Nat.le_refl _) (.cells #[.int .i64 0, .int .i64 0, .int .i64 0, .slice none 0 0] 59))
    generalize w.alloc (.cells #[.int .i64 0, .int .i64 0, .int .i64 0, .slice none 0 0] 59) = w1 at *
    go_quiet (fail)
    have BKq : Aside0 ((w1.drewN nq).heap[w.heap.size]? = some (.cells #[.int .i64 0, .int .i64 0, .int .i64 0, .slice none 0 0] 59 (0, 0))) := ⟨BK.out⟩
    have HBq : Aside0 (Below w.heap.size w (w1.drewN nq)) := ⟨pw_below_drewN HB.out nq⟩
    clear BK HB
    generalize w1.drewN nq = w2 at *
    have hz0 : w2.cell? ⟨w.heap.size, 0, none⟩ = some (.int .i64 0) := (blk_cell BKq.out 0).trans rfl
    have hz1 : w2.cell? ⟨w.heap.size, 1, none⟩ = some (.int .i64 0) := (blk_cell BKq.out 1).trans rfl
    have hz2 : w2.cell? ⟨w.heap.size, 2, none⟩ = some (.int .i64 0) := (blk_cell BKq.out 2).trans rfl
    have hz3 : w2.cell? ⟨w.heap.size, 3, none⟩ = some (.slice none 0 0) := (blk_cell BKq.out 3).trans rfl
    have hf0 := blk_frozen BKq.out 0
    have hf1 := blk_frozen BKq.out 1
    have hf2 := blk_frozen BKq.out 2
    have hf3 := blk_frozen BKq.out 3
    go_wp2
    have BK2 := blk_put (blk_put (blk_put (blk_put BKq.out 0 (.int .i64 0) rfl) 1 (.int .i64 0) rfl) 2 (.int .i64 0) rfl) 3 (.slice none 0 0) rfl
    have HB2 := Aside0.mk (below_set (j := 3) (v := .slice none 0 0) (below_set (j := 2) (v := .int .i64 0) (below_set (j := 1) (v := .int .i64 0) (below_set (j := 0) (v := .int .i64 0) HBq.out (Nat.le_refl _)) (Nat.le_refl _)) (Nat.le_refl _)) (Nat.le_refl _))
    refine bodyPost_ret (results_cell_tmp (ty := 59) (p := 2) (u := 3) ?r1 _ _ w.heap.size 59 _ (0, 0) _ ?r2 BK2 hu ?r3 ?r4) ?r5 ?r6
    case r1 => rfl
    case r2 => rfl
    case r3 => rfl
    case r4 => exact info4
    case r5 => rfl
    case r6 => exact ⟨rfl, HB2.out⟩
  · have h2 : decide ((1024 : Int) < xs.length) = true := decide_eq_true (by omega)
    have h3 : decide ((xs.length : Int) < 7) = false := decide_eq_false h1
    clear h h1
    go_enter Try.func31, Try.ntmps31
    go_wp2_with fail
    have BK := Aside0.mk (blk_new w (.cells #[.int .i64 0, .int .i64 0, .int .i64 0, .slice none 0 0] 59))
    have HB := Aside0.mk ((Below.refl w.heap.size w).alloc (Nat.le_refl _) (.cells #[.int .i64 0, .int .i64 0, .int .i64 0, .slice none 0 0] 59))
    generalize w.alloc (.cells #[.int .i64 0, .int .i64 0, .int .i64 0, .slice none 0 0] 59) = w1 at *
    go_quiet (fail)
    have BKq : Aside0 ((w1.drewN nq).heap[w.heap.size]? = some (.cells #[.int .i64 0, .int .i64 0, .int .i64 0, .slice none 0 0] 59 (0, 0))) := ⟨BK.out⟩
    have HBq : Aside0 (Below w.heap.size w (w1.drewN nq)) := ⟨pw_below_drewN HB.out nq⟩
    clear BK HB
    generalize w1.drewN nq = w2 at *
    have hz0 : w2.cell? ⟨w.heap.size, 0, none⟩ = some (.int .i64 0) := (blk_cell BKq.out 0).trans rfl
    have hz1 : w2.cell? ⟨w.heap.size, 1, none⟩ = some (.int .i64 0) := (blk_cell BKq.out 1).trans rfl
    have hz2 : w2.cell? ⟨w.heap.size, 2, none⟩ = some (.int .i64 0) := (blk_cell BKq.out 2).trans rfl
    have hz3 : w2.cell? ⟨w.heap.size, 3, none⟩ = some (.slice none 0 0) := (blk_cell BKq.out 3).trans rfl
    have hf0 := blk_frozen BKq.out 0
    have hf1 := blk_frozen BKq.out 1
    have hf2 := blk_frozen BKq.out 2
    have hf3 := blk_frozen BKq.out 3
    go_wp2
    have BK2 := blk_put (blk_put (blk_put (blk_put BKq.out 0 (.int .i64 0) rfl) 1 (.int .i64 0) rfl) 2 (.int .i64 0) rfl) 3 (.slice none 0 0) rfl
    have HB2 := Aside0.mk (below_set (j := 3) (v := .slice none 0 0) (below_set (j := 2) (v := .int .i64 0) (below_set (j := 1) (v := .int .i64 0) (below_set (j := 0) (v := .int .i64 0) HBq.out (Nat.le_refl _)) (Nat.le_refl _)) (Nat.le_refl _)) (Nat.le_refl _))
    refine bodyPost_ret (results_cell_tmp (ty := 59) (p := 2) (u := 3) ?r1 _ _ w.heap.size 59 _ (0, 0) _ ?r2 BK2 hu ?r3 ?r4) ?r5 ?r6
    case r1 => rfl
    case r2 => rfl
    case r3 => rfl
    case r4 => exact info4
    case r5 => rfl
    case r6 => exact ⟨rfl, HB2.out⟩

set_option maxHeartbeats 8000000 in
set_option maxRecDepth 100000 in
theorem decode_word (A : Option Addr) (c : Nat) (xs : List Int) (w : World) (hr : Bs w A xs) (hc : xs.length ≤ c) (hb : Byt xs) (hs : ¬ (xs.length < 7 ∨ 1024 < xs.length)) (hw : ¬ xs.getD 0 0 * 256 + xs.getD 1 0 = xs.length) :
    Calls Try.prog 31 #[.slice A xs.length c] w fun e w' => e = .returned (.tuple #[.agg #[.int .i64 0, .int .i64 0, .int .i64 0, .slice none 0 0], .int .i64 200]) ∧ Below w.heap.size w w' := by
  have hu := Try.underlying59
  have h7 : 7 ≤ xs.length := by omega
  have h1024 : xs.length ≤ 1024 := by omega
  have hlen : (((xs.length : Int) - 1).toNat) = xs.length - 1 := by omega
  have HR := Aside0.mk hr
  obtain ⟨a0, rfl, hc0⟩ := Kd.at_int hr 0 (by omega) (by omega)
  obtain ⟨a1, e1, hc1⟩ := Kd.at_int hr 1 (by omega) (by omega)
  cases e1
  obtain ⟨hx0, hx0'⟩ : 0 ≤ rd xs 0 ∧ rd xs 0 < 256 := rd_byt hb 0 (by omega)
  obtain ⟨hx1, hx1'⟩ : 0 ≤ rd xs 1 ∧ rd xs 1 < 256 := rd_byt hb 1 (by omega)
  have e0 : rd xs 0 = xs.getD 0 0 := by simp [rd]
  have e1 : rd xs 1 = xs.getD 1 0 := by simp [rd]
  have d1 : decide ((xs.length : Int) < 7) = false := decide_eq_false (by omega)
  have d2 : decide ((1024 : Int) < xs.length) = false := decide_eq_false (by omega)
  have p0 : 0 < xs.length := by omega
  have p1 : (1 : Int) < xs.length := by omega
  rw [← e0, ← e1] at hw
  have hor := or_walk _ _ hx0 hx0' hx1 hx1'
  clear hr hs e0 e1 hlen h1024
  generalize rd xs 0 = x0 at *
  generalize rd xs 1 = x1 at *
  clear hx0 hx0' hx1 hx1'
  generalize x0 * 256 + x1 = wd at *
  clear h7
  go_enter Try.func31, Try.ntmps31
  go_wp2_with fail
  have BK := Aside0.mk (blk_new w (.cells #[.int .i64 0, .int .i64 0, .int .i64 0, .slice none 0 0] 59))
  have HB := Aside0.mk ((Below.refl w.heap.size w).alloc (Nat.le_refl _) (.cells #[.int .i64 0, .int .i64 0, .int .i64 0, .slice none 0 0] 59))
  generalize w.alloc (.cells #[.int .i64 0, .int .i64 0, .int .i64 0, .slice none 0 0] 59) = w1 at *
  have q0 : w1.cell? a0 = some (.int .u8 x0) := (HB.out.cell (World.block_lt_of_cell? w _ hc0)).trans hc0
  have q1 : w1.cell? ⟨a0.block, a0.off + 1, none⟩ = some (.int .u8 x1) := (HB.out.cell (World.block_lt_of_cell? w _ hc1)).trans hc1
  clear hc0 hc1
  go_quiet (fail)
  clear hw hor q0 q1 p0 p1 hc hb d1 d2
  have BKq : Aside0 ((w1.drewN nq).heap[w.heap.size]? = some (.cells #[.int .i64 0, .int .i64 0, .int .i64 0, .slice none 0 0] 59 (0, 0))) := ⟨BK.out⟩
  have HBq : Aside0 (Below w.heap.size w (w1.drewN nq)) := ⟨pw_below_drewN HB.out nq⟩
  clear BK HB
  generalize w1.drewN nq = w2 at *
  have hz0 : w2.cell? ⟨w.heap.size, 0, none⟩ = some (.int .i64 0) := (blk_cell BKq.out 0).trans rfl
  have hz1 : w2.cell? ⟨w.heap.size, 1, none⟩ = some (.int .i64 0) := (blk_cell BKq.out 1).trans rfl
  have hz2 : w2.cell? ⟨w.heap.size, 2, none⟩ = some (.int .i64 0) := (blk_cell BKq.out 2).trans rfl
  have hz3 : w2.cell? ⟨w.heap.size, 3, none⟩ = some (.slice none 0 0) := (blk_cell BKq.out 3).trans rfl
  have hf0 := blk_frozen BKq.out 0
  have hf1 := blk_frozen BKq.out 1
  have hf2 := blk_frozen BKq.out 2
  have hf3 := blk_frozen BKq.out 3
  go_wp2
  have BK2 := blk_put (blk_put (blk_put (blk_put BKq.out 0 (.int .i64 0) rfl) 1 (.int .i64 0) rfl) 2 (.int .i64 0) rfl) 3 (.slice none 0 0) rfl
  have HB2 := Aside0.mk (below_set (j := 3) (v := .slice none 0 0) (below_set (j := 2) (v := .int .i64 0) (below_set (j := 1) (v := .int .i64 0) (below_set (j := 0) (v := .int .i64 0) HBq.out (Nat.le_refl _)) (Nat.le_refl _)) (Nat.le_refl _)) (Nat.le_refl _))
  refine bodyPost_ret (results_cell_tmp (ty := 59) (p := 2) (u := 3) ?r1 _ _ w.heap.size 59 _ (0, 0) _ ?r2 BK2 hu ?r3 ?r4) ?r5 ?r6
  case r1 => rfl
  case r2 => rfl
  case r3 => rfl
  case r4 => exact info4
  case r5 => rfl
  case r6 => exact ⟨rfl, HB2.out⟩
set_option maxHeartbeats 8000000 in
set_option maxRecDepth 100000 in
theorem decode_sum (A : Option Addr) (c : Nat) (xs : List Int) (w : World) (hr : Bs w A xs) (hc : xs.length ≤ c) (hb : Byt xs) (hs : ¬ (xs.length < 7 ∨ 1024 < xs.length)) (hw : xs.getD 0 0 * 256 + xs.getD 1 0 = xs.length) (hsum : ¬ (xs.take (xs.length - 1)).sum % 256 = xs.getD (xs.length - 1) 0) :
    Calls Try.prog 31 #[.slice A xs.length c] w fun e w' => e = .returned (.tuple #[.agg #[.int .i64 0, .int .i64 0, .int .i64 0, .slice none 0 0], .int .i64 200]) ∧ Below w.heap.size w w' := by
  have hu := Try.underlying59
  have h7 : 7 ≤ xs.length := by omega
  have h1024 : xs.length ≤ 1024 := by omega
  have hlen : (((xs.length : Int) - 1).toNat) = xs.length - 1 := by omega
  have HR := Aside0.mk hr
  obtain ⟨a0, rfl, hc0⟩ := Kd.at_int hr 0 (by omega) (by omega)
  obtain ⟨a1, e1, hc1⟩ := Kd.at_int hr 1 (by omega) (by omega)
  cases e1
  obtain ⟨hx0, hx0'⟩ : 0 ≤ rd xs 0 ∧ rd xs 0 < 256 := rd_byt hb 0 (by omega)
  obtain ⟨hx1, hx1'⟩ : 0 ≤ rd xs 1 ∧ rd xs 1 < 256 := rd_byt hb 1 (by omega)
  have e0 : rd xs 0 = xs.getD 0 0 := by simp [rd]
  have e1 : rd xs 1 = xs.getD 1 0 := by simp [rd]
  have d1 : decide ((xs.length : Int) < 7) = false := decide_eq_false (by omega)
  have d2 : decide ((1024 : Int) < xs.length) = false := decide_eq_false (by omega)
  have p0 : 0 < xs.length := by omega
  have p1 : (1 : Int) < xs.length := by omega
  obtain ⟨a9, e9, hc9⟩ := Kd.at_int hr ((xs.length : Int) - 1) (by omega) (by omega)
  cases e9
  have hy : rd xs ((xs.length : Int) - 1) = xs.getD (xs.length - 1) 0 := by
    rw [show (xs.length : Int) - 1 = ((xs.length - 1 : Nat) : Int) by omega]; simp [rd]
  rw [hy] at hc9
  rw [← e0, ← e1] at hw
  have hor := or_walk _ _ hx0 hx0' hx1 hx1'
  obtain ⟨i0, hi0, _, hsz, _⟩ := info_parts info5
  obtain ⟨hcut, hA2, hC2⟩ := print_take_of (P := Try.prog) (Value.int .u8) 0 32 5 .i64 Try.underlying32 hi0 hsz (some a0) c xs ((xs.length : Int) - 1) (by omega) (by omega) hc
  rw [hlen] at hcut hA2 hC2
  have HT := Aside0.mk (Kd.C_of_reads (h1 := fun _ => rfl) (hA2 _ (Kd.reads_of_C HR.out)) : Bs w (some a0) (xs.take (xs.length - 1)))
  have htl : Aside0 ((xs.take (xs.length - 1)).length < 100000000) := ⟨by rw [List.length_take]; omega⟩
  have hC2' := Aside0.mk hC2
  have hwl : IntKind.i64.wrap ((xs.length : Int) - 1) = (xs.length : Int) - 1 := by rw [IntKind.wrap_i64]; omega
  clear hr hs e0 e1 h1024 hA2 hC2 hy hi0 hsz
  generalize xs.take (xs.length - 1) = hd at *
  generalize xs.getD (xs.length - 1) 0 = y at *
  generalize rd xs 0 = x0 at *
  generalize rd xs 1 = x1 at *
  have hwb : (x0 * 256 + x1 == (xs.length : Int)) = true := beq_iff_eq.mpr hw
  have hwn : (x0 * 256 + x1 != (xs.length : Int)) = false := bne_eq_false_iff_eq.mpr hw
  have hsb : (hd.sum % 256 == y) = false := beq_eq_false_iff_ne.mpr hsum
  have hsn : (hd.sum % 256 != y) = true := bne_iff_ne.mpr hsum
  clear hx0 hx0' hx1 hx1' hw hsum
  go_enter Try.func31, Try.ntmps31
  go_wp2_with fail
  have BK := Aside0.mk (blk_new w (.cells #[.int .i64 0, .int .i64 0, .int .i64 0, .slice none 0 0] 59))
  have HB := Aside0.mk ((Below.refl w.heap.size w).alloc (Nat.le_refl _) (.cells #[.int .i64 0, .int .i64 0, .int .i64 0, .slice none 0 0] 59))
  generalize w.alloc (.cells #[.int .i64 0, .int .i64 0, .int .i64 0, .slice none 0 0] 59) = w1 at *
  have q0 : w1.cell? a0 = some (.int .u8 x0) := (HB.out.cell (World.block_lt_of_cell? w _ hc0)).trans hc0
  have q1 : w1.cell? ⟨a0.block, a0.off + 1, none⟩ = some (.int .u8 x1) := (HB.out.cell (World.block_lt_of_cell? w _ hc1)).trans hc1
  have q9 : w1.cell? (a0.add (xs.length - 1)) = some (.int .u8 y) := by rw [← hlen]; exact (HB.out.cell (World.block_lt_of_cell? w _ hc9)).trans hc9
  have HT1 := Aside0.mk (Kd.C_below HT.out HB.out)
  have p9 : (1 : Int) ≤ (xs.length : Int) := by omega
  have p9' : (xs.length : Int) - 1 < (xs.length : Int) := by omega
  clear hc0 hc1 hc9
  refine wp_region_quiet_lit (by kernel_rfl) (by kernel_rfl) ?_
  repeat (quiet_step (fail))
  refine wpQuiet_step (fun K hK => ?_)
  go_simp
  refine ⟨_, fun n => Calls.quiet_of ((control_sum.calls (hd.length + 1) (some a0) c hd (hd.sum % 256) (w1.drewN n) (Kd.C_drewN HT1.out n) hC2'.out (sum_f hd htl.out)).mono (fun e w' h => ⟨h.1, by obtain ⟨m, hm⟩ := h.2; exact ⟨m, hm⟩⟩)), ?_⟩
  refine hK _ ?_
  clear hK K
  repeat (quiet_step (fail))
  refine wpQuiet_nil ?_
  rintro _ ⟨nq, rfl⟩
  clear hor q0 q1 q9 p0 p1 p9 p9' hc hb d1 d2 h7 hlen hcut hwl
  have BKq : Aside0 ((w1.drewN nq).heap[w.heap.size]? = some (.cells #[.int .i64 0, .int .i64 0, .int .i64 0, .slice none 0 0] 59 (0, 0))) := ⟨BK.out⟩
  have HBq : Aside0 (Below w.heap.size w (w1.drewN nq)) := ⟨pw_below_drewN HB.out nq⟩
  clear BK HB
  generalize w1.drewN nq = w2 at *
  have hz0 : w2.cell? ⟨w.heap.size, 0, none⟩ = some (.int .i64 0) := (blk_cell BKq.out 0).trans rfl
  have hz1 : w2.cell? ⟨w.heap.size, 1, none⟩ = some (.int .i64 0) := (blk_cell BKq.out 1).trans rfl
  have hz2 : w2.cell? ⟨w.heap.size, 2, none⟩ = some (.int .i64 0) := (blk_cell BKq.out 2).trans rfl
  have hz3 : w2.cell? ⟨w.heap.size, 3, none⟩ = some (.slice none 0 0) := (blk_cell BKq.out 3).trans rfl
  have hf0 := blk_frozen BKq.out 0
  have hf1 := blk_frozen BKq.out 1
  have hf2 := blk_frozen BKq.out 2
  have hf3 := blk_frozen BKq.out 3
  go_wp2
  have BK2 := blk_put (blk_put (blk_put (blk_put BKq.out 0 (.int .i64 0) rfl) 1 (.int .i64 0) rfl) 2 (.int .i64 0) rfl) 3 (.slice none 0 0) rfl
  have HB2 := Aside0.mk (below_set (j := 3) (v := .slice none 0 0) (below_set (j := 2) (v := .int .i64 0) (below_set (j := 1) (v := .int .i64 0) (below_set (j := 0) (v := .int .i64 0) HBq.out (Nat.le_refl _)) (Nat.le_refl _)) (Nat.le_refl _)) (Nat.le_refl _))
  refine bodyPost_ret (results_cell_tmp (ty := 59) (p := 2) (u := 3) ?r1 _ _ w.heap.size 59 _ (0, 0) _ ?r2 BK2 hu ?r3 ?r4) ?r5 ?r6
  case r1 => rfl
  case r2 => rfl
  case r3 => rfl
  case r4 => exact info4
  case r5 => rfl
  case r6 => exact ⟨rfl, HB2.out⟩
set_option maxHeartbeats 8000000 in
set_option maxRecDepth 100000 in
theorem decode_bad (A : Option Addr) (c : Nat) (xs : List Int) (w : World) (hr : Bs w A xs) (hc : xs.length ≤ c) (hb : Byt xs) (h : ¬ Fr xs) :
    Calls Try.prog 31 #[.slice A xs.length c] w fun e w' => e = .returned (.tuple #[.agg #[.int .i64 0, .int .i64 0, .int .i64 0, .slice none 0 0], .int .i64 200]) ∧ Below w.heap.size w w' := by
  by_cases hs : xs.length < 7 ∨ 1024 < xs.length
  · exact decode_short A c xs w hs
  by_cases hw : xs.getD 0 0 * 256 + xs.getD 1 0 = xs.length
  · exact decode_sum A c xs w hr hc hb hs hw (fun k => h ⟨by omega, by omega, hw, k⟩)
  · exact decode_word A c xs w hr hc hb hs hw

set_option maxHeartbeats 8000000 in
set_option maxRecDepth 100000 in
theorem decode_good (A : Option Addr) (c : Nat) (xs : List Int) (w : World) (hr : Bs w A xs) (hc : xs.length ≤ c) (hb : Byt xs) (hF : Fr xs) :
    Calls Try.prog 31 #[.slice A xs.length c] w fun e w' => ∃ v, e = .returned (.tuple #[.agg #[.int .i64 (xs.getD 2 0), .int .i64 (seqOf xs), .int .i64 (xs.getD 5 0), v], .int .i64 0]) ∧ Own w' w.heap.size v (body xs) ∧ Below w.heap.size w w'   := by
  obtain ⟨hs7, hs1024, hw, hsum⟩ := hF
  have hs : ¬ (xs.length < 7 ∨ 1024 < xs.length) := by omega
  clear hs7 hs1024
  have hu := Try.underlying59
  have h7 : 7 ≤ xs.length := by omega
  have h1024 : xs.length ≤ 1024 := by omega
  have hlen : (((xs.length : Int) - 1).toNat) = xs.length - 1 := by omega
  have HR := Aside0.mk hr
  obtain ⟨a0, rfl, hc0⟩ := Kd.at_int hr 0 (by omega) (by omega)
  obtain ⟨a1, e1, hc1⟩ := Kd.at_int hr 1 (by omega) (by omega)
  cases e1
  obtain ⟨hx0, hx0'⟩ : 0 ≤ rd xs 0 ∧ rd xs 0 < 256 := rd_byt hb 0 (by omega)
  obtain ⟨hx1, hx1'⟩ : 0 ≤ rd xs 1 ∧ rd xs 1 < 256 := rd_byt hb 1 (by omega)
  have e0 : rd xs 0 = xs.getD 0 0 := by simp [rd]
  have e1 : rd xs 1 = xs.getD 1 0 := by simp [rd]
  have d1 : decide ((xs.length : Int) < 7) = false := decide_eq_false (by omega)
  have d2 : decide ((1024 : Int) < xs.length) = false := decide_eq_false (by omega)
  have p0 : 0 < xs.length := by omega
  have p1 : (1 : Int) < xs.length := by omega
  obtain ⟨a9, e9, hc9⟩ := Kd.at_int hr ((xs.length : Int) - 1) (by omega) (by omega)
  cases e9
  have hy : rd xs ((xs.length : Int) - 1) = xs.getD (xs.length - 1) 0 := by
    rw [show (xs.length : Int) - 1 = ((xs.length - 1 : Nat) : Int) by omega]; simp [rd]
  rw [hy] at hc9
  rw [← e0, ← e1] at hw
  have hor := or_walk _ _ hx0 hx0' hx1 hx1'
  obtain ⟨i0, hi0, _, hsz, _⟩ := info_parts info5
  obtain ⟨hcut, hA2, hC2⟩ := print_take_of (P := Try.prog) (Value.int .u8) 0 32 5 .i64 Try.underlying32 hi0 hsz (some a0) c xs ((xs.length : Int) - 1) (by omega) (by omega) hc
  rw [hlen] at hcut hA2 hC2
  obtain ⟨a2, ee2, hc2⟩ := Kd.at_int hr 2 (by omega) (by omega)
  obtain ⟨a3, ee3, hc3⟩ := Kd.at_int hr 3 (by omega) (by omega)
  obtain ⟨a4, ee4, hc4⟩ := Kd.at_int hr 4 (by omega) (by omega)
  obtain ⟨a5, ee5, hc5⟩ := Kd.at_int hr 5 (by omega) (by omega)
  cases ee2
  cases ee3
  cases ee4
  cases ee5
  have b2 : 0 ≤ rd xs 2 ∧ rd xs 2 < 256 := rd_byt hb 2 (by omega)
  have b3 : 0 ≤ rd xs 3 ∧ rd xs 3 < 256 := rd_byt hb 3 (by omega)
  have b4 : 0 ≤ rd xs 4 ∧ rd xs 4 < 256 := rd_byt hb 4 (by omega)
  have b5 : 0 ≤ rd xs 5 ∧ rd xs 5 < 256 := rd_byt hb 5 (by omega)
  have hw2 : IntKind.i64.wrap (rd xs 2) = rd xs 2 := by rw [IntKind.wrap_i64]; omega
  have hw5 : IntKind.i64.wrap (rd xs 5) = rd xs 5 := by rw [IntKind.wrap_i64]; omega
  have hor2 := or_walk _ _ b3.1 b3.2 b4.1 b4.2
  have f2 : xs.getD 2 0 = rd xs 2 := by simp [rd]
  have f5 : xs.getD 5 0 = rd xs 5 := by simp [rd]
  have fs : seqOf xs = rd xs 3 * 256 + rd xs 4 := by simp [rd, seqOf]
  rw [f2, f5, fs]
  obtain ⟨Am, hcutm, hAm, hCm⟩ := print_mid_of (P := Try.prog) (Value.int .u8) 0 32 5 .i64 .i64 Try.underlying32 hi0 hsz (some a0) c xs 6 ((xs.length : Int) - 1) (by omega) (by omega) (by omega) hc
  rw [hlen, show (6 : Int).toNat = 6 from rfl] at hcutm hAm hCm
  have HM := Aside0.mk (Kd.C_of_reads (h1 := fun _ => rfl) (hAm _ (Kd.reads_of_C HR.out)) : Bs w Am (body xs))
  have hCm' : Aside0 ((body xs).length ≤ c - 6) := ⟨hCm⟩
  have hml : Aside0 ((body xs).length < 100000000) := ⟨by rw [body_length]; omega⟩
  replace hcutm : ∀ W : World, (Instr.slice 32 (.slice (some a0) xs.length c) (some (.int .i64 6)) (some (.int .i64 ((xs.length : Int) - 1))) none).run Try.prog W = .ok (.slice Am (body xs).length (c - 6)) W := hcutm
  clear hAm hCm b2 b3 b4 b5 f2 f5 fs
  generalize rd xs 3 * 256 + rd xs 4 = sq at *
  generalize body xs = bd at *
  generalize rd xs 2 = x2 at *
  generalize rd xs 3 = x3 at *
  generalize rd xs 4 = x4 at *
  generalize rd xs 5 = x5 at *
  have HT := Aside0.mk (Kd.C_of_reads (h1 := fun _ => rfl) (hA2 _ (Kd.reads_of_C HR.out)) : Bs w (some a0) (xs.take (xs.length - 1)))
  have htl : Aside0 ((xs.take (xs.length - 1)).length < 100000000) := ⟨by rw [List.length_take]; omega⟩
  have hC2' := Aside0.mk hC2
  have hwl : IntKind.i64.wrap ((xs.length : Int) - 1) = (xs.length : Int) - 1 := by rw [IntKind.wrap_i64]; omega
  clear hr hs e0 e1 h1024 hA2 hC2 hy hi0 hsz
  generalize xs.take (xs.length - 1) = hd at *
  generalize xs.getD (xs.length - 1) 0 = y at *
  generalize rd xs 0 = x0 at *
  generalize rd xs 1 = x1 at *
  have hwb : (x0 * 256 + x1 == (xs.length : Int)) = true := beq_iff_eq.mpr hw
  have hwn : (x0 * 256 + x1 != (xs.length : Int)) = false := bne_eq_false_iff_eq.mpr hw
  have hsb : (hd.sum % 256 == y) = true := beq_iff_eq.mpr hsum
  have hsn : (hd.sum % 256 != y) = false := bne_eq_false_iff_eq.mpr hsum
  clear hx0 hx0' hx1 hx1' hw hsum
  go_enter Try.func31, Try.ntmps31
  go_wp2_with fail
  have BK := Aside0.mk (blk_new w (.cells #[.int .i64 0, .int .i64 0, .int .i64 0, .slice none 0 0] 59))
  have HB := Aside0.mk ((Below.refl w.heap.size w).alloc (Nat.le_refl _) (.cells #[.int .i64 0, .int .i64 0, .int .i64 0, .slice none 0 0] 59))
  generalize w.alloc (.cells #[.int .i64 0, .int .i64 0, .int .i64 0, .slice none 0 0] 59) = w1 at *
  have q0 : w1.cell? a0 = some (.int .u8 x0) := (HB.out.cell (World.block_lt_of_cell? w _ hc0)).trans hc0
  have q1 : w1.cell? ⟨a0.block, a0.off + 1, none⟩ = some (.int .u8 x1) := (HB.out.cell (World.block_lt_of_cell? w _ hc1)).trans hc1
  have q9 : w1.cell? (a0.add (xs.length - 1)) = some (.int .u8 y) := by rw [← hlen]; exact (HB.out.cell (World.block_lt_of_cell? w _ hc9)).trans hc9
  have HT1 := Aside0.mk (Kd.C_below HT.out HB.out)
  have p9 : (1 : Int) ≤ (xs.length : Int) := by omega
  have p9' : (xs.length : Int) - 1 < (xs.length : Int) := by omega
  clear hc0 hc1 hc9
  refine wp_region_quiet_lit (by kernel_rfl) (by kernel_rfl) ?_
  repeat (quiet_step (fail))
  refine wpQuiet_step (fun K hK => ?_)
  go_simp
  refine ⟨_, fun n => Calls.quiet_of ((control_sum.calls (hd.length + 1) (some a0) c hd (hd.sum % 256) (w1.drewN n) (Kd.C_drewN HT1.out n) hC2'.out (sum_f hd htl.out)).mono (fun e w' h => ⟨h.1, by obtain ⟨m, hm⟩ := h.2; exact ⟨m, hm⟩⟩)), ?_⟩
  refine hK _ ?_
  clear hK K
  repeat (quiet_step (fail))
  refine wpQuiet_nil ?_
  rintro _ ⟨nq, rfl⟩
  have BKq : Aside0 ((w1.drewN nq).heap[w.heap.size]? = some (.cells #[.int .i64 0, .int .i64 0, .int .i64 0, .slice none 0 0] 59 (0, 0))) := ⟨BK.out⟩
  have HBq : Aside0 (Below w.heap.size w (w1.drewN nq)) := ⟨pw_below_drewN HB.out nq⟩
  clear hor q0 q1 q9 p0 p1 p9 p9' hb d1 d2 hcut HT HT1 htl hC2' hwb hwn hsb hsn BK HB
  generalize w1.drewN nq = w2 at *
  have q2 : w2.cell? ⟨a0.block, a0.off + 2, none⟩ = some (.int .u8 x2) := (HBq.out.cell (World.block_lt_of_cell? w _ hc2)).trans hc2
  have q3 : w2.cell? ⟨a0.block, a0.off + 3, none⟩ = some (.int .u8 x3) := (HBq.out.cell (World.block_lt_of_cell? w _ hc3)).trans hc3
  have q4 : w2.cell? ⟨a0.block, a0.off + 4, none⟩ = some (.int .u8 x4) := (HBq.out.cell (World.block_lt_of_cell? w _ hc4)).trans hc4
  have q5 : w2.cell? ⟨a0.block, a0.off + 5, none⟩ = some (.int .u8 x5) := (HBq.out.cell (World.block_lt_of_cell? w _ hc5)).trans hc5
  have p2 : (2 : Int) < xs.length := by omega
  have p3 : (3 : Int) < xs.length := by omega
  have p4 : (4 : Int) < xs.length := by omega
  have p5 : (5 : Int) < xs.length := by omega
  have p6 : 2 < xs.length := by omega
  have p7 : 3 < xs.length := by omega
  have p8 : 4 < xs.length := by omega
  have p9 : 5 < xs.length := by omega
  have hne : a0.block ≠ w.heap.size := Nat.ne_of_lt (World.block_lt_of_cell? w ⟨a0.block, a0.off + 2, none⟩ hc2)
  have Hne := Aside0.mk hne
  clear hne
  clear hc2 hc3 hc4 hc5 h7 hlen hc
  go_wp2_with fail
  have BKd := Aside0.mk (show w2.drew.heap[w.heap.size]? = some (.cells #[.int .i64 0, .int .i64 0, .int .i64 0, .slice none 0 0] 59 (0, 0)) from BKq.out)
  have HMd := Aside0.mk (show Bs w2.drew Am bd from Kd.C_drew (Kd.C_below HM.out HBq.out))
  have HBd := Aside0.mk (show Below w.heap.size w w2.drew from HBq.out.drew)
  have q2d : w2.drew.cell? ⟨a0.block, a0.off + 2, none⟩ = some (.int .u8 x2) := q2
  have q3d : w2.drew.cell? ⟨a0.block, a0.off + 3, none⟩ = some (.int .u8 x3) := q3
  have q4d : w2.drew.cell? ⟨a0.block, a0.off + 4, none⟩ = some (.int .u8 x4) := q4
  have q5d : w2.drew.cell? ⟨a0.block, a0.off + 5, none⟩ = some (.int .u8 x5) := q5
  clear BKq HM HBq q2 q3 q4 q5
  go_region_held3 (fun w' => w'.cell? ⟨a0.block, a0.off + 2, none⟩ = some (.int .u8 x2) ∧ w'.cell? ⟨a0.block, a0.off + 3, none⟩ = some (.int .u8 x3) ∧ w'.cell? ⟨a0.block, a0.off + 4, none⟩ = some (.int .u8 x4) ∧ w'.cell? ⟨a0.block, a0.off + 5, none⟩ = some (.int .u8 x5)) (first | exact ⟨by with_reducible assumption, by with_reducible assumption, by with_reducible assumption, by with_reducible assumption⟩ | exact ⟨cell_far4 Hne.out (by with_reducible assumption), cell_far4 Hne.out (by with_reducible assumption), cell_far4 Hne.out (by with_reducible assumption), cell_far4 Hne.out (by with_reducible assumption)⟩) (first
    | (go_at_call 51; (with_reducible refine (clone_any Am (c - 6) bd _ HMd.out hCm'.out hml.out).mono ?_); rintro e w3 ⟨v, rfl, ho, hb⟩; obtain ⟨A3, c3, rfl, hcc3, _⟩ := Kd.R_reads ho; have q23 := pw_cell_below hb q2d; have q33 := pw_cell_below hb q3d; have q43 := pw_cell_below hb q4d; have q53 := pw_cell_below hb q5d; have BK3 := Aside0.mk (blk_below (g := w.heap.size) BKd.out hb); have HB3 := Aside0.mk (HBd.out.trans (hb.mono HBd.out.size)); have HO3 := Aside0.mk (Kd.R_bound ho); have HS3 := Aside0.mk (blk_lt BKd.out); have HZ3 := Aside0.mk HBd.out.size; have hz0 : w3.cell? ⟨w.heap.size, 0, none⟩ = some (.int .i64 0) := (blk_cell BK3.out 0).trans rfl; have hz1 : w3.cell? ⟨w.heap.size, 1, none⟩ = some (.int .i64 0) := (blk_cell BK3.out 1).trans rfl; have hz2 : w3.cell? ⟨w.heap.size, 2, none⟩ = some (.int .i64 0) := (blk_cell BK3.out 2).trans rfl; have hz3 : w3.cell? ⟨w.heap.size, 3, none⟩ = some (.slice none 0 0) := (blk_cell BK3.out 3).trans rfl; have hf0 := blk_frozen BK3.out 0; have hf1 := blk_frozen BK3.out 1; have hf2 := blk_frozen BK3.out 2; have hf3 := blk_frozen BK3.out 3; clear hcc3 ho hb p2 p3 p4 p5 p6 p7 p8 p9 hw2 hw5 hor2 hwl hcutm q2d q3d q4d q5d))
  all_goals
    clear q23 q33 q43 q53
    go_wp2
    have BK2 := blk_put (blk_put (blk_put (blk_put BK3.out 0 (.int .i64 x2) rfl) 1 (.int .i64 sq) rfl) 2 (.int .i64 x5) rfl) 3 (.slice A3 bd.length c3) rfl
    have HB2 := below_set (j := 3) (v := .slice A3 bd.length c3) (below_set (j := 2) (v := .int .i64 x5) (below_set (j := 1) (v := .int .i64 sq) (below_set (j := 0) (v := .int .i64 x2) HB3.out (Nat.le_refl _)) (Nat.le_refl _)) (Nat.le_refl _)) (Nat.le_refl _)
    have hne : ∀ (j k : Nat), (True ∧ w2.drew.heap.size ≤ k ∧ k < w3.heap.size ∧ ∃ q, q ∈ 5 :: (Kd.int IntKind.u8).E ∧ ∃ cells, w3.heap[k]? = some (.cells cells q (0, 0))) → k ≠ (⟨w.heap.size, j, none⟩ : Addr).block := by
      intro j k hk
      have := HS3.out
      have := hk.2.1
      show k ≠ w.heap.size
      omega
    have HO2 := Kd.R_lower (Kd.R_mono (Kd.R_far (Kd.R_far (Kd.R_far (Kd.R_far HO3.out (hne 0) (.int .i64 x2)) (hne 1) (.int .i64 sq)) (hne 2) (.int .i64 x5)) (hne 3) (.slice A3 bd.length c3)) (fun _ _ => trivial)) HZ3.out
    refine bodyPost_ret (results_cell_tmp (ty := 59) (p := 2) (u := 3) ?r1 _ _ w.heap.size 59 _ (0, 0) _ ?r2 BK2 hu ?r3 ?r4) ?r5 ?r6
    case r1 => rfl
    case r2 => rfl
    case r3 => rfl
    case r4 => exact info4
    case r5 => rfl
    case r6 => exact ⟨_, rfl, HO2, HB2⟩
end Go.Proofs.Ythjholnpkpkakaa.Decode
