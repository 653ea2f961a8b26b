/- control.Numbers: what they answer, over byte lists. No condition but the sizes named. -/
import Derived.Test.YthjholnpkpkakaaParts
import Derived.WalkSpells
import Derived.Lib.Hide
namespace Go.Proofs.Ythjholnpkpkakaa.Numbers
open Go.RowKit Go.Proofs.YthjholnpkpkakaaW.PrintWords Go.Proofs.YthjholnpkpkakaaW.PrintLast Go.Proofs.YthjholnpkpkakaaW.PrintMore Go.Proofs.Ythjholnpkpkakaa.PControlFrames Go.Proofs.Ythjholnpkpkakaa.Parts
set_option linter.unusedVariables false
set_option linter.unusedSimpArgs false

/-- The eight bytes of a number, and of numbers. -/
def bytes8 (n : Int) : List Int := [56, 48, 40, 32, 24, 16, 8, 0].map (fun i : Nat => (n / 2 ^ i) % 256)
def numbers (l : List Int) : List Int := l.flatMap bytes8
/-- The bytes told while the shift is still above i. -/
def upto8 (n : Int) (i : Int) : List Int := (bytes8 n).take (((56 - i) / 8).toNat)
theorem bytes8_length (n : Int) : (bytes8 n).length = 8 := rfl
theorem numbers_length (l : List Int) : (numbers l).length = 8 * l.length := by
  unfold numbers
  induction l with
  | nil => rfl
  | cons a l ih => rw [List.flatMap_cons, List.length_append, ih, bytes8_length, List.length_cons]; omega

theorem make0 {P : Program} (t e : TypeId) (k : IntKind) (bytes : Nat) (ht : P.underlying t = some (.slice e)) (hinfo : (P.info? e).map (fun i => (i.zero, i.size, i.bytes)) = some (some (.int k 0), 1, bytes)) (n : Int) (h0 : 0 ≤ n) (hl : bytes * n.toNat ≤ 281474976710656) (hb0 : 0 < bytes) :
    ∀ W : World, (Instr.makeSlice t (.int .i64 0) (.int .i64 n)).run P W = .ok (.slice (some ⟨W.heap.size, 0, none⟩) 0 n.toNat) (W.alloc (.cells (madeCells #[.int k 0] n.toNat) e)) := by
  intro W
  obtain ⟨i0, hi, hzz⟩ := Option.map_eq_some_iff.1 hinfo
  simp only [Prod.mk.injEq] at hzz
  obtain ⟨hz0, hz1, hz2⟩ := hzz
  have hm : n.toNat ≤ 281474976710656 := Nat.le_trans (Nat.le_mul_of_pos_left _ hb0) hl
  have hb : (i0.bytes : Int) * n ≤ 281474976710656 := by
    have : ((i0.bytes * n.toNat : Nat) : Int) ≤ 281474976710656 := by rw [hz2]; exact Int.ofNat_le.mpr hl
    rw [Int.natCast_mul, Int.toNat_of_nonneg h0] at this
    exact this
  have hr := run_make (P := P) W t e i0 (.int k 0) ht hi hz0 .i64 .i64 0 n (Int.le_refl _) h0 hb (by omega)
  rw [hz1] at hr
  simpa [Value.cells] using hr
theorem own_make0 (W : World) (base e : Nat) (k : IntKind) (m : Nat) (hb : base ≤ W.heap.size) (hm : m ≤ 9223372036854775807) :
    Kd.R (Kd.int k) e (W.alloc (.cells (madeCells #[.int k 0] m) e)) base (fun _ => True) (.slice (some ⟨W.heap.size, 0, none⟩) 0 m) [] :=
  ⟨fun _ _ => trivial, [], ⟨rfl, .inr ⟨W.heap.size, m, _, rfl, hb, heap_alloc_new W _, Nat.zero_le _, by simpa [maxLen] using hm, by rw [size_madeCells]; exact (Nat.mul_one m).symm ▸ rfl, by simp⟩⟩, Reps.none _ _⟩

set_option maxHeartbeats 8000000 in
set_option maxRecDepth 100000 in
theorem numbers_any (A : Option Addr) (c : Nat) (xs : List Int) (w : World) (hr : Kd.C (Kd.int .i64) w A xs.length xs) (hc : xs.length ≤ c) (hl : xs.length ≤ 4096) :
    Calls Try.prog 18 #[.slice A xs.length c] w fun e w' => ∃ v, e = .returned v ∧ Own w' w.heap.size v (numbers xs) ∧ Below w.heap.size w w' := by
  have HR := Aside0.mk hr
  clear hr
  have hmk := make0 (P := Try.prog) 32 5 .u8 1 Try.underlying32 info5 (8 * (xs.length : Int)) (by omega) (by omega) (by omega)
  rw [show (8 * (xs.length : Int)).toNat = 8 * xs.length by omega] at hmk
  have HO := Aside0.mk (own_make0 w w.heap.size 5 .u8 (8 * xs.length) (Nat.le_refl _) (by omega))
  have HB := Aside0.mk ((Below.refl w.heap.size w).alloc (Nat.le_refl _) (.cells (madeCells #[Value.int IntKind.u8 0] (8 * xs.length)) 5))
  go_enter Try.func18, Try.ntmps18
  go_wp2_with fail
  clear hmk
  generalize w.alloc (.cells (madeCells #[Value.int IntKind.u8 0] (8 * xs.length)) 5) = wm at *
  go_loopw [3, 13] (fun v i wr => ∃ k : Nat, k ≤ xs.length ∧ i = .int .i64 k ∧ Aside0 (Own wr w.heap.size v (numbers (xs.take k))) ∧ Aside0 (Below w.heap.size w wr)) (fun _ i _ => xs.length - (intOf i).toNat)
  case atStart => exact ⟨0, by omega, rfl, HO, HB⟩
  case round =>
    clear HO HB
    obtain ⟨k, hk, rfl, HO, HB⟩ := hrel
    by_cases hlt : k < xs.length
    · obtain ⟨ad, e, hx0⟩ := Kd.at_int HR.out (k : Int) (by omega) (by omega)
      cases e
      replace hx0 := (HB.out.cell (World.block_lt_of_cell? w _ hx0)).trans hx0
      have hxs := Aside0.mk (List.take_succ_eq_append_getElem hlt)
      have hrd : rd xs k = xs[k] := by simp [rd, List.getD_eq_getElem?_getD, hlt]
      rw [hrd, Int.toNat_natCast] at hx0
      have hnx := Aside0.mk (show numbers (xs.take (k + 1)) = numbers (xs.take k) ++ bytes8 xs[k] by rw [hxs.out]; simp only [numbers, List.flatMap_append, List.flatMap_cons, List.flatMap_nil, List.append_nil])
      have hnl := Aside0.mk (numbers_length (xs.take k))
      clear hrd hxs
      generalize xs[k] = x at *
      have hlk : (numbers (xs.take k)).length ≤ 8 * k := by rw [numbers_length, List.length_take]; omega
      generalize numbers (xs.take k) = yk at *
      go_wp2_with fail
      clear hx0 hnl
      go_loopw [3, 6] (fun v i wr => ∃ j : Nat, j ≤ 8 ∧ i = .int .i64 (56 - 8 * (j : Int)) ∧ Aside0 (Own wr w.heap.size v (yk ++ (bytes8 x).take j)) ∧ Aside0 (Below w.heap.size w wr)) (fun _ i _ => (intOf i + 8).toNat)
      case atStart => exact ⟨0, by omega, rfl, by rw [List.take_zero, List.append_nil]; exact HO, HB⟩
      case round =>
        clear HO HB
        obtain ⟨j, hj, rfl, HO, HB⟩ := hrel
        by_cases hjlt : j < 8
        · obtain ⟨i, hi⟩ : ∃ i : Int, i = 56 - 8 * (j : Int) := ⟨_, rfl⟩
          have hi0 : 0 ≤ i := by omega
          have hi1 : i ≤ 56 := by omega
          obtain ⟨q, hq⟩ : ∃ q : Int, x / 2 ^ i.toNat = q := ⟨_, rfl⟩
          have hq2 : x / 2 ^ (min i.toNat 64) = q := by rw [Nat.min_eq_left (by omega)]; exact hq
          have hnj := Aside0.mk (show yk ++ (bytes8 x).take (j + 1) = (yk ++ (bytes8 x).take j) ++ [q % 256] by
            rw [List.append_assoc]; congr 1
            subst hq
            subst hi
            have : j = 0 ∨ j = 1 ∨ j = 2 ∨ j = 3 ∨ j = 4 ∨ j = 5 ∨ j = 6 ∨ j = 7 := by omega
            rcases this with rfl | rfl | rfl | rfl | rfl | rfl | rfl | rfl <;> simp [bytes8])
          have hlj : (yk ++ (bytes8 x).take j).length ≤ 8 * k + 8 := by rw [List.length_append, List.length_take, bytes8_length]; omega
          rw [← hi]
          generalize yk ++ (bytes8 x).take j = zk at *
          have hlz := Aside0.mk hlj
          have hkk := Aside0.mk (show 8 * k + 8 ≤ 40000 by omega)
          clear hlj
          have hi' := Aside0.mk hi
          have hj' := Aside0.mk hjlt
          clear hi hj hjlt
          go_wp2_with (first | ((with_reducible refine gate_builtin (b := .append) (xs := #[.tmp 21, .tmp 27]) rfl ?_); at_builtin; refine Kd.R_append (Kd.int .u8) (w0 := w) w.heap.size rfl (.tmp 21) (.tmp 27) 32 5 (.int .u8 0) 1 rfl Try.underlying32 info5 rfl (by decide) (by omega) u3 zk (q % 256) [.int .u8 (q % 256)] (fun _ => True) (fun _ => False) rfl rfl rfl (fun _ hk => hk.elim) (fun _ _ => trivial) (by (with_reducible repeat (first | apply Kd.R_alloc | apply Kd.R_drewN | apply Kd.R_drew)); exact HO.out) (by repeat (first | exact HB.out | apply below_alloc | apply pw_below_drewN | apply below_drew1)) (below_size (by repeat (first | exact HB.out | apply below_alloc | apply pw_below_drewN | apply below_drew1))) (by have := hlz.out; have := hkk.out; omega) ?_; intro v160 w12 ho hb hg hat; rw [← hnj.out] at ho; have HO1 := Aside0.mk ho; have HB1 := Aside0.mk hb; clear ho hb hg hat))
          go_roundw
          case rel => exact ⟨j + 1, by have := hj'.out; omega, by have := hi'.out; congr 1; omega, HO1, HB1⟩
          case measure => have := hi'.out; have := hj'.out; simp [intOf]; omega
        · obtain rfl : j = 8 := by omega
          rw [show (bytes8 x).take 8 = bytes8 x from rfl, ← hnx.out] at HO
          go_wp2
          go_roundw
          case rel => exact ⟨k + 1, by omega, by go_num, HO, HB⟩
          case measure => simp [intOf]; omega
    · obtain rfl : k = xs.length := by omega
      go_wp2
      go_ret
      rw [List.take_length] at HO
      exact ⟨_, rfl, HO.out, HB.out⟩
end Go.Proofs.Ythjholnpkpkakaa.Numbers
