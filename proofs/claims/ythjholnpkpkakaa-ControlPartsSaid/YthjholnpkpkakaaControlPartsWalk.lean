/- The walk of ControlParts: bytes that are told part by part are the bytes: the call returns true and leaves all memory that was there as it was. No condition. -/
import Derived.Test.YthjholnpkpkakaaNumbers
import Derived.Test.YthjholnpkpkakaaMArgs
import Derived.Test.YthjholnpkpkakaaMWorld
import Derived.Deep.QuietTactic
import Derived.BigQuiet
namespace Go.Proofs.Ythjholnpkpkakaa.ControlPartsWalk
open Go.RowKit Go.Proofs.YthjholnpkpkakaaW.PrintWords Go.Proofs.YthjholnpkpkakaaW.PrintMore Go.Proofs.Ythjholnpkpkakaa.MWorld Go.Proofs.Ythjholnpkpkakaa.MArgs Go.Proofs.Ythjholnpkpkakaa.Parts Go.Proofs.Ythjholnpkpkakaa.Numbers Go.Proofs.Ythjholnpkpkakaa.PControlFrames
set_option linter.unusedVariables false

set_option maxRecDepth 100000 in
set_option maxHeartbeats 4000000 in
theorem walk (A0 : Option Addr) (c0 : Nat) (l0 : List Int) (a1 : Int) (w : World) (w0 : IntsIn .u8 1 w A0 c0 l0) (w1 : (Lit.int .u8 a1).wf = true) :
    Calls Try.prog 4 #[.slice A0 l0.length c0, .int .u8 a1] w fun e w' => e = .returned (.bool true) ∧ Below w.heap.size w w' := by
  have HR : Hid (Bs w A0 l0) := Kd.C_of_reads (h1 := fun _ => rfl) w0.reads
  have hroom := w0.room
  have hlm : l0.length ≤ 4611686018427387904 := by have := w0.bytes; omega
  obtain ⟨hi0, hi1⟩ := bounds_u8 w1
  clear w0 w1
  by_cases hbig : l0.length ≤ 16384
  · have hN0 : 0 < a1 % 50 + 1 := by omega
    have hN1 : a1 % 50 + 1 ≤ 50 := by omega
    have htm : a1.tmod 50 = a1 % 50 := Int.tmod_eq_emod_of_nonneg hi0
    have hB0 := (Below.refl w.heap.size w).alloc (Nat.le_refl _) (.cells #[] 5)
    go_enter Try.func4, Try.ntmps4
    go_wp2_with fail
    clear htm
    have HO : Aside0 (Own (w.alloc (.cells #[] 5)) w.heap.size (.slice (some ⟨w.heap.size, 0, none⟩) 0 0) []) :=
      ⟨⟨fun _ _ => trivial, [], World.ownsRow_lit (base := w.heap.size) (e := 5) (size := 1) w #[] 0 (Nat.le_refl _) (by simp) rfl, Reps.none _ _⟩⟩
    have HB := Aside0.mk hB0
    clear hB0
    generalize a1 % 50 + 1 = n at *
    generalize w.alloc (.cells #[] 5) = wm at *
    go_loopw [6, 7] (fun v i wr => ∃ k : Int, 0 ≤ k ∧ k < 16384 + 51 ∧ i = .int .i64 k ∧ Aside0 (Own wr w.heap.size v (l0.take k.toNat)) ∧ Aside0 (Below w.heap.size w wr)) (fun _ i _ => l0.length - (intOf i).toNat)
    case atStart => exact ⟨0, by omega, by omega, rfl, HO, HB⟩
    case round =>
      clear HO HB
      obtain ⟨k, hk0, hk1, rfl, HO, HB⟩ := hrel
      by_cases hlt : k < l0.length
      · have hpart : cutB l0 k n = (l0.drop k.toNat).take n.toNat := by rw [cutB, if_neg (by omega)]
        have hpl : (cutB l0 k n).length ≤ n ∧ 0 < ((cutB l0 k n).length : Int) := by
          rw [hpart, List.length_take, List.length_drop]; omega
        have hnx : Aside0 (l0.take (k + n).toNat = l0.take k.toNat ++ cutB l0 k n) := ⟨by
          rw [hpart, show (k + n).toNat = k.toNat + n.toNat by omega, List.take_add]⟩
        have hbl : Aside0 ((l0.take k.toNat).length ≤ 16384) := ⟨by rw [List.length_take]; omega⟩
        obtain ⟨hp1, hp2⟩ := hpl
        clear hpart
        go_wp2_with fail
        refine (part_any A0 c0 l0 k n _ (Kd.C_below HR.out HB.out) hroom (by omega)).mono ?_
        rintro e w2 ⟨v, rfl, ho, hb⟩
        obtain ⟨A2, c2, rfl, hc2, hC2⟩ := Kd.R_reads ho
        have HC2 := Aside0.mk hC2
        have HB2 := Aside0.mk (below_step HB.out hb)
        have HO2 := Aside0.mk (Kd.R_below HO.out hb)
        clear ho hb hC2 HO HB hc2
        generalize cutB l0 k n = ps at *
        generalize hxs : l0.take k.toNat = xs at *
        clear hxs
        have hp2b : ((ps.length : Int) == 0) = false := beq_eq_false_iff_ne.mpr (by omega)
        go_wp2_with (first | ((with_reducible refine gate_builtin (b := .append) (xs := #[.tmp 37, .tmp 38]) rfl ?_); at_builtin; refine Kd.R_append_rows (Kd.int .u8) (w0 := w) w.heap.size rfl (.tmp 37) (.tmp 38) 32 5 (.int .u8 0) 1 rfl Try.underlying32 info5 rfl (by decide) (by omega) u6 xs ps _ _ _ (fun _ => True) (fun _ => False) rfl rfl HO2.out HC2.out (fun _ _ h => h) (fun _ h => h.elim) (fun _ _ => trivial) HB2.out (below_size HB2.out) (by have := hbl.out; omega) ?_; intro v3 w3 ho hb hg hat; rw [← hnx.out] at ho; have HO3 := Aside0.mk ho; have HB3 := Aside0.mk hb; clear ho hb hg hat))
        go_roundw
        case rel => exact ⟨k + n, by omega, by omega, by go_num, HO3, HB3⟩
        case measure => simp [intOf]; omega
      · rw [List.take_of_length_le (by omega)] at HO
        obtain ⟨A6, c6, rfl, hc6, hC6⟩ := Kd.R_reads HO.out
        have hs1 := Kd.C_string (P := Try.prog) (src := 32) (dst := 9) (c := c6) Try.underlying32 Try.underlying5 Try.underlying9 hC6
        have hs2 := Kd.C_string (P := Try.prog) (src := 32) (dst := 9) (c := c0) Try.underlying32 Try.underlying5 Try.underlying9 (Kd.C_below HR.out HB.out)
        clear hc6 hC6 HO
        go_wp2_with fail
        refine (part_none A0 c0 l0 l0.length n _ (by omega)).mono ?_
        rintro e w2 ⟨rfl, rfl⟩
        go_wp2_with fail
        refine (part_none A0 c0 l0 (-1) n _ (by omega)).mono ?_
        rintro e w2 ⟨rfl, rfl⟩
        go_wp2_with fail
        have HL : Kd.R (Kd.int .i64) 3 (w2.alloc (.cells #[.int .i64 1, .int .i64 2] 3)) w2.heap.size (fun _ => True) (.slice (some ⟨w2.heap.size, 0, none⟩) 2 2) [1, 2] :=
          ⟨fun _ _ => trivial, [.int .i64 1, .int .i64 2], World.ownsRow_lit (base := w2.heap.size) (e := 3) (size := 1) w2 #[.int .i64 1, .int .i64 2] 2 (Nat.le_refl _) (by simp [maxLen]) rfl,
            Reps.snoc (Reps.snoc (Reps.none _ _) (show Kd.M (Kd.int .i64) _ _ _ 1 [.int .i64 1] from rfl) rfl) (show Kd.M (Kd.int .i64) _ _ _ 2 [.int .i64 2] from rfl) rfl⟩
        obtain ⟨_, _, hC⟩ := Kd.R_reads' HL
        have HB2 := Aside0.mk (HB.out.alloc HB.out.size (.cells #[.int .i64 1, .int .i64 2] 3))
        clear HL HB hs1 hs2
        refine (numbers_any _ 2 [1, 2] _ hC (by decide) (by decide)).mono ?_
        rintro e w4 ⟨v, rfl, ho, hb⟩
        obtain ⟨A4, c4, rfl, _, _⟩ := Kd.R_reads ho
        have hl4 : (numbers [1, 2]).length = 16 := numbers_length _
        have HB4 := Aside0.mk (below_step HB2.out hb)
        clear ho hb hC HB2
        rw [hl4]
        go_wp2
        go_ret
        exact ⟨rfl, HB4.out⟩
  · go_enter Try.func4, Try.ntmps4
    go_wp2
    go_ret
    exact ⟨rfl, Below.refl _ _⟩
end Go.Proofs.Ythjholnpkpkakaa.ControlPartsWalk
