/- The walk of DiskLast: a sector is what was written to it last: the call returns true and leaves all memory that was there as it was. No condition. -/
import Derived.Test.YtlalaifbipmgeaaLaw01
import Derived.StillTailTactics
namespace Go.Proofs.Ytlalaifbipmgeaa.DiskLastWalk
open Go.RowKit Go.Proofs.YtlalaifbipmgeaaW.PrintWords Go.Proofs.Ytlalaifbipmgeaa.MWorld Go.Proofs.Ytlalaifbipmgeaa.MArgs Go.Proofs.Ytlalaifbipmgeaa.Disk Go.Proofs.Ytlalaifbipmgeaa.Law01

set_option maxRecDepth 100000 in
set_option maxHeartbeats 2000000 in
theorem walk (A0 : Option Addr) (c0 : Nat) (l0 : List Stp) (a1 : Int) (w : World) (w0 : ScriptIn w A0 c0 l0) (w1 : (Lit.int .i64 a1).wf = true) :
    Calls Try.prog 6 #[.slice A0 l0.length c0, .int .i64 a1] w fun e w' => e = .returned (.bool true) ∧ Below w.heap.size w w' := by
  have HS := Lib.hid w0
  clear w0
  obtain ⟨hi0, hi1⟩ := bounds_i64 w1
  clear w1
  go_enter Try.func6, Try.ntmps6
  go_wp2_with fail
  refine (heavy_any A0 c0 l0 w w HS.out (Below.refl _ _)).mono ?_
  rintro e w1 ⟨b, rfl, hb, rfl⟩
  cases b with
  | true =>
    go_wp2
    go_ret
    exact ⟨rfl, Below.refl _ _⟩
  | false =>
    have hl := hb rfl
    clear hb
    go_wp2_with fail
    refine (new_any _).mono ?_
    rintro e w1 ⟨rfl, hd, hbel⟩
    have HD := Lib.hid hd
    have HB := Lib.hid hbel
    clear hd hbel
    go_wp2_with fail
    obtain ⟨s, hs0, hs1, hs⟩ : ∃ s : Int, 0 ≤ s ∧ s < 160 ∧ (wrap64 (a1.tmod 160 + 160)).tmod 160 = s := by
      have hw1 := Int.lt_tmod_of_pos a1 (b := 160) (by omega)
      have hw2 := Int.tmod_lt_of_pos a1 (b := 160) (by omega)
      refine ⟨_, ?_, ?_, rfl⟩
      · rw [IntWalk.wrap64_in _ (by omega)]; exact Int.tmod_nonneg _ (by omega)
      · exact Int.tmod_lt_of_pos _ (by omega)
    rw [hs]
    clear hs
    go_loopw [6, 7, 8] (fun t i _ wr => ∃ (d : Dk) (k : Nat), k ≤ l0.length ∧ i = .int .i64 k ∧ t = .string (d.S s.toNat) ∧ Hid (CalmD d k) ∧ Hid (DiskAt wr w.heap.size d) ∧ Hid (Below w.heap.size w wr)) (fun _ i _ _ => l0.length - (intOf i).toNat)
    case atStart => exact ⟨Dk.new, 0, by omega, rfl, rfl, ⟨rfl, rfl, by decide, by decide⟩, HD, HB⟩
    case round =>
      clear HD HB
      obtain ⟨d, k, hk, rfl, rfl, HC, HD, HB⟩ := hrel
      by_cases hlt : k < l0.length
      · obtain ⟨ad, rfl, h0, h1, h2, hb1, hb2, hsz⟩ := ScriptIn.cells HS.out HB (List.getElem?_eq_getElem hlt)
        have hx := List.getElem?_eq_getElem hlt
        generalize l0[k] = x at *
        have HX := Lib.hid hx
        clear hx
        obtain ⟨x0, x1, x2⟩ := x
        simp only at h0 h1 h2 hb1 hb2 hsz
        go_wp2_with fail
        go_still_tail 11, (by kernel_rfl)
        change wpList _ _ _ _ _ wr.drew
        have HD2 : Hid (DiskAt wr.drew w.heap.size d) := DiskAt.drew HD
        have HB2 : Hid (Below w.heap.size w wr.drew) := Below.drew HB
        clear HD HB h0 h1 h2
        generalize wr.drew = w2 at *
        go_wp2_with fail
        refine (write_any _ _ _ d _ HD2 HC.made0 (by have := HC.made1; omega) (by rw [HC.left]; omega)).mono ?_
        rintro e w3 ⟨rfl, hd3, hu3⟩
        have HB3 : Hid (Below w.heap.size w w3) := below_upd HB2 hu3 HB2.size (fun k hk => by cases hk; exact Nat.le_refl _)
        have HD3 := Lib.hid hd3
        have HC3 : Hid (CalmD (d.write x1 x2) (k + 1)) := HC.write _ _
        clear hd3 hu3 HD2 HB2
        obtain ⟨ad', ha, h0, h1, h2, _, _, _⟩ := ScriptIn.cells HS.out HB3 HX.out
        cases ha
        simp only at h0 h1 h2
        by_cases hn : x1 = s
        · have hnb : (x1 == s) = true := beq_iff_eq.2 hn
          by_cases ht : x2.size ≤ 512
          · have HW : Hid ((d.write x1 x2).S s.toNat = x2) := by rw [← hn]; exact HC.same (by omega) (by omega) ht
            have hcode : d.code x1 x2 = 0 := HC.code (by omega) (by omega) ht
            rw [hcode]
            clear hcode hn
            go_wp2
            go_roundw
            case rel => exact ⟨_, k + 1, by omega, by go_num, by rw [HW.out], HC3, HD3, HB3⟩
            case measure => simp [intOf]; omega
          · have HW : Hid ((d.write x1 x2).S s.toNat = d.S s.toNat) := write_other d hs0 (fun h => ht h.2)
            clear hn
            go_wp2
            go_roundw
            case rel => exact ⟨_, k + 1, by omega, by go_num, by rw [HW.out], HC3, HD3, HB3⟩
            case measure => simp [intOf]; omega
        · have hnb : (x1 == s) = false := beq_eq_false_iff_ne.2 hn
          have HW : Hid ((d.write x1 x2).S s.toNat = d.S s.toNat) := write_other d hs0 (fun h => hn h.1)
          clear hn
          go_wp2
          go_roundw
          case rel => exact ⟨_, k + 1, by omega, by go_num, by rw [HW.out], HC3, HD3, HB3⟩
          case measure => simp [intOf]; omega
      · go_wp2_with fail
        refine (read_yes _ _ d _ hs0 hs1 HD).mono ?_
        rintro e w3 ⟨rfl, rfl⟩
        go_wp2_with fail
        refine (read_no _ _ _ (by omega)).mono ?_
        rintro e w3 ⟨rfl, rfl⟩
        go_wp2_with fail
        refine (read_no _ _ _ (by omega)).mono ?_
        rintro e w3 ⟨rfl, rfl⟩
        generalize d.S s.toNat = x at *
        go_wp2
        go_ret
        exact ⟨rfl, HB⟩
end Go.Proofs.Ytlalaifbipmgeaa.DiskLastWalk
