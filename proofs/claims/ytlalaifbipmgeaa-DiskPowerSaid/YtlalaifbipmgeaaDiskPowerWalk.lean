/- The walk of DiskPower: power that is back undoes every order: the call returns true and leaves all memory that was there as it was. No condition. -/
import Derived.Test.YtlalaifbipmgeaaLaw01
import Derived.StillTailTactics
namespace Go.Proofs.Ytlalaifbipmgeaa.DiskPowerWalk
open Go.RowKit Go.Proofs.YtlalaifbipmgeaaW.PrintWords Go.Proofs.Ytlalaifbipmgeaa.MWorld Go.Proofs.Ytlalaifbipmgeaa.MArgs Go.Proofs.Ytlalaifbipmgeaa.Disk Go.Proofs.Ytlalaifbipmgeaa.Law01

theorem again {d : Dk} {k : Nat} (h : CalmD d k) (n : Int) : CalmD ((d.cut n).power) k := ⟨rfl, rfl, h.made0, h.made1⟩

set_option maxRecDepth 100000 in
set_option maxHeartbeats 4000000 in
theorem walk (A0 : Option Addr) (c0 : Nat) (l0 : List Stp) (A1 : Option Addr) (c1 : Nat) (l1 : List Int) (w : World) (w0 : ScriptIn w A0 c0 l0) (w1 : IntsIn .i64 8 w A1 c1 l1) :
    Calls Try.prog 7 #[.slice A0 l0.length c0, .slice A1 l1.length c1] w fun e w' => e = .returned (.bool true) ∧ Below w.heap.size w w' := by
  have HS := Lib.hid w0
  have HI := Lib.hid w1
  have hl1 : l1.length ≤ 4611686018427387904 := by have := w1.bytes; omega
  clear w0 w1
  go_enter Try.func7, Try.ntmps7
  go_wp2_with fail
  refine (heavy_any A0 c0 l0 w w HS.out (Below.refl _ _)).mono ?_
  rintro e w1 ⟨b, rfl, hb, rfl⟩
  cases b with
  | true =>
    go_wp2
    go_ret
    exact ⟨rfl, Below.refl _ _⟩
  | false =>
    have hl := hb rfl
    clear hb
    go_wp2_with fail
    refine (new_any _).mono ?_
    rintro e w1 ⟨rfl, hd, hbel⟩
    have HD := Lib.hid hd
    have HB := Lib.hid hbel
    clear hd hbel
    go_wp2_with fail
    go_loopw [6, 7] (fun t i wr => ∃ (d : Dk) (k : Nat) (m : Int), k ≤ l0.length ∧ i = .int .i64 k ∧ t = .int .i64 m ∧ Hid (d.made = m) ∧ Hid (CalmD d k) ∧ Hid (DiskAt wr w.heap.size d) ∧ Hid (Below w.heap.size w wr)) (fun _ i _ => l0.length - (intOf i).toNat)
    case atStart => exact ⟨Dk.new, 0, 0, by omega, rfl, rfl, rfl, ⟨rfl, rfl, by decide, by decide⟩, HD, HB⟩
    case round =>
      clear HD HB
      obtain ⟨d, k, m, hk, rfl, rfl, HM, HC, HD, HB⟩ := hrel
      have hm0 : 0 ≤ m := by have := HC.made0; have := HM.out; omega
      have hm1 : m ≤ k := by have := HC.made1; have := HM.out; omega
      by_cases hlt : k < l0.length
      · have hx := List.getElem?_eq_getElem hlt
        generalize l0[k] = x at *
        have HX := Lib.hid hx
        clear hx
        obtain ⟨x0, x1, x2⟩ := x
        by_cases hcut : k < l1.length
        case' pos =>
          obtain ⟨ac, hac, hcc, hcw⟩ := HI.out.at_ (List.getElem?_eq_getElem hcut)
          cases hac
          replace hcc := pw_cell_below HB hcc
          generalize l1[k] = y at *
          go_wp2_with fail
          refine (cut_any _ y d _ HD).mono ?_
          rintro e w2 ⟨rfl, hd2, hu2⟩
          go_wp2_with fail
          refine (power_any _ _ _ hd2).mono ?_
          rintro e w3 ⟨rfl, hd3, hu3⟩
          have HB3 : Hid (Below w.heap.size w w3) := below_upd HB (hu2.trans hu3) (Below.size HB) (fun k hk => by cases hk; exact Nat.le_refl _)
          have HC3 : Hid (CalmD ((d.cut y).power) k) := again HC y
          have HM3 : Hid (((d.cut y).power).made = m) := HM
          have HD3 := Lib.hid hd3
          clear HB HC HM HD hd2 hu2 hd3 hu3 hcc hcw
          generalize (d.cut y).power = d2 at *
        case' neg =>
          rename Hid (Below _ _ _) => HB3
          rename Hid (CalmD _ _) => HC3
          rename Hid (DiskAt _ _ _) => HD3
          rename Hid (Dk.made _ = _) => HM3
          rename Dk => d2
          obtain ⟨w3, rfl⟩ : ∃ w3, w3 = wr := ⟨_, rfl⟩
        all_goals
          obtain ⟨ad, ha, h0, h1, h2, hb1, hb2, hsz⟩ := ScriptIn.cells HS.out HB3 HX.out
          cases ha
          simp only at h0 h1 h2 hb1 hb2 hsz
          go_wp2_with fail
          refine (write_any _ _ _ d2 _ (DiskAt.alloc HD3 _) HC3.made0 (by have := HC3.made1; omega) (by rw [HC3.left]; omega)).mono ?_
          rintro e w4 ⟨rfl, hd4, hu4⟩
          have hne : ¬ JustB w.heap.size w3.heap.size := by have := DiskAt.lt HD3; intro h; unfold JustB at h; omega
          have hq1 := hu4.cell (new_cell w3 #[.int .i64 x0, .int .i64 x1, .string x2] 47 1) hne
          have hq2 := hu4.cell (new_cell w3 #[.int .i64 x0, .int .i64 x1, .string x2] 47 2) hne
          have HB4 : Hid (Below w.heap.size w w4) := below_upd ((HB3.out).alloc (Below.size HB3) _) hu4 (by have := Below.size HB3; simp; omega) (fun k hk => by cases hk; exact Nat.le_refl _)
          clear hu4 h0 h1 h2 HB3 hne HD3
          have HD4 := Lib.hid hd4
          clear hd4
          by_cases hlo : x1 < 0
          · rw [Dk.code_sector d2 x2 (.inl hlo)]
            rw [Dk.write_sector d2 x2 (.inl hlo)] at HD4
            go_wp2_with fail
            refine (dead_any _ d2 _ HD4).mono ?_
            rintro e w5 ⟨rfl, rfl⟩
            rw [HC3.dead]
            go_wp2
            go_roundw
            case rel => exact ⟨d2, k + 1, m, by omega, by go_num, rfl, HM3, HC3.more, HD4, HB4⟩
            case measure => simp [intOf]; omega
          · by_cases hhi : 160 ≤ x1
            · rw [Dk.code_sector d2 x2 (.inr hhi)]
              rw [Dk.write_sector d2 x2 (.inr hhi)] at HD4
              go_wp2_with fail
              refine (dead_any _ d2 _ HD4).mono ?_
              rintro e w5 ⟨rfl, rfl⟩
              rw [HC3.dead]
              go_wp2
              go_roundw
              case rel => exact ⟨d2, k + 1, m, by omega, by go_num, rfl, HM3, HC3.more, HD4, HB4⟩
              case measure => simp [intOf]; omega
            · by_cases hss : x2.size ≤ 512
              · have h0 : 0 ≤ x1 := by omega
                have h1 : x1 < 160 := by omega
                have HW : Hid ((d2.write x1 x2).S x1.toNat = x2) := HC3.same h0 h1 hss
                have HM5 : Hid ((d2.write x1 x2).made = m + 1) := (HC3.made h0 h1 hss).trans (by rw [HM3.out])
                have HC5 : Hid (CalmD (d2.write x1 x2) (k + 1)) := HC3.write x1 x2
                rw [HC3.code h0 h1 hss]
                clear hlo hhi
                generalize d2.write x1 x2 = d5 at *
                go_wp2_with fail
                refine (dead_any _ d5 _ HD4).mono ?_
                rintro e w5 ⟨rfl, rfl⟩
                rw [HC5.dead]
                go_wp2_with fail
                refine (read_yes _ _ d5 _ h0 h1 HD4).mono ?_
                rintro e w5 ⟨rfl, rfl⟩
                rw [HW.out]
                go_wp2
                go_roundw
                case rel => exact ⟨d5, k + 1, m + 1, by omega, by go_num, rfl, HM5, HC5, HD4, HB4⟩
                case measure => simp [intOf]; omega
              · rw [Dk.code_size d2 (by omega) (by omega) (by omega)]
                rw [Dk.write_size d2 (by omega) (by omega) (by omega)] at HD4
                go_wp2_with fail
                refine (dead_any _ d2 _ HD4).mono ?_
                rintro e w5 ⟨rfl, rfl⟩
                rw [HC3.dead]
                go_wp2
                go_roundw
                case rel => exact ⟨d2, k + 1, m, by omega, by go_num, rfl, HM3, HC3.more, HD4, HB4⟩
                case measure => simp [intOf]; omega
      · go_wp2_with fail
        refine (writes_any _ d _ HD).mono ?_
        rintro e w3 ⟨rfl, rfl⟩
        rw [HM.out]
        go_wp2
        go_ret
        exact ⟨rfl, HB⟩
end Go.Proofs.Ytlalaifbipmgeaa.DiskPowerWalk
