/- The walk of DiskReads: reading, and asking, changes nothing: the call returns true and leaves all memory that was there as it was. No condition. -/
import Derived.Test.YtlalaifbipmgeaaLaw01
import Derived.Deep.RegionHeld3
import Derived.StillTailTactics
namespace Go.Proofs.Ytlalaifbipmgeaa.DiskReadsWalk
open Go.RowKit Go.Proofs.YtlalaifbipmgeaaW.PrintWords Go.Proofs.Ytlalaifbipmgeaa.MWorld Go.Proofs.Ytlalaifbipmgeaa.MArgs Go.Proofs.Ytlalaifbipmgeaa.Disk Go.Proofs.Ytlalaifbipmgeaa.Law01

def SomeValue (w : World) (e : Ending) (w' : World) : Prop := ∃ v, e = .returned v ∧ w = w'
theorem read_quiet (g : Nat) (i : Int) (d : Dk) (w : World) (h : DiskAt w g d) : Calls Try.prog 27 #[P g, .int .i64 i] w (SomeValue w) := by
  by_cases hi : i < 0 ∨ 160 ≤ i
  · exact (read_no g i w hi).mono fun e w' ⟨he, hw⟩ => ⟨_, he, hw⟩
  · exact (read_yes g i d w (by omega) (by omega) h).mono fun e w' ⟨he, hw⟩ => ⟨_, he, hw⟩

set_option maxRecDepth 100000 in
set_option maxHeartbeats 4000000 in
theorem walk (A0 : Option Addr) (c0 : Nat) (l0 : List Stp) (A1 : Option Addr) (c1 : Nat) (l1 : List Int) (w : World) (w0 : ScriptIn w A0 c0 l0) (w1 : IntsIn .i64 8 w A1 c1 l1) :
    Calls Try.prog 13 #[.slice A0 l0.length c0, .slice A1 l1.length c1] w fun e w' => e = .returned (.bool true) ∧ Below w.heap.size w w' := by
  have HS := Lib.hid w0
  have HI := Lib.hid w1
  have hl1 : l1.length ≤ 4611686018427387904 := by have := w1.bytes; omega
  clear w0 w1
  by_cases hbig : l1.length ≤ 1024
  · go_enter Try.func13, Try.ntmps13
    go_wp2_with fail
    refine (heavy_any A0 c0 l0 w w HS.out (Below.refl _ _)).mono ?_
    rintro e w1 ⟨b, rfl, hb, rfl⟩
    cases b with
    | true =>
      go_wp2
      go_ret
      exact ⟨rfl, Below.refl _ _⟩
    | false =>
      have hl := hb rfl
      clear hb
      go_wp2_with fail
      refine (new_any _).mono ?_
      rintro e wa ⟨rfl, hda, hba⟩
      go_wp2_with fail
      refine (new_any _).mono ?_
      rintro e wb ⟨rfl, hdb, hbb⟩
      have hga : w.heap.size < wa.heap.size := hda.lt
      go_wp2_with fail
      refine (write_any _ _ _ _ _ (hda.below hbb) (by decide) (by decide) (by decide)).mono ?_
      rintro e wc ⟨rfl, hdc, huc⟩
      go_wp2_with fail
      refine (write_any _ _ _ _ _ (hdb.upd huc (by intro h; unfold JustB at h; omega)) (by decide) (by decide) (by decide)).mono ?_
      rintro e wd ⟨rfl, hdd, hud⟩
      have HA : Hid (DiskAt wd w.heap.size (Dk.new.write 7 ⟨#[97, 108, 105, 118, 101]⟩)) := hdc.upd hud (by intro h; unfold JustB at h; omega)
      have HB2 : Hid (DiskAt wd wa.heap.size (Dk.new.write 7 ⟨#[97, 108, 105, 118, 101]⟩)) := hdd
      have hb1 : Below w.heap.size w wb := hba.trans (hbb.mono (by omega))
      have hb2 : Below w.heap.size w wc := below_upd hb1 huc hb1.size (fun k hk => by cases hk; exact Nat.le_refl _)
      have HB : Hid (Below w.heap.size w wd) := below_upd hb2 hud hb2.size (fun k hk => by cases hk; omega)
      have HF : Hid (Few (Dk.new.write 7 ⟨#[97, 108, 105, 118, 101]⟩) 1) := Few.new.write _ _
      have HV : Hid ((Dk.new.write 7 ⟨#[97, 108, 105, 118, 101]⟩).S 7 = ⟨#[97, 108, 105, 118, 101]⟩) := rfl
      clear hda hba hdb hbb hdc huc hdd hud hb1 hb2
      generalize Dk.new.write 7 ⟨#[97, 108, 105, 118, 101]⟩ = d0 at *
      go_wp2_with fail
      refine (read_yes _ _ d0 _ (by omega) (by omega) HA).mono ?_
      rintro e w3 ⟨rfl, rfl⟩
      rw [show ((7 : Int).toNat) = 7 from rfl, HV.out]
      go_wp2_with fail
      go_loopw [9] (fun i wr => ∃ (d : Dk) (k : Nat), k ≤ l0.length ∧ i = .int .i64 k ∧ Hid (Few d (k + 1)) ∧ Hid (DiskAt wr w.heap.size d) ∧ Hid (DiskAt wr wa.heap.size d) ∧ Hid (Below w.heap.size w wr)) (fun i _ => l0.length - (intOf i).toNat)
      case atStart => exact ⟨d0, 0, by omega, rfl, HF, HA, HB2, HB⟩
      case round =>
        clear HA HB2 HB HF HV
        obtain ⟨d, k, hk, rfl, HF, HA, HD, HB⟩ := hrel
        by_cases hlt : k < l0.length
        · have hx := List.getElem?_eq_getElem hlt
          generalize l0[k] = x at *
          have HX := Lib.hid hx
          clear hx
          obtain ⟨x0, x1, x2⟩ := x
          obtain ⟨ad, ha, h0, h1, h2, hb1, hb2, hsz⟩ := ScriptIn.cells HS.out HB HX.out
          cases ha
          simp only at h0 h1 h2 hb1 hb2 hsz
          go_upto_if 48 with (fail)
          have hq0 := new_cell wr #[.int .i64 x0, .int .i64 x1, .string x2] 47 0
          have hq1 := new_cell wr #[.int .i64 x0, .int .i64 x1, .string x2] 47 1
          have hq2 := new_cell wr #[.int .i64 x0, .int .i64 x1, .string x2] 47 2
          have HA2 : Hid (DiskAt (wr.alloc (.cells #[.int .i64 x0, .int .i64 x1, .string x2] 47)) w.heap.size d) := HA.out.alloc _
          have HD2 : Hid (DiskAt (wr.alloc (.cells #[.int .i64 x0, .int .i64 x1, .string x2] 47)) wa.heap.size d) := HD.out.alloc _
          have HB2 : Hid (Below w.heap.size w (wr.alloc (.cells #[.int .i64 x0, .int .i64 x1, .string x2] 47))) := HB.out.alloc (Below.size HB) _
          have hna : wr.heap.size ≠ w.heap.size := by have := DiskAt.lt HA; omega
          have hnb : wr.heap.size ≠ wa.heap.size := by have := DiskAt.lt HD; omega
          clear HA HD HB h0 h1 h2
          generalize wr.alloc (.cells #[.int .i64 x0, .int .i64 x1, .string x2] 47) = w2 at *
          generalize wr.heap.size = o at *
          rw [List.getElem?_toArray] at hq0 hq1 hq2
          simp only [List.getElem?_cons_zero, List.getElem?_cons_succ] at hq0 hq1 hq2
          by_cases hkind : x0 = 2
          case' pos =>
            have hkb : (x0 == 2) = true := beq_iff_eq.2 hkind
            clear hkind
            go_wp2_with fail
            refine (cut_any _ x1 d _ HA2).mono ?_
            rintro e w3 ⟨rfl, hd3, hu3⟩
            replace hq1 := hu3.cell hq1 hna
            replace hq2 := hu3.cell hq2 hna
            replace HD2 : Hid (DiskAt w3 wa.heap.size d) := HD2.out.upd hu3 (by intro h; unfold JustB at h; omega)
            replace HB2 : Hid (Below w.heap.size w w3) := below_upd HB2 hu3 (Below.size HB2) (fun k hk => by cases hk; exact Nat.le_refl _)
            clear hu3 HA2 hq0
            go_wp2_with fail
            refine (cut_any _ x1 d _ HD2).mono ?_
            rintro e w4 ⟨rfl, hd4, hu4⟩
            replace hq1 := hu4.cell hq1 hnb
            replace hq2 := hu4.cell hq2 hnb
            have HA3 : Hid (DiskAt w4 w.heap.size (d.cut x1)) := hd3.upd hu4 (by intro h; unfold JustB at h; omega)
            have HD3 : Hid (DiskAt w4 wa.heap.size (d.cut x1)) := hd4
            have HB3 : Hid (Below w.heap.size w w4) := below_upd HB2 hu4 (Below.size HB2) (fun k hk => by cases hk; omega)
            have HF3 : Hid (Few (d.cut x1) (k + 1)) := HF.out.cut hb2
            clear hd3 hd4 hu4 HD2 HB2 HF hkb
            generalize d.cut x1 = d3 at *
            go_upto_if 60 with (fail)
          case' neg =>
            have hkb : (x0 == 2) = false := beq_eq_false_iff_ne.2 hkind
            clear hkind hq0
            go_upto_if 60 with (fail)
            clear hkb
            rename Hid (Few _ _) => HF3
            rename Hid (Below _ _ _) => HB3
            rename Dk => d3
            rename Hid (DiskAt _ w.heap.size _) => HA3
            rename Hid (DiskAt _ wa.heap.size _) => HD3
            obtain ⟨w4, rfl⟩ : ∃ w4, w4 = w2 := ⟨_, rfl⟩
          all_goals
            by_cases hrd : k < l1.length
            case' pos =>
              obtain ⟨ac, hac, hcc, hcw⟩ := HI.out.at_ (List.getElem?_eq_getElem hrd)
              cases hac
              replace hcc := pw_cell_below HB3 hcc
              generalize l1[k] = y at *
              go_wp2_with fail
              refine (read_quiet _ y d3 _ HD3).mono ?_
              rintro e w5 ⟨v5, rfl, rfl⟩
              go_wp2_with fail
              refine (dead_any _ d3 _ HD3).mono ?_
              rintro e w5 ⟨rfl, rfl⟩
              go_wp2_with fail
              refine (writes_any _ d3 _ HD3).mono ?_
              rintro e w5 ⟨rfl, rfl⟩
              go_wp2_with fail
              refine (clone_any _ d3 _ HD3).mono ?_
              rintro e w5 ⟨rfl, _, hb5⟩
              replace hq1 := pw_cell_below hb5 hq1
              replace hq2 := pw_cell_below hb5 hq2
              have HA5 : Hid (DiskAt w5 w.heap.size d3) := HA3.out.below hb5
              have HD5 : Hid (DiskAt w5 wa.heap.size d3) := HD3.out.below hb5
              have HB5 : Hid (Below w.heap.size w w5) := HB3.out.trans (hb5.mono (Below.size HB3))
              clear HA3 HD3 HB3 hb5 hcc hcw
              go_wp2_with fail
            case' neg =>
              go_wp2_with fail
              rename Hid (Below _ _ _) => HB5
              rename Hid (DiskAt _ w.heap.size _) => HA5
              rename Hid (DiskAt _ wa.heap.size _) => HD5
              obtain ⟨w5, rfl⟩ : ∃ w5, w5 = w4 := ⟨_, rfl⟩
            all_goals
              go_region_held3 (fun w' => w'.cell? ⟨o, 1, none⟩ = some (.int .i64 x1) ∧ w'.cell? ⟨o, 2, none⟩ = some (.string x2)) (first | exact ⟨by assumption, by assumption⟩ | go_keep) (first
                | (go_at_call 26; (with_reducible refine (write_any w.heap.size x1 x2 d3 _ ?_ ?_ ?_ ?_).mono ?_); (exact DiskAt.drew HA5); (exact HF3.out.made0); (have := HF3.out.made1; omega); (exact HF3.out.left1); rintro e w6 ⟨rfl, hd6, hu6⟩; have hq16 := hu6.cell hq1 hna; have hq26 := hu6.cell hq2 hna; have hb6 : DiskAt w6 wa.heap.size d3 := (DiskAt.drew HD5).upd hu6 (by intro h; unfold JustB at h; omega))
                | (go_at_call 26; (with_reducible refine (write_any wa.heap.size x1 x2 d3 _ ?_ ?_ ?_ ?_).mono ?_); (exact hb6); (exact HF3.out.made0); (have := HF3.out.made1; omega); (exact HF3.out.left1); rintro e w7 ⟨rfl, hd7, hu7⟩; have hq17 := hu7.cell hq16 hnb; have hq27 := hu7.cell hq26 hnb))
              have HA7 : Hid (DiskAt w7 w.heap.size (d3.write x1 x2)) := hd6.upd hu7 (by intro h; unfold JustB at h; omega)
              have HD7 := Lib.hid hd7
              have HF7 : Hid (Few (d3.write x1 x2) (k + 1 + 1)) := HF3.out.write x1 x2
              have hb61 : Below w.heap.size w w6 := below_upd (HB5.out.drew) hu6 (Below.size HB5.out.drew) (fun k hk => by cases hk; exact Nat.le_refl _)
              have HB7 : Hid (Below w.heap.size w w7) := below_upd hb61 hu7 (Below.size hb61) (fun k hk => by cases hk; omega)
              clear hd6 hu6 hd7 hu7 hb61 hb6 HA5 HD5 HB5 HF3 hq1 hq2 hq16 hq26 hq17 hq27
              generalize d3.write x1 x2 = d7 at *
              generalize d3.code x1 x2 = cc at *
              go_wp2
              go_roundw
              case rel => exact ⟨d7, k + 1, by omega, by go_num, HF7, HA7, HD7, HB7⟩
              case measure => simp [intOf]; omega
        · go_wp2_with fail
          go_loop [11] (fun i => ∃ j : Nat, j ≤ 160 ∧ i = .int .i64 j) (fun i => 160 - (intOf i).toNat)
          case atStart => exact ⟨0, by omega, rfl⟩
          case round =>
            obtain ⟨j, hj, rfl⟩ := hrel
            by_cases hjl : j < 160
            · go_wp2_with fail
              refine (read_yes _ _ d _ (by omega) (by omega) HA).mono ?_
              rintro e w3 ⟨rfl, rfl⟩
              go_wp2_with fail
              refine (read_yes _ _ d _ (by omega) (by omega) HD).mono ?_
              rintro e w3 ⟨rfl, rfl⟩
              rw [Int.toNat_natCast]
              generalize d.S j = sj at *
              go_wp2
              go_round
              case rel => exact ⟨j + 1, by omega, by go_num⟩
              case measure => simp [intOf]; omega
            · go_wp2_with fail
              refine (writes_any _ d _ HA).mono ?_
              rintro e w3 ⟨rfl, rfl⟩
              go_wp2_with fail
              refine (writes_any _ d _ HD).mono ?_
              rintro e w3 ⟨rfl, rfl⟩
              go_wp2_with fail
              refine (dead_any _ d _ HA).mono ?_
              rintro e w3 ⟨rfl, rfl⟩
              go_wp2_with fail
              refine (dead_any _ d _ HD).mono ?_
              rintro e w3 ⟨rfl, rfl⟩
              generalize d.dead = dd at *
              generalize d.made = mm at *
              go_wp2
              go_ret
              exact ⟨rfl, HB⟩
  · go_enter Try.func13, Try.ntmps13
    go_wp2_with fail
    refine (heavy_any A0 c0 l0 w w HS.out (Below.refl _ _)).mono ?_
    rintro e w1 ⟨b, rfl, hb, rfl⟩
    cases b with
    | true =>
      go_wp2
      go_ret
      exact ⟨rfl, Below.refl _ _⟩
    | false =>
      clear hb
      go_wp2
      go_ret
      exact ⟨rfl, Below.refl _ _⟩
end Go.Proofs.Ytlalaifbipmgeaa.DiskReadsWalk
