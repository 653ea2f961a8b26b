/- The walk of DiskCut: behind an order of n writes just the next n that may be come to pass: the call returns true and leaves all memory that was there as it was. No condition. -/
import Derived.Test.YtlalaifbipmgeaaLaw01
import Derived.StillTailTactics
namespace Go.Proofs.Ytlalaifbipmgeaa.DiskCutWalk
open Go.RowKit Go.Proofs.YtlalaifbipmgeaaW.PrintWords Go.Proofs.Ytlalaifbipmgeaa.MWorld Go.Proofs.Ytlalaifbipmgeaa.MArgs Go.Proofs.Ytlalaifbipmgeaa.Disk Go.Proofs.Ytlalaifbipmgeaa.Law01

/-- The disk behind an order of n writes: what was made, what is left; and the row of what is wanted. -/
structure CutD (d : Dk) (n : Int) : Prop where
  made0 : 0 ≤ d.made
  made1 : d.made ≤ if n < 0 then 0 else n
  left : d.left = (if n < 0 then 0 else n) - d.made
  dead : d.dead = true → d.left = 0
theorem CutD.first (n : Int) : CutD (Dk.new.cut n) n := ⟨by simp [Dk.cut, Dk.new], by simp [Dk.cut, Dk.new]; omega, by simp [Dk.cut, Dk.new], fun h => by cases h⟩
theorem CutD.gone {d : Dk} {n : Int} (h : CutD d n) : d.gone = decide (¬ d.made < n) := by
  have h0 := h.made0
  have h1 := h.made1
  have h2 := h.left
  have h3 := h.dead
  unfold Dk.gone
  by_cases hm : d.made < n
  · have hl : d.left ≠ 0 := by omega
    have hd : d.dead = false := by
      cases hd : d.dead
      · rfl
      · exact absurd (h3 hd) hl
    simp [hd, hl, hm]
  · have hl : d.left = 0 := by omega
    simp [hl, hm]
theorem CutD.put {d : Dk} {n : Int} (h : CutD d n) (hm : d.made < n) (i : Nat) (s : ByteArray) : CutD (d.put i s) n := by
  have h0 := h.made0
  have h1 := h.made1
  have h2 := h.left
  refine ⟨by simp [Dk.put]; omega, by simp [Dk.put]; omega, ?_, fun h => by cases h⟩
  simp only [Dk.put]
  rw [if_pos (by omega)]; omega
theorem CutD.die {d : Dk} {n : Int} (h : CutD d n) (hm : ¬ d.made < n) : CutD { d with dead := true } n := by
  have h0 := h.made0
  have h1 := h.made1
  have h2 := h.left
  exact ⟨h.made0, h.made1, h.left, fun _ => by simp only; omega⟩

theorem CutD.code_yes {d : Dk} {n : Int} (h : CutD d n) (hm : d.made < n) {i : Int} {s : ByteArray} (h0 : 0 ≤ i) (h1 : i < 160) (hs : s.size ≤ 512) : d.code i s = 0 ∧ d.write i s = d.put i.toNat s := by
  have hg : d.gone = false := by rw [h.gone]; simp [hm]
  unfold Dk.code Dk.write
  rw [if_neg (by omega), if_neg (by omega), if_neg (by rw [hg]; simp), if_neg (by omega), if_neg (by omega), if_neg (by rw [hg]; simp)]
  exact ⟨rfl, rfl⟩
theorem CutD.code_no {d : Dk} {n : Int} (h : CutD d n) (hm : ¬ d.made < n) {i : Int} {s : ByteArray} (h0 : 0 ≤ i) (h1 : i < 160) (hs : s.size ≤ 512) : d.code i s = 12 ∧ d.write i s = { d with dead := true } := by
  have hg : d.gone = true := by rw [h.gone]; simp; omega
  unfold Dk.code Dk.write
  rw [if_neg (by omega), if_neg (by omega), if_pos hg, if_neg (by omega), if_neg (by omega), if_pos hg]
  exact ⟨rfl, rfl⟩

theorem power_code (d : Dk) (s : ByteArray) (hs : s.size ≤ 512) : (d.power).code 3 s = 0 := by
  have hg : d.power.gone = false := rfl
  unfold Dk.code
  rw [if_neg (by omega), if_neg (by omega), if_neg (by rw [hg]; simp)]

set_option maxRecDepth 100000 in
set_option maxHeartbeats 4000000 in
theorem walk (A0 : Option Addr) (c0 : Nat) (l0 : List Stp) (a1 : Int) (w : World) (w0 : ScriptIn w A0 c0 l0) (w1 : (Lit.int .i64 a1).wf = true) :
    Calls Try.prog 8 #[.slice A0 l0.length c0, .int .i64 a1] w fun e w' => e = .returned (.bool true) ∧ Below w.heap.size w w' := by
  have HS := Lib.hid w0
  clear w0
  obtain ⟨hi0, hi1⟩ := bounds_i64 w1
  clear w1
  go_enter Try.func8, Try.ntmps8
  go_wp2_with fail
  refine (heavy_any A0 c0 l0 w w HS.out (Below.refl _ _)).mono ?_
  rintro e w1 ⟨b, rfl, hb, rfl⟩
  cases b with
  | true =>
    go_wp2
    go_ret
    exact ⟨rfl, Below.refl _ _⟩
  | false =>
    have hl := hb rfl
    clear hb
    go_wp2_with fail
    refine (new_any _).mono ?_
    rintro e w1 ⟨rfl, hd, hbel⟩
    have HD := Lib.hid hd
    have HB := Lib.hid hbel
    clear hd hbel
    go_wp2_with fail
    have HO : Hid ((w1.alloc (.cells #[] 9)).ownsRow w1.heap.size 9 1 (.slice (some ⟨w1.heap.size, 0, none⟩) 0 0) (Blank 0).length (Blank 0)) := World.ownsRow_made w1 #[] 0 (Nat.le_refl _) (by omega) (by simp)
    have HX : Hid (Below w1.heap.size w1 (w1.alloc (.cells #[] 9))) := (Below.refl _ _).alloc (Nat.le_refl _) _
    go_loopw [6, 7] (fun v i wr => ∃ k : Nat, k ≤ 160 ∧ i = .int .i64 k ∧ Hid (wr.ownsRow w1.heap.size 9 1 v (Blank k).length (Blank k)) ∧ Hid (Below w1.heap.size w1 wr)) (fun _ i _ => 160 - (intOf i).toNat)
    case atStart => exact ⟨0, by omega, rfl, HO, HX⟩
    case round =>
      clear HO HX
      obtain ⟨k, hk, rfl, HO, HX⟩ := hrel
      by_cases hlt : k < 160
      · go_wp2_with (first | (at_builtin; refine print_append (w0 := w1) w1.heap.size rfl (.tmp 24) (.tmp 25) 54 9 (.string ByteArray.empty) 16 rfl Try.underlying54 info9 rfl (by omega) u6 (Blank k) (.string ByteArray.empty) rfl rfl rfl ?cO ?cB ?cS ?cL ?_; (case cO => exact HO); (case cB => exact HX); (case cS => exact Below.size HX); (case cL => rw [blank_length]; omega); intro v2 w2 hown hbel _ _; rw [blank_next] at hown; have HO2 := Lib.hid hown; have HX2 := Lib.hid hbel; clear hown hbel))
        go_roundw
        case rel => exact ⟨k + 1, by omega, by go_num, HO2, HX2⟩
        case measure => simp [intOf]; omega
      · obtain rfl : k = 160 := by omega
        clear hlt hk
        rw [blank_length, blank_row] at HO
        obtain ⟨gw, cw, hv, hgw, hgl⟩ := World.ownsRow.form HO (by omega)
        subst hv
        have hgd : w.heap.size < w1.heap.size := DiskAt.lt HD
        have HD2 : Hid (DiskAt wr w.heap.size Dk.new) := HD.out.upd (Upd.of_below HX (Nat.le_refl _) (fun _ => False)) (fun h => h)
        have HB2 : Hid (Below w.heap.size w wr) := (HB.out).trans ((HX.out).mono (by omega))
        have HO2 : Hid (wr.ownsRow w1.heap.size 9 1 (.slice (some ⟨gw, 0, none⟩) 160 cw) 160 (Row Dk.new.S)) := HO
        clear HO HX HD HB
        go_wp2_with fail
        refine (cut_any _ a1 _ _ HD2).mono ?_
        rintro e w2 ⟨rfl, hd2, hu2⟩
        have HO3 : Hid (w2.ownsRow w1.heap.size 9 1 (.slice (some ⟨gw, 0, none⟩) 160 cw) 160 (Row (Dk.new.cut a1).S)) := own_upd HO2 hu2 (fun g h1 _ _ h => by unfold JustB at h; omega)
        have HB3 : Hid (Below w.heap.size w w2) := below_upd HB2 hu2 (Below.size HB2) (fun k hk => by cases hk; exact Nat.le_refl _)
        have HD3 := Lib.hid hd2
        clear HO2 HB2 HD2 hd2 hu2
        have HC3 : Hid (CutD (Dk.new.cut a1) a1) := CutD.first a1
        have HM3 : Hid ((Dk.new.cut a1).made = 0) := rfl
        generalize Dk.new.cut a1 = d3 at *
        go_wp2_with fail
        go_loopw [8, 9] (fun v i wr => ∃ (d : Dk) (k : Nat) (m : Int), k ≤ l0.length ∧ m ≤ k ∧ i = .int .i64 k ∧ v = .int .i64 m ∧ Hid (d.made = m) ∧ Hid (CutD d a1) ∧ Hid (DiskAt wr w.heap.size d) ∧ Hid (wr.ownsRow w1.heap.size 9 1 (.slice (some ⟨gw, 0, none⟩) 160 cw) 160 (Row d.S)) ∧ Hid (Below w.heap.size w wr)) (fun _ i _ => l0.length - (intOf i).toNat)
        case atStart => exact ⟨d3, 0, 0, by omega, by omega, rfl, rfl, HM3, HC3, HD3, HO3, HB3⟩
        case round =>
          clear HO3 HB3 HD3 HC3 HM3
          obtain ⟨d, k, m, hk, hmk, rfl, rfl, HM, HC, HD, HO, HB⟩ := hrel
          have hm0 : 0 ≤ m := by have := HC.made0; have := HM.out; omega
          by_cases hlt : k < l0.length
          · have hx := List.getElem?_eq_getElem hlt
            generalize l0[k] = x at *
            have HX := Lib.hid hx
            clear hx
            obtain ⟨x0, x1, x2⟩ := x
            obtain ⟨ad, ha, h0, h1, h2, hb1, hb2, hsz⟩ := ScriptIn.cells HS.out HB HX.out
            cases ha
            simp only at h0 h1 h2 hb1 hb2 hsz
            go_wp2_with fail
            refine (write_any _ _ _ d _ (DiskAt.alloc HD _) HC.made0 (by have := HM.out; omega) (by have := HC.left; have := HM.out; omega)).mono ?_
            rintro e w4 ⟨rfl, hd4, hu4⟩
            have hne : ¬ JustB w.heap.size wr.heap.size := by have := DiskAt.lt HD; intro h; unfold JustB at h; omega
            have hq1 := hu4.cell (new_cell wr #[.int .i64 x0, .int .i64 x1, .string x2] 47 1) hne
            have hq2 := hu4.cell (new_cell wr #[.int .i64 x0, .int .i64 x1, .string x2] 47 2) hne
            have HB4 : Hid (Below w.heap.size w w4) := below_upd ((HB.out).alloc (Below.size HB) _) hu4 (by have := Below.size HB; simp; omega) (fun k hk => by cases hk; exact Nat.le_refl _)
            have HO4 : Hid (w4.ownsRow w1.heap.size 9 1 (.slice (some ⟨gw, 0, none⟩) 160 cw) 160 (Row d.S)) := own_upd ((HO.out).alloc _) hu4 (fun g h1 _ _ h => by unfold JustB at h; omega)
            have HD4 := Lib.hid hd4
            clear hu4 h0 h1 h2 HB hne HD HO hd4
            by_cases hlo : x1 < 0
            · rw [Dk.code_sector d x2 (.inl hlo)]
              rw [Dk.write_sector d x2 (.inl hlo)] at HD4
              go_wp2
              go_roundw
              case rel => exact ⟨d, k + 1, m, by omega, by omega, by go_num, rfl, HM, HC, HD4, HO4, HB4⟩
              case measure => simp [intOf]; omega
            · by_cases hhi : 160 ≤ x1
              · rw [Dk.code_sector d x2 (.inr hhi)]
                rw [Dk.write_sector d x2 (.inr hhi)] at HD4
                go_wp2
                go_roundw
                case rel => exact ⟨d, k + 1, m, by omega, by omega, by go_num, rfl, HM, HC, HD4, HO4, HB4⟩
                case measure => simp [intOf]; omega
              · by_cases hss : x2.size ≤ 512
                · by_cases hma : m < a1
                  · obtain ⟨e1, e2⟩ := HC.out.code_yes (i := x1) (s := x2) (by rw [HM.out]; exact hma) (by omega) (by omega) hss
                    rw [e1]
                    rw [e2] at HD4
                    clear e1 e2
                    have hcw : w4.cell? ⟨gw, x1.toNat, none⟩ = some (.string (d.S x1.toNat)) := by rw [World.ownsRow.cellAt HO4 _ (by omega)]; exact row_at _ (by omega)
                    have hfw : w4.frozen? ⟨gw, x1.toNat, none⟩ = false := World.ownsRow.frozenAt HO4 _
                    generalize d.S x1.toNat = old at *
                    have hst := (World.ownsRow.stored HO4 x1.toNat (.string x2))
                    rw [row_put] at hst
                    have HO5 := Lib.hid hst.1
                    have HD5 : Hid (DiskAt (w4.setCell ⟨gw, x1.toNat, none⟩ (.string x2)) w.heap.size (d.put x1.toNat x2)) := HD4.out.upd (Upd.of_grown (M := fun k => k = gw) hst.2 (fun k hk _ => by cases hk; rfl)) (by omega)
                    have HB5 : Hid (Below w.heap.size w (w4.setCell ⟨gw, x1.toNat, none⟩ (.string x2))) := (HB4.out).setCell (by simp only; omega) _
                    have HC5 : Hid (CutD (d.put x1.toNat x2) a1) := HC.out.put (by rw [HM.out]; exact hma) _ _
                    have HM5 : Hid ((d.put x1.toNat x2).made = m + 1) := (show d.made + 1 = m + 1 by rw [HM.out])
                    clear hst HB4 HD4 HO4
                    go_wp2
                    go_roundw
                    case rel => exact ⟨_, k + 1, m + 1, by omega, by omega, by go_num, rfl, HM5, HC5, HD5, HO5, HB5⟩
                    case measure => simp [intOf]; omega
                  · obtain ⟨e1, e2⟩ := HC.out.code_no (i := x1) (s := x2) (by rw [HM.out]; exact hma) (by omega) (by omega) hss
                    rw [e1]
                    rw [e2] at HD4
                    clear e1 e2
                    have HC5 : Hid (CutD { d with dead := true } a1) := HC.out.die (by rw [HM.out]; exact hma)
                    go_wp2
                    go_roundw
                    case rel => exact ⟨{ d with dead := true }, k + 1, m, by omega, by omega, by go_num, rfl, HM, HC5, HD4, HO4, HB4⟩
                    case measure => simp [intOf]; omega
                · rw [Dk.code_size d (by omega) (by omega) (by omega)]
                  rw [Dk.write_size d (by omega) (by omega) (by omega)] at HD4
                  go_wp2
                  go_roundw
                  case rel => exact ⟨d, k + 1, m, by omega, by omega, by go_num, rfl, HM, HC, HD4, HO4, HB4⟩
                  case measure => simp [intOf]; omega
          · go_wp2_with fail
            go_loop [13] (fun i => ∃ j : Nat, j ≤ 160 ∧ i = .int .i64 j) (fun i => 160 - (intOf i).toNat)
            case atStart => exact ⟨0, by omega, rfl⟩
            case round =>
              obtain ⟨j, hj, rfl⟩ := hrel
              by_cases hjl : j < 160
              · have hcw : wr.cell? ⟨gw, j, none⟩ = some (.string (d.S j)) := by rw [World.ownsRow.cellAt HO _ (by omega)]; exact row_at _ (by omega)
                go_wp2_with fail
                refine (read_yes _ _ d _ (by omega) (by omega) HD).mono ?_
                rintro e w3 ⟨rfl, rfl⟩
                rw [Int.toNat_natCast]
                generalize d.S j = sj at *
                go_wp2
                go_round
                case rel => exact ⟨j + 1, by omega, by go_num⟩
                case measure => simp [intOf]; omega
              · go_wp2_with fail
                refine (writes_any _ d _ HD).mono ?_
                rintro e w3 ⟨rfl, rfl⟩
                rw [HM.out]
                go_wp2_with fail
                refine (power_any _ d _ HD).mono ?_
                rintro e w3 ⟨rfl, hd3, hu3⟩
                have HB5 : Hid (Below w.heap.size w w3) := below_upd HB hu3 (Below.size HB) (fun k hk => by cases hk; exact Nat.le_refl _)
                have HD5 := Lib.hid hd3
                have HM5 : Hid (d.power.made = m) := HM
                clear hd3 hu3 HB HD HO
                go_wp2_with fail
                refine (dead_any _ _ _ HD5).mono ?_
                rintro e w4 ⟨rfl, rfl⟩
                have hdd : d.power.dead = false := rfl
                rw [hdd]
                clear hdd
                go_wp2_with fail
                refine (write_any _ _ _ _ _ HD5 (by have := HM5.out; omega) (by have := HM5.out; omega) (by simp [Dk.power])).mono ?_
                rintro e w4 ⟨rfl, hd4, hu4⟩
                have HB6 : Hid (Below w.heap.size w w4) := below_upd HB5 hu4 (Below.size HB5) (fun k hk => by cases hk; exact Nat.le_refl _)
                rw [power_code _ _ (by decide)]
                clear hd4 hu4
                go_wp2
                go_ret
                exact ⟨rfl, HB6⟩
end Go.Proofs.Ytlalaifbipmgeaa.DiskCutWalk
