/- The walk of DiskScript: whatever is written and read, and whenever the power goes, a disk answers as the document's does; a clone knows nothing of what comes behind: the call returns true and leaves all memory that was there as it was. No condition. -/
import Derived.Test.YtlalaifbipmgeaaRef01
import Derived.Deep.QuietTactic
import Derived.BigQuiet
import Derived.LaidEqlPtr
namespace Go.Proofs.Ytlalaifbipmgeaa.DiskScriptWalk
open Go.RowKit Go.Proofs.YtlalaifbipmgeaaW.PrintWords Go.Proofs.Ytlalaifbipmgeaa.MWorld Go.Proofs.Ytlalaifbipmgeaa.MArgs Go.Proofs.Ytlalaifbipmgeaa.Disk Go.Proofs.Ytlalaifbipmgeaa.Law01 Go.Proofs.Ytlalaifbipmgeaa.Ref01

theorem quiet_left {P : Program} {f : FuncId} {args : Array Value} {w : World} {n : Nat} {v : Value}
    (h : Calls P f args (w.drewN n) fun e w' => e = .returned v ∧ w.drewN n = w') : Calls P f args (w.drewN n) fun e w'' => e = .returned v ∧ ∃ m, w'' = w.drewN m :=
  h.mono fun _ _ ⟨he, hm⟩ => ⟨he, n, hm.symm⟩

def Drawn (v : Value) (w : World) (e : Ending) (w' : World) : Prop := e = .returned v ∧ ∃ n, w' = w.drewN n

set_option maxRecDepth 100000 in
set_option maxHeartbeats 4000000 in
theorem same_any (g gr gs cap : Nat) (d : Dk) (ord : Bool) (L : Int) (w : World) (h : DiskAt w g d) (hr : RefAt w gr gs cap d ord L) :
    Calls Try.prog 47 #[P g, P gr] w (Drawn (.bool true) w) := by
  have HD := Lib.hid h
  have HR := Lib.hid hr
  have k0 := hr.c0
  have k1 := hr.c1
  have k4 := hr.c4
  clear h hr
  go_enter Try.func47, Try.ntmps47
  go_wp2_with fail
  go_loop [5] (fun i => ∃ j : Nat, j ≤ 160 ∧ i = .int .i64 j) (fun i => 160 - (intOf i).toNat)
  case atStart => exact ⟨0, by omega, rfl⟩
  case round =>
    obtain ⟨j, hj, rfl⟩ := hrel
    by_cases hjl : j < 160
    · have hcw := HR.out.sec hjl
      go_wp2_with fail
      refine (read_yes _ _ d _ (by omega) (by omega) HD).mono ?_
      rintro e w3 ⟨rfl, rfl⟩
      rw [Int.toNat_natCast]
      generalize d.S j = sj at *
      go_wp2
      go_round
      case rel => exact ⟨j + 1, by omega, by go_num⟩
      case measure => simp [intOf]; omega
    · have hm : (d.made == d.made) = true := beq_self_eq_true _
      go_wp2_with fail
      go_quiet (first
        | (go_at_call 31; exact quiet_left (writes_any _ d _ (HD.out.drewN _)))
        | (go_at_call 30; exact quiet_left (dead_any _ d _ (HD.out.drewN _))))
      go_wp2
      go_ret
      exact ⟨rfl, nq, rfl⟩

theorem disk_info : ∃ j, Try.prog.info? 100 = some j ∧ j.size ≠ 0 := by
  have h : (Try.prog.info? 100).map (·.size) = some 163 := by kernel_rfl
  obtain ⟨j, hj, hs⟩ := Option.map_eq_some_iff.1 h
  exact ⟨j, hj, by omega⟩

/-- The disk and the document's are other blocks. -/
theorem apart_d {w : World} {g gr gs cap : Nat} {d d' : Dk} {ord : Bool} {L : Int} (h : DiskAt w g d) (hr : RefAt w gr gs cap d' ord L) : g ≠ gr ∧ g ≠ gs := by
  obtain ⟨cs, hb, _⟩ := h.blk
  refine ⟨blk_ne hb hr.blk (by decide), fun e => ?_⟩
  have := own_ne hr.row hb (by decide)
  exact this (by rw [e]; rfl)
theorem apart_r {w : World} {gr gs cap gr' gs' cap' : Nat} {d d' : Dk} {ord ord' : Bool} {L L' : Int} (h : RefAt w gr gs cap d ord L) (h' : RefAt w gr' gs' cap' d' ord' L') : gr ≠ gs' := by
  intro e
  have := own_ne h'.row h.blk (by decide)
  exact this (by rw [e]; rfl)

/-- What was left behind at a clone: nothing, or a pair of disks of its own. -/
def Kept (w : World) (gd gr gs : Nat) (v5 v6 : Value) : Prop :=
  v5 = P gd ∨ ∃ gl grk gsk capk dk ordk Lk, v5 = P gl ∧ v6 = P grk ∧ gl ≠ gd ∧ grk ≠ gr ∧ gsk ≠ gs ∧ DiskAt w gl dk ∧ RefAt w grk gsk capk dk ordk Lk
theorem Kept.below {w w' : World} {gd gr gs : Nat} {v5 v6 : Value} (h : Kept w gd gr gs v5 v6) (hb : Below w.heap.size w w') : Kept w' gd gr gs v5 v6 := by
  rcases h with h | ⟨gl, grk, gsk, capk, dk, ordk, Lk, h5, h6, h1, h2, h3, hd, hr⟩
  · exact .inl h
  · exact .inr ⟨gl, grk, gsk, capk, dk, ordk, Lk, h5, h6, h1, h2, h3, hd.below hb, hr.below hb⟩
theorem Kept.drew {w : World} {gd gr gs : Nat} {v5 v6 : Value} (h : Kept w gd gr gs v5 v6) : Kept w.drew gd gr gs v5 v6 := by
  rcases h with h | ⟨gl, grk, gsk, capk, dk, ordk, Lk, h5, h6, h1, h2, h3, hd, hr⟩
  · exact .inl h
  · exact .inr ⟨gl, grk, gsk, capk, dk, ordk, Lk, h5, h6, h1, h2, h3, hd.drew, hr.drew⟩
theorem Kept.drewN {w : World} {gd gr gs : Nat} {v5 v6 : Value} (h : Kept w gd gr gs v5 v6) (n : Nat) : Kept (w.drewN n) gd gr gs v5 v6 := by
  rcases h with h | ⟨gl, grk, gsk, capk, dk, ordk, Lk, h5, h6, h1, h2, h3, hd, hr⟩
  · exact .inl h
  · exact .inr ⟨gl, grk, gsk, capk, dk, ordk, Lk, h5, h6, h1, h2, h3, hd.drewN n, hr.drewN n⟩
theorem Kept.disk {w w' : World} {gd gr gs : Nat} {v5 v6 : Value} {d : Dk} (h : Kept w gd gr gs v5 v6) (hD : DiskAt w gd d) (hu : Upd (JustB gd) w w') : Kept w' gd gr gs v5 v6 := by
  rcases h with h | ⟨gl, grk, gsk, capk, dk, ordk, Lk, h5, h6, h1, h2, h3, hd, hr⟩
  · exact .inl h
  · have ha := apart_d hD hr
    exact .inr ⟨gl, grk, gsk, capk, dk, ordk, Lk, h5, h6, h1, h2, h3, hd.upd hu h1, hr.upd hu (fun e => ha.1 e.symm) (fun e => ha.2 e.symm)⟩
theorem Kept.ref {w w' : World} {gd gr gs cap : Nat} {v5 v6 : Value} {d : Dk} {ord : Bool} {L : Int} (h : Kept w gd gr gs v5 v6) (hR : RefAt w gr gs cap d ord L) (hu : Upd (Two gr gs) w w') : Kept w' gd gr gs v5 v6 := by
  rcases h with h | ⟨gl, grk, gsk, capk, dk, ordk, Lk, h5, h6, h1, h2, h3, hd, hr⟩
  · exact .inl h
  · have ha := apart_d hd hR
    have hb := apart_r hr hR
    have hc := apart_r hR hr
    exact .inr ⟨gl, grk, gsk, capk, dk, ordk, Lk, h5, h6, h1, h2, h3, hd.upd hu (fun e => by rcases e with e | e; exact ha.1 e; exact ha.2 e),
      hr.upd hu (fun e => by rcases e with e | e; exact h2 e; exact hb e) (fun e => by rcases e with e | e; exact hc e.symm; exact h3 e)⟩
theorem disk_ref {w w' : World} {gd gr gs cap : Nat} {d d' : Dk} {ord : Bool} {L : Int} (h : DiskAt w gd d') (hR : RefAt w gr gs cap d ord L) (hu : Upd (Two gr gs) w w') : DiskAt w' gd d' := by
  have ha := apart_d h hR
  exact h.upd hu (fun e => by rcases e with e | e; exact ha.1 e; exact ha.2 e)
theorem ref_disk {w w' : World} {gd gr gs cap : Nat} {d d' : Dk} {ord : Bool} {L : Int} (h : DiskAt w gd d') (hR : RefAt w gr gs cap d ord L) (hu : Upd (JustB gd) w w') : RefAt w' gr gs cap d ord L := by
  have ha := apart_d h hR
  exact hR.upd hu (fun e => ha.1 e.symm) (fun e => ha.2 e.symm)

set_option maxRecDepth 100000 in
set_option maxHeartbeats 8000000 in
theorem walk (A0 : Option Addr) (c0 : Nat) (l0 : List Stp) (w : World) (w0 : ScriptIn w A0 c0 l0) :
    Calls Try.prog 14 #[.slice A0 l0.length c0] w fun e w' => e = .returned (.bool true) ∧ Below w.heap.size w w' := by
  have HS := Lib.hid w0
  clear w0
  go_enter Try.func14, Try.ntmps14
  go_wp2_with fail
  refine (heavy_any A0 c0 l0 w w HS.out (Below.refl _ _)).mono ?_
  rintro e w1 ⟨b, rfl, hb, rfl⟩
  cases b with
  | true =>
    go_wp2
    go_ret
    exact ⟨rfl, Below.refl _ _⟩
  | false =>
    have hl := hb rfl
    clear hb
    go_wp2_with fail
    refine (new_any _).mono ?_
    rintro e wa ⟨rfl, hda, hba⟩
    go_wp2_with fail
    refine (ref_new _).mono ?_
    rintro e wb ⟨rfl, hrb, hbb⟩
    have HD : Hid (DiskAt wb w.heap.size Dk.new) := hda.below hbb
    have HR : Hid (RefAt wb (wa.heap.size + 1) wa.heap.size 160 Dk.new false 0) := hrb
    have HB : Hid (Below w.heap.size w wb) := hba.trans (hbb.mono hba.size)
    have hwa := hba.size
    clear hda hrb hba hbb
    go_wp2_with fail
    refine (same_any _ _ _ _ _ _ _ _ HD HR).mono ?_
    rintro e wc ⟨rfl, n, rfl⟩
    replace HD : Hid (DiskAt (wb.drewN n) w.heap.size Dk.new) := HD.out.drewN n
    replace HR : Hid (RefAt (wb.drewN n) (wa.heap.size + 1) wa.heap.size 160 Dk.new false 0) := HR.out.drewN n
    replace HB : Hid (Below w.heap.size w (wb.drewN n)) := pw_below_drewN HB.out n
    have hgr : w.heap.size ≤ wa.heap.size + 1 := by omega
    generalize wb.drewN n = wc at *
    generalize wa.heap.size + 1 = gr at *
    generalize wa.heap.size = gs at *
    go_wp2_with fail
    go_loopw [3, 5, 6, 7] (fun v3 v5 v6 v7 wr => ∃ (gd : Nat) (d : Dk) (k : Nat) (ord : Bool) (L : Int), k ≤ l0.length ∧ v3 = P gd ∧ v7 = .int .i64 k ∧ w.heap.size ≤ gd ∧ Hid (Few d k) ∧ Hid (DiskAt wr gd d) ∧ Hid (RefAt wr gr gs 160 d ord L) ∧ Hid (Kept wr gd gr gs v5 v6) ∧ Hid (Below w.heap.size w wr)) (fun _ _ _ v7 _ => l0.length - (intOf v7).toNat)
    case atStart => exact ⟨_, Dk.new, 0, _, _, by omega, rfl, rfl, Nat.le_refl _, Few.new, HD, HR, .inl rfl, HB⟩
    case round =>
      clear HD HR HB
      obtain ⟨gd, d, k, ord, L, hk, rfl, rfl, hgd, HF, HD, HR, HK, HB⟩ := hrel
      by_cases hlt : k < l0.length
      · have hx := List.getElem?_eq_getElem hlt
        generalize l0[k] = x at *
        have HX := Lib.hid hx
        clear hx
        obtain ⟨x0, x1, x2⟩ := x
        obtain ⟨ad, ha, h0, h1, h2, hb1, hb2, hsz⟩ := ScriptIn.cells HS.out HB HX.out
        cases ha
        simp only at h0 h1 h2 hb1 hb2 hsz
        go_upto_if 39 with (fail)
        have hq1 := new_cell wr #[.int .i64 x0, .int .i64 x1, .string x2] 47 1
        have hq2 := new_cell wr #[.int .i64 x0, .int .i64 x1, .string x2] 47 2
        rw [List.getElem?_toArray] at hq1 hq2
        simp only [List.getElem?_cons_zero, List.getElem?_cons_succ] at hq1 hq2
        have hne1 : wr.heap.size ≠ gd := by have := DiskAt.lt HD; omega
        have hne2 : wr.heap.size ≠ gr := by have := RefAt.lt HR; omega
        have hne3 : wr.heap.size ≠ gs := by have := RefAt.lt HR; omega
        have hbo : Below wr.heap.size wr (wr.alloc (.cells #[.int .i64 x0, .int .i64 x1, .string x2] 47)) := (Below.refl _ _).alloc (Nat.le_refl _) _
        have HD2 : Hid (DiskAt (wr.alloc (.cells #[.int .i64 x0, .int .i64 x1, .string x2] 47)) gd d) := HD.out.alloc _
        have HR2 : Hid (RefAt (wr.alloc (.cells #[.int .i64 x0, .int .i64 x1, .string x2] 47)) gr gs 160 d ord L) := HR.out.alloc _
        have HK2 : Hid (Kept (wr.alloc (.cells #[.int .i64 x0, .int .i64 x1, .string x2] 47)) gd gr gs u5 u6) := HK.out.below hbo
        have HB2 : Hid (Below w.heap.size w (wr.alloc (.cells #[.int .i64 x0, .int .i64 x1, .string x2] 47))) := HB.out.alloc (Below.size HB) _
        clear HD HR HK HB hbo h0 h1 h2
        generalize wr.alloc (.cells #[.int .i64 x0, .int .i64 x1, .string x2] 47) = w2 at *
        generalize wr.heap.size = o at *
        have hm0 := HF.out.made0
        have hm1 := HF.out.made1
        have hl1 := HF.out.left1
        have HM0 := Lib.hid hm0
        have HM1 := Lib.hid hm1
        have HL1 := Lib.hid hl1
        clear hm0 hm1 hl1
        refine (Classical.em (x0 = 0)).elim (fun c0 => ?yes1) (fun c0 => ?no1)
        case' yes1 =>
          subst c0
          go_wp2_with fail
          go_region_held3 (fun w' => w'.cell? ⟨o, 1, none⟩ = some (.int .i64 x1) ∧ w'.cell? ⟨o, 2, none⟩ = some (.string x2)) (first | exact ⟨by assumption, by assumption⟩ | go_keep) (first
            | (go_at_call 26; (with_reducible refine (write_any gd x1 x2 d _ ?_ ?_ ?_ ?_).mono ?_); (exact DiskAt.drew HD2); (exact HM0); (have := HM1.out; omega); (exact HL1); rintro e w6 ⟨rfl, hd6, hu6⟩; have hq16 := hu6.cell hq1 hne1; have hq26 := hu6.cell hq2 hne1; have hr6 := ref_disk (DiskAt.drew HD2) (RefAt.drew HR2) hu6)
            | (go_at_call 48; (with_reducible refine (ref_write gr gs 160 x1 x2 d ord L _ ?_ ?_ ?_ ?_).mono ?_); (exact hr6); (exact HM0); (have := HM1.out; omega); (exact HL1); rintro e w7 ⟨rfl, ⟨ord7, L7, hr7⟩, hu7⟩; have hq17 := hu7.cell hq16 (by intro h; rcases h with h | h; exact hne2 h; exact hne3 h); have hq27 := hu7.cell hq26 (by intro h; rcases h with h | h; exact hne2 h; exact hne3 h)))
          have HD3 : Hid (DiskAt w7 gd (d.write x1 x2)) := disk_ref hd6 hr6 hu7
          have HR3 := Lib.hid hr7
          have HK3 : Hid (Kept w7 gd gr gs u5 u6) := (HK2.out.drew.disk (DiskAt.drew HD2) hu6).ref hr6 hu7
          have hb61 : Below w.heap.size w w6 := below_upd (HB2.out.drew) hu6 (Below.size HB2.out.drew) (fun k hk => by cases hk; exact hgd)
          have HB3 : Hid (Below w.heap.size w w7) := below_upd hb61 hu7 (Below.size hb61) (fun k hk => by rcases hk with hk | hk <;> subst hk <;> assumption)
          have HF3 : Hid (Few (d.write x1 x2) (k + 1)) := HF.out.write x1 x2
          clear hd6 hu6 hu7 hr7 hr6 hb61 hq1 hq2 hq16 hq26 hq17 hq27 HD2 HR2 HK2 HB2 HF
          generalize d.code x1 x2 = cc at *
          generalize d.write x1 x2 = d3 at *
          go_wp2_with fail
        case' no1 =>
          refine (Classical.em (x0 = 1)).elim (fun c1 => ?yes2) (fun c1 => ?no2)
          case' yes2 =>
            subst c1
            refine (Classical.em (x1 < 0 ∨ 160 ≤ x1)).elim (fun hrange => ?yes3) (fun hrange => ?no3)
            case' yes3 =>
              go_wp2_with fail
              refine (read_no _ x1 _ hrange).mono ?_
              rintro e w3 ⟨rfl, rfl⟩
              go_wp2_with fail
              refine (ref_read_no _ x1 _ hrange).mono ?_
              rintro e w3 ⟨rfl, rfl⟩
              go_wp2_with fail
            case' no3 =>
              go_wp2_with fail
              refine (read_yes _ x1 d _ (by omega) (by omega) HD2).mono ?_
              rintro e w3 ⟨rfl, rfl⟩
              go_wp2_with fail
              refine (ref_read_yes _ _ _ x1 d _ _ _ (by omega) (by omega) HR2).mono ?_
              rintro e w3 ⟨rfl, rfl⟩
              generalize d.S x1.toNat = sx at *
              go_wp2_with fail
            all_goals
              have HF3 : Hid (Few d (k + 1)) := HF.out.more
              rename Hid (DiskAt _ _ _) => HD3
              rename Hid (RefAt _ _ _ _ _ _ _) => HR3
              rename Hid (Kept _ _ _ _ _ _) => HK3
              rename Hid (Below _ _ _) => HB3
              rename Dk => d3
          case' no2 =>
            refine (Classical.em (x0 = 2)).elim (fun c2 => ?yes4) (fun c2 => ?no4)
            case' yes4 =>
              subst c2
              go_wp2_with fail
              refine (cut_any _ x1 d _ HD2).mono ?_
              rintro e w6 ⟨rfl, hd6, hu6⟩
              have hq16 := hu6.cell hq1 hne1
              have hr6 := ref_disk (HD2.out) (HR2.out) hu6
              go_wp2_with fail
              refine (ref_cut _ _ _ x1 d _ _ _ hr6).mono ?_
              rintro e w7 ⟨rfl, hr7, hu7⟩
              have HD3 : Hid (DiskAt w7 gd (d.cut x1)) := disk_ref hd6 hr6 hu7
              have HR3 := Lib.hid hr7
              have HK3 : Hid (Kept w7 gd gr gs u5 u6) := (HK2.out.disk (HD2.out) hu6).ref hr6 hu7
              have hb61 : Below w.heap.size w w6 := below_upd (HB2.out) hu6 (Below.size HB2.out) (fun k hk => by cases hk; exact hgd)
              have HB3 : Hid (Below w.heap.size w w7) := below_upd hb61 hu7 (Below.size hb61) (fun k hk => by rcases hk with hk | hk <;> subst hk <;> assumption)
              have HF3 : Hid (Few (d.cut x1) (k + 1)) := (HF.out.cut hb2).more
              clear hd6 hu6 hu7 hr7 hr6 hb61 hq1 hq2 hq16 HD2 HR2 HK2 HB2 HF
              generalize d.cut x1 = d3 at *
              go_wp2_with fail
            case' no4 =>
              refine (Classical.em (x0 = 3)).elim (fun c3 => ?yes5) (fun c3 => ?no5)
              case' yes5 =>
                subst c3
                go_wp2_with fail
                refine (power_any _ d _ HD2).mono ?_
                rintro e w6 ⟨rfl, hd6, hu6⟩
                have hr6 := ref_disk (HD2.out) (HR2.out) hu6
                go_wp2_with fail
                refine (ref_power _ _ _ d _ _ _ hr6).mono ?_
                rintro e w7 ⟨rfl, hr7, hu7⟩
                have HD3 : Hid (DiskAt w7 gd d.power) := disk_ref hd6 hr6 hu7
                have HR3 := Lib.hid hr7
                have HK3 : Hid (Kept w7 gd gr gs u5 u6) := (HK2.out.disk (HD2.out) hu6).ref hr6 hu7
                have hb61 : Below w.heap.size w w6 := below_upd (HB2.out) hu6 (Below.size HB2.out) (fun k hk => by cases hk; exact hgd)
                have HB3 : Hid (Below w.heap.size w w7) := below_upd hb61 hu7 (Below.size hb61) (fun k hk => by rcases hk with hk | hk <;> subst hk <;> assumption)
                have HF3 : Hid (Few d.power (k + 1)) := (HF.out.power).more
                clear hd6 hu6 hu7 hr7 hr6 hb61 hq1 hq2 HD2 HR2 HK2 HB2 HF
                generalize d.power = d3 at *
                go_wp2_with fail
              case' no5 =>
                refine (Classical.em (x0 = 4)).elim (fun c4 => ?yes6) (fun c4 => ?no6)
                case' yes6 =>
                  subst c4
                  go_wp2_with fail
                  refine (ref_clone _ _ _ d _ _ _ HR2).mono ?_
                  rintro e w6 ⟨rfl, ⟨gs', cap', hrc, hgs'⟩, hb6⟩
                  have hd6 := HD2.out.below hb6
                  have hlr := HR2.out.lt
                  go_wp2_with fail
                  refine (clone_any _ d _ hd6).mono ?_
                  rintro e w7 ⟨rfl, hd7, hb7⟩
                  have HD3 := Lib.hid hd7
                  have HR3 : Hid (RefAt w7 gr gs 160 d ord L) := (HR2.out.below hb6).below hb7
                  have HK3 : Hid (Kept w7 w6.heap.size gr gs (P gd) (P w2.heap.size)) :=
                    .inr ⟨gd, w2.heap.size, gs', cap', d, ord, L, rfl, rfl, by have := hd6.lt; omega, by omega, by omega, hd6.below hb7, hrc.below hb7⟩
                  have hb61 : Below w.heap.size w w6 := HB2.out.trans (hb6.mono (Below.size HB2))
                  have HB3 : Hid (Below w.heap.size w w7) := hb61.trans (hb7.mono hb61.size)
                  have HF3 : Hid (Few d (k + 1)) := HF.out.more
                  have hgd3 : w.heap.size ≤ w6.heap.size := hb61.size
                  clear hd6 hd7 hb6 hb7 hrc hlr hb61 hq1 hq2 HD2 HR2 HK2 HB2 HF
                  rename Dk => d3
                  generalize w6.heap.size = gd3 at *
                  go_wp2_with fail
                case' no6 =>
                  have b0 : (x0 == 0) = false := beq_eq_false_iff_ne.2 c0
                  have b1 : (x0 == 1) = false := beq_eq_false_iff_ne.2 c1
                  have b2 : (x0 == 2) = false := beq_eq_false_iff_ne.2 c2
                  have b3 : (x0 == 3) = false := beq_eq_false_iff_ne.2 c3
                  have b4 : (x0 == 4) = false := beq_eq_false_iff_ne.2 c4
                  clear c0 c1 c2 c3 c4
                  have HF3 : Hid (Few d (k + 1)) := HF.out.more
                  rename Hid (DiskAt _ _ _) => HD3
                  rename Hid (RefAt _ _ _ _ _ _ _) => HR3
                  rename Hid (Kept _ _ _ _ _ _) => HK3
                  rename Hid (Below _ _ _) => HB3
                  rename Dk => d3
                  go_wp2_with fail
        all_goals
          have r1 := HR3.out.c1
          have r4 := HR3.out.c4
          have hmm : (d3.made != d3.made) = false := bne_self_eq_false _
          go_quiet (first
            | (go_at_call 31; exact quiet_left (writes_any _ d3 _ (HD3.out.drewN _)))
            | (go_at_call 30; exact quiet_left (dead_any _ d3 _ (HD3.out.drewN _))))
          go_wp2
          go_roundw
          case rel => exact ⟨_, d3, k + 1, _, _, by omega, rfl, by go_num, by assumption, HF3, HD3.out.drewN _, HR3.out.drewN _, HK3.out.drewN _, pw_below_drewN HB3.out _⟩
          case measure => simp [intOf]; omega
      · rcases HK.out with h5 | ⟨gl, grk, gsk, capk, dk, ordk, Lk, h5, h6, h1, h2, h3, hd, hr⟩
        · subst h5
          clear HK
          obtain ⟨jd, hjd, hjs⟩ := disk_info
          have heq : ∀ W : World, (binOp .eql 42 (P gd) (P gd)).run Try.prog W = .ok (.bool true) W := fun W => run_eql_ptr_same (w := W) _ Try.underlying42 hjd
          clear hjd hjs
          go_wp2_with fail
          refine (same_any _ _ _ _ _ _ _ _ HD HR).mono ?_
          rintro e wc ⟨rfl, n, rfl⟩
          go_wp2_with fail
          go_ret
          exact ⟨rfl, pw_below_drewN HB n⟩
        · subst h5 h6
          clear HK
          have hq := Lib.hid hd
          have hq2 := Lib.hid hr
          obtain ⟨jd, hjd, hjs⟩ := disk_info
          obtain ⟨csl, hbl, _⟩ := hd.blk
          obtain ⟨csd, hbd, _⟩ := HD.out.blk
          have heq : ∀ n : Nat, (binOp .eql 42 (P gl) (P gd)).run Try.prog (wr.drewN n) = .ok (.bool false) (wr.drewN n) := fun n => run_eql_ptr_other (w := wr.drewN n) Try.underlying42 hjd hjs (by intro e; injection e with e; exact h1 e) hbl hbd
          clear hd hr hjd hjs hbl hbd
          go_wp2_with fail
          refine (same_any _ _ _ _ _ _ _ _ HD HR).mono ?_
          rintro e wc ⟨rfl, n, rfl⟩
          go_wp2_with fail
          refine (same_any _ _ _ _ _ _ _ _ (hq.out.drewN n) (hq2.out.drewN n)).mono ?_
          rintro e wc ⟨rfl, n2, rfl⟩
          go_wp2_with fail
          go_ret
          exact ⟨rfl, pw_below_drewN HB _⟩
end Go.Proofs.Ytlalaifbipmgeaa.DiskScriptWalk
