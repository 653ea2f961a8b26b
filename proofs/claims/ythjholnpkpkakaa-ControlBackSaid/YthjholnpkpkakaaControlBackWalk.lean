/- The walk of ControlBack: a frame that is written is read back, bytes that are a frame are written just so: the call returns true and leaves all memory that was there as it was. No condition. -/
import Derived.Test.YthjholnpkpkakaaTheirs
import Derived.Test.YthjholnpkpkakaaPControlFramesx1
import Derived.Test.YthjholnpkpkakaaPControlFramesx2
import Derived.Test.YthjholnpkpkakaaFrameArg
namespace Go.Proofs.Ythjholnpkpkakaa.ControlBackWalk
open Go.RowKit Go.Proofs.YthjholnpkpkakaaW.PrintWords Go.Proofs.YthjholnpkpkakaaW.PrintLast Go.Proofs.YthjholnpkpkakaaW.PrintMore Go.Proofs.Ythjholnpkpkakaa.PControlFrames Go.Proofs.Ythjholnpkpkakaa.FrameLaws Go.Proofs.Ythjholnpkpkakaa.Parts Go.Proofs.Ythjholnpkpkakaa.Encode Go.Proofs.Ythjholnpkpkakaa.Decode Go.Proofs.Ythjholnpkpkakaa.Theirs Go.Proofs.Ythjholnpkpkakaa.FrameArg Go.Proofs.Ythjholnpkpkakaa.MWorld
set_option linter.unusedVariables false
set_option linter.unusedSimpArgs false

set_option maxHeartbeats 8000000 in
set_option maxRecDepth 100000 in
theorem walk (p q s : Int) (A : Option Addr) (c : Nat) (l : List Int) (A1 : Option Addr) (c1 : Nat) (l1 : List Int) (w : World) (w0 : BytesIn w A c l) (w1 : MArgs.IntsIn .u8 1 w A1 c1 l1) :
    Calls Try.prog 6 #[.agg #[.int .i64 p, .int .i64 q, .int .i64 s, .slice A l.length c], .slice A1 l1.length c1] w fun e w' => e = .returned (.bool true) ∧ Below w.heap.size w w' := by
  have HF := Aside0.mk w0
  have HB1 := Aside0.mk (IntsIn.bytes' w1)
  clear w0 w1
  have hu := Try.underlying59
  have hu2 := Try.underlying63
  by_cases hbig : l.length ≤ 65536 ∧ l1.length ≤ 65536
  · have d1 : decide ((65536 : Int) < l.length) = false := decide_eq_false (by omega)
    have d2 : decide ((65536 : Int) < l1.length) = false := decide_eq_false (by omega)
    have hbig' := Aside0.mk hbig
    clear hbig
    by_cases hfit : Fits p q s l
    · go_enter Try.func6, Try.ntmps6
      have hfit' := Aside0.mk hfit
      clear hfit
      go_wp2_with (first | ((with_reducible refine gate_dst (N := 2) rfl ?_); refine box_event ?hg (N := 2) ?hd (cs := #[.int .i64 p, .int .i64 q, .int .i64 s, .slice A l.length c]) (t := 59) ?hr ?_; (case hd => rfl); (case hg => rfl); (case hr => first | (go_simp; done) | (go_simp; rfl)); intro g hg w3 hbox hb; have HB := Aside0.mk hb; have BK := Aside0.mk hbox; have GW := Aside0.mk (by rw [hg]; exact Nat.le_refl _ : w.heap.size ≤ g); clear hb hbox hg; have hz0 : w3.cell? ⟨g, 0, none⟩ = some (.int .i64 p) := (blk_cell BK.out 0).trans rfl; have hz1 : w3.cell? ⟨g, 1, none⟩ = some (.int .i64 q) := (blk_cell BK.out 1).trans rfl; have hz2 : w3.cell? ⟨g, 2, none⟩ = some (.int .i64 s) := (blk_cell BK.out 2).trans rfl; have hz3 : w3.cell? ⟨g, 3, none⟩ = some (.slice A l.length c) := (blk_cell BK.out 3).trans rfl))
      obtain ⟨kk, hkk⟩ := enc_good HF.out.byt hfit'.out
      have HK := Aside0.mk hkk
      clear hkk
      refine (encode_good A c p q s l _ (Kd.C_below HF.out.reads HB.out) HF.out.room HF.out.byt hfit'.out).mono ?_
      rintro e w4 ⟨vx, rfl, hox, hb4⟩
      obtain ⟨Ax, cx, rfl, hcx, hCx⟩ := Kd.R_reads hox
      have HX := Aside0.mk hCx
      have hcx' := Aside0.mk hcx
      have HB4 := Aside0.mk (below_step HB.out hb4)
      have BK4 := Aside0.mk (blk_below BK.out hb4)
      clear hz0 hz1 hz2 hz3 hox hb4 hCx hcx HB BK
      have hz0 : w4.cell? ⟨g, 0, none⟩ = some (.int .i64 p) := (blk_cell BK4.out 0).trans rfl
      have hz1 : w4.cell? ⟨g, 1, none⟩ = some (.int .i64 q) := (blk_cell BK4.out 1).trans rfl
      have hz2 : w4.cell? ⟨g, 2, none⟩ = some (.int .i64 s) := (blk_cell BK4.out 2).trans rfl
      have hz3 : w4.cell? ⟨g, 3, none⟩ = some (.slice A l.length c) := (blk_cell BK4.out 3).trans rfl
      go_wp2_with fail
      refine (theirs_any p q s A l.length c _).mono ?_
      rintro e w5 ⟨rfl, hb5⟩
      have HB5 := Aside0.mk (below_step HB4.out hb5)
      have BK5 := Aside0.mk (blk_below BK4.out hb5)
      have HX5 := Aside0.mk (Kd.C_below HX.out hb5)
      clear hz0 hz1 hz2 hz3 hb5 HB4 BK4 HX
      go_wp2_with fail
      refine (sallyportref20_Encode.calls kk p q s A c l _ 0 _ (Kd.C_below HF.out.reads HB5.out) HF.out.room HK.out).mono ?_
      rintro e w6 ⟨vy, rfl, hoy, hb6⟩
      obtain ⟨Ay, cy, rfl, hcy, _⟩ := Kd.R_reads hoy
      have HB6 := Aside0.mk (below_step HB5.out hb6)
      have BK6 := Aside0.mk (blk_below BK5.out hb6)
      have HX6 := Aside0.mk (Kd.C_below HX5.out hb6)
      clear hb6 hoy hcy HB5 BK5 HX5 HK
      go_wp2_with fail
      have hgd := decode_good Ax cx (frame p q s l) w6 HX6.out hcx'.out (frame_byt hfit'.out HF.out.byt) (fr_frame hfit'.out)
      obtain ⟨ff2, ffs, ff5, ffb⟩ := frame_fields p q s l
      rw [ff2, ffs, ff5, ffb] at hgd
      refine hgd.mono ?_
      clear hgd ff2 ffs ff5 ffb
      rintro e w7 ⟨vd, rfl, hod, hb7⟩
      obtain ⟨Ad, cd, rfl, hcd, hCd⟩ := Kd.R_reads hod
      have HD := Aside0.mk hCd
      have hcd' := Aside0.mk hcd
      have HB7 := Aside0.mk (below_step HB6.out hb7)
      have BK7 := Aside0.mk (blk_below BK6.out hb7)
      clear hb7 hod hCd hcd HB6 BK6 HX6 hcx'
      generalize frame p q s l = fx at *
      go_wp2_with (first | ((with_reducible refine gate_dst (N := 9) rfl ?_); refine box_event ?hg (N := 9) ?hd (cs := #[.int .i64 0, .int .i64 0, .int .i64 0, .slice none 0 0]) (t := 59) ?hr ?_; (case hd => rfl); (case hg => rfl); (case hr => first | (go_simp; done) | (go_simp; rfl)); intro g9 hgg9 w8 hbox hb; have Lg9 := Aside0.mk hb; have Kg9 := Aside0.mk hbox; have Eg9 := Aside0.mk hgg9; clear hb hbox hgg9; have y0g9 : w8.cell? ⟨g9, 0, none⟩ = some (.int .i64 0) := (blk_cell Kg9.out 0).trans rfl; have y1g9 : w8.cell? ⟨g9, 1, none⟩ = some (.int .i64 0) := (blk_cell Kg9.out 1).trans rfl; have y2g9 : w8.cell? ⟨g9, 2, none⟩ = some (.int .i64 0) := (blk_cell Kg9.out 2).trans rfl; have y3g9 : w8.cell? ⟨g9, 3, none⟩ = some (.slice none 0 0) := (blk_cell Kg9.out 3).trans rfl; have f0g9 := blk_frozen Kg9.out 0; have f1g9 := blk_frozen Kg9.out 1; have f2g9 := blk_frozen Kg9.out 2; have f3g9 := blk_frozen Kg9.out 3))
      have Mg9 : Aside0 (Below w7.heap.size w7 ((((w8.setCell ⟨g9, 0, none⟩ (.int .i64 p)).setCell ⟨g9, 1, none⟩ (.int .i64 q)).setCell ⟨g9, 2, none⟩ (.int .i64 s)).setCell ⟨g9, 3, none⟩ (.slice Ad l.length cd))) := ⟨(below_set (j := 3) (v := .slice Ad l.length cd) (below_set (j := 2) (v := .int .i64 s) (below_set (j := 1) (v := .int .i64 q) (below_set (j := 0) (v := .int .i64 p) Lg9.out (Nat.le_of_eq Eg9.out.symm)) (Nat.le_of_eq Eg9.out.symm)) (Nat.le_of_eq Eg9.out.symm)) (Nat.le_of_eq Eg9.out.symm))⟩
      have Bg9 : Aside0 (((((w8.setCell ⟨g9, 0, none⟩ (.int .i64 p)).setCell ⟨g9, 1, none⟩ (.int .i64 q)).setCell ⟨g9, 2, none⟩ (.int .i64 s)).setCell ⟨g9, 3, none⟩ (.slice Ad l.length cd)).heap[g9]? = some (.cells #[.int .i64 p, .int .i64 q, .int .i64 s, .slice Ad l.length cd] 59 (0, 0))) := ⟨(blk_put (blk_put (blk_put (blk_put Kg9.out 0 (.int .i64 p) rfl) 1 (.int .i64 q) rfl) 2 (.int .i64 s) rfl) 3 (.slice Ad l.length cd) rfl)⟩
      clear Lg9 Kg9 y0g9 f0g9 y1g9 f1g9 y2g9 f2g9 y3g9 f3g9
      generalize ((((w8.setCell ⟨g9, 0, none⟩ (.int .i64 p)).setCell ⟨g9, 1, none⟩ (.int .i64 q)).setCell ⟨g9, 2, none⟩ (.int .i64 s)).setCell ⟨g9, 3, none⟩ (.slice Ad l.length cd)) = w9 at *
      have HB9 := Aside0.mk (below_step HB7.out Mg9.out)
      have BK9 := Aside0.mk (blk_below BK7.out Mg9.out)
      have HD9 := Aside0.mk (Kd.C_below HD.out Mg9.out)
      have HBd := Aside0.mk (show Below w.heap.size w w9.drew from HB9.out.drew)
      have HDd := Aside0.mk (show Kd.C (Kd.int .u8) w9.drew Ad l.length l from Kd.C_drew HD9.out)
      have BKd := Aside0.mk (show w9.drew.heap[g]? = _ from BK9.out)
      have BGd := Aside0.mk (show w9.drew.heap[g9]? = _ from Bg9.out)
      clear HB7 BK7 HD Mg9 Eg9 HB9 BK9 HD9 Bg9
      have ca0 : w9.drew.cell? ⟨g9, 0, none⟩ = some (.int .i64 p) := (blk_cell BGd.out 0).trans rfl
      have ca1 : w9.drew.cell? ⟨g9, 1, none⟩ = some (.int .i64 q) := (blk_cell BGd.out 1).trans rfl
      have ca2 : w9.drew.cell? ⟨g9, 2, none⟩ = some (.int .i64 s) := (blk_cell BGd.out 2).trans rfl
      have ca3 : w9.drew.cell? ⟨g9, 3, none⟩ = some (.slice Ad l.length cd) := (blk_cell BGd.out 3).trans rfl
      have cb0 : w9.drew.cell? ⟨g, 0, none⟩ = some (.int .i64 p) := (blk_cell BKd.out 0).trans rfl
      have cb1 : w9.drew.cell? ⟨g, 1, none⟩ = some (.int .i64 q) := (blk_cell BKd.out 1).trans rfl
      have cb2 : w9.drew.cell? ⟨g, 2, none⟩ = some (.int .i64 s) := (blk_cell BKd.out 2).trans rfl
      have cb3 : w9.drew.cell? ⟨g, 3, none⟩ = some (.slice A l.length c) := (blk_cell BKd.out 3).trans rfl
      go_region_held3 (fun w' => w'.cell? ⟨g9, 0, none⟩ = some (.int .i64 p) ∧ w'.cell? ⟨g9, 1, none⟩ = some (.int .i64 q) ∧ w'.cell? ⟨g9, 2, none⟩ = some (.int .i64 s) ∧ w'.cell? ⟨g9, 3, none⟩ = some (.slice Ad l.length cd) ∧ w'.cell? ⟨g, 0, none⟩ = some (.int .i64 p) ∧ w'.cell? ⟨g, 1, none⟩ = some (.int .i64 q) ∧ w'.cell? ⟨g, 2, none⟩ = some (.int .i64 s) ∧ w'.cell? ⟨g, 3, none⟩ = some (.slice A l.length c)) (exact ⟨by with_reducible assumption, by with_reducible assumption, by with_reducible assumption, by with_reducible assumption, by with_reducible assumption, by with_reducible assumption, by with_reducible assumption, by with_reducible assumption⟩) (first
        | (go_at_call 30; (with_reducible refine (theirs_any p q s A l.length c _).mono ?_); rintro e wx ⟨rfl, hb⟩; have BG1 := Aside0.mk (blk_below BGd.out hb); have BK1 := Aside0.mk (blk_below BKd.out hb); have HB10 := Aside0.mk (below_step HBd.out hb); have HD10 := Aside0.mk (Kd.C_below HDd.out hb); clear hb; have da0 : wx.cell? ⟨g9, 0, none⟩ = some (.int .i64 p) := (blk_cell BG1.out 0).trans rfl; have da1 : wx.cell? ⟨g9, 1, none⟩ = some (.int .i64 q) := (blk_cell BG1.out 1).trans rfl; have da2 : wx.cell? ⟨g9, 2, none⟩ = some (.int .i64 s) := (blk_cell BG1.out 2).trans rfl; have da3 : wx.cell? ⟨g9, 3, none⟩ = some (.slice Ad l.length cd) := (blk_cell BG1.out 3).trans rfl; have db0 : wx.cell? ⟨g, 0, none⟩ = some (.int .i64 p) := (blk_cell BK1.out 0).trans rfl; have db1 : wx.cell? ⟨g, 1, none⟩ = some (.int .i64 q) := (blk_cell BK1.out 1).trans rfl; have db2 : wx.cell? ⟨g, 2, none⟩ = some (.int .i64 s) := (blk_cell BK1.out 2).trans rfl; have db3 : wx.cell? ⟨g, 3, none⟩ = some (.slice A l.length c) := (blk_cell BK1.out 3).trans rfl)
        | (go_at_call 32; (with_reducible refine (sallyportlaw20_sameFrame.calls p q s Ad cd l p q s A c l true _ HD10.out hcd'.out (Kd.C_below HF.out.reads HB10.out) HF.out.room (by simp [sallyportlaw20_sameFrame.f])).mono ?_); rintro e wy ⟨rfl, hb⟩; have BG2 := Aside0.mk (blk_below BG1.out hb); have BK2 := Aside0.mk (blk_below BK1.out hb); have HB11 := Aside0.mk (below_step HB10.out hb); clear hb; have ea0 : wy.cell? ⟨g9, 0, none⟩ = some (.int .i64 p) := (blk_cell BG2.out 0).trans rfl; have ea1 : wy.cell? ⟨g9, 1, none⟩ = some (.int .i64 q) := (blk_cell BG2.out 1).trans rfl; have ea2 : wy.cell? ⟨g9, 2, none⟩ = some (.int .i64 s) := (blk_cell BG2.out 2).trans rfl; have ea3 : wy.cell? ⟨g9, 3, none⟩ = some (.slice Ad l.length cd) := (blk_cell BG2.out 3).trans rfl; have eb0 : wy.cell? ⟨g, 0, none⟩ = some (.int .i64 p) := (blk_cell BK2.out 0).trans rfl; have eb1 : wy.cell? ⟨g, 1, none⟩ = some (.int .i64 q) := (blk_cell BK2.out 1).trans rfl; have eb2 : wy.cell? ⟨g, 2, none⟩ = some (.int .i64 s) := (blk_cell BK2.out 2).trans rfl; have eb3 : wy.cell? ⟨g, 3, none⟩ = some (.slice A l.length c) := (blk_cell BK2.out 3).trans rfl))
      clear ca0 ca1 ca2 ca3 cb0 cb1 cb2 cb3 da0 da1 da2 da3 db0 db1 db2 db3 ea0 ea1 ea2 ea3 eb0 eb1 eb2 eb3 BG1 BK1 BG2 BK2 BKd BGd HB10 HD10 HBd HDd hcd'
      rename_i hHeld
      clear hHeld
      by_cases hfr0 : Fr l1
      · have hfr := Aside0.mk hfr0
        clear hfr0
        go_wp2_with fail
        obtain ⟨fi, fe⟩ := fits_of_fr HB1.out.byt hfr.out
        obtain ⟨dk, hdk⟩ := dec_good HB1.out.byt hfr.out
        have FI := Aside0.mk fi
        have FE := Aside0.mk fe
        have DK := Aside0.mk hdk
        clear fi fe hdk
        refine (decode_good A1 c1 l1 _ (Kd.C_below HB1.out.reads HB11.out) HB1.out.room HB1.out.byt hfr.out).mono ?_
        rintro e wa ⟨vd, rfl, hod, hb⟩
        obtain ⟨Ae, ce, rfl, hce, hCe⟩ := Kd.R_reads hod
        have CE := Aside0.mk hCe
        have ce' := Aside0.mk hce
        have HA := Aside0.mk (below_step HB11.out hb)
        clear hod hce hCe hb
        generalize hq2 : l1.getD 2 0 = e2 at *
        generalize hqs : seqOf l1 = es at *
        generalize hq5 : l1.getD 5 0 = e5 at *
        generalize hqb : body l1 = eb at *
        have Byb := Aside0.mk (show Byt eb by rw [← hqb]; exact HB1.out.byt.body)
        clear hq2 hqs hq5 hqb
        go_wp2_with (first | ((with_reducible refine gate_dst (N := 11) rfl ?_); refine box_event ?hg (N := 11) ?hd (cs := #[.int .i64 0, .int .i64 0, .int .i64 0, .slice none 0 0]) (t := 59) ?hr ?_; (case hd => rfl); (case hg => rfl); (case hr => first | (go_simp; done) | (go_simp; rfl)); intro ga hgga wb hbox hb; have Lga := Aside0.mk hb; have Kga := Aside0.mk hbox; have Ega := Aside0.mk hgga; clear hb hbox hgga; have y0ga : wb.cell? ⟨ga, 0, none⟩ = some (.int .i64 0) := (blk_cell Kga.out 0).trans rfl; have y1ga : wb.cell? ⟨ga, 1, none⟩ = some (.int .i64 0) := (blk_cell Kga.out 1).trans rfl; have y2ga : wb.cell? ⟨ga, 2, none⟩ = some (.int .i64 0) := (blk_cell Kga.out 2).trans rfl; have y3ga : wb.cell? ⟨ga, 3, none⟩ = some (.slice none 0 0) := (blk_cell Kga.out 3).trans rfl; have f0ga := blk_frozen Kga.out 0; have f1ga := blk_frozen Kga.out 1; have f2ga := blk_frozen Kga.out 2; have f3ga := blk_frozen Kga.out 3))
        have Mga : Aside0 (Below wa.heap.size wa ((((wb.setCell ⟨ga, 0, none⟩ (.int .i64 e2)).setCell ⟨ga, 1, none⟩ (.int .i64 es)).setCell ⟨ga, 2, none⟩ (.int .i64 e5)).setCell ⟨ga, 3, none⟩ (.slice Ae eb.length ce))) := ⟨(below_set (j := 3) (v := .slice Ae eb.length ce) (below_set (j := 2) (v := .int .i64 e5) (below_set (j := 1) (v := .int .i64 es) (below_set (j := 0) (v := .int .i64 e2) Lga.out (Nat.le_of_eq Ega.out.symm)) (Nat.le_of_eq Ega.out.symm)) (Nat.le_of_eq Ega.out.symm)) (Nat.le_of_eq Ega.out.symm))⟩
        have Bga : Aside0 (((((wb.setCell ⟨ga, 0, none⟩ (.int .i64 e2)).setCell ⟨ga, 1, none⟩ (.int .i64 es)).setCell ⟨ga, 2, none⟩ (.int .i64 e5)).setCell ⟨ga, 3, none⟩ (.slice Ae eb.length ce)).heap[ga]? = some (.cells #[.int .i64 e2, .int .i64 es, .int .i64 e5, .slice Ae eb.length ce] 59 (0, 0))) := ⟨(blk_put (blk_put (blk_put (blk_put Kga.out 0 (.int .i64 e2) rfl) 1 (.int .i64 es) rfl) 2 (.int .i64 e5) rfl) 3 (.slice Ae eb.length ce) rfl)⟩
        clear Lga Kga y0ga f0ga y1ga f1ga y2ga f2ga y3ga f3ga
        generalize ((((wb.setCell ⟨ga, 0, none⟩ (.int .i64 e2)).setCell ⟨ga, 1, none⟩ (.int .i64 es)).setCell ⟨ga, 2, none⟩ (.int .i64 e5)).setCell ⟨ga, 3, none⟩ (.slice Ae eb.length ce)) = wc at *
        have HC := Aside0.mk (below_step HA.out Mga.out)
        have CF := Aside0.mk (Kd.C_below CE.out Mga.out)
        refine (sallyportref20_Decode.calls dk A1 c1 l1 e2 es e5 eb 0 _ (Kd.C_below HB1.out.reads HC.out) HB1.out.room DK.out).mono ?_
        rintro e wd ⟨vr, rfl, hor, hb⟩
        obtain ⟨Ar, cr, rfl, _, _⟩ := Kd.R_reads hor
        have HD := Aside0.mk (below_step HC.out hb)
        have BA := Aside0.mk (blk_below Bga.out hb)
        have CG := Aside0.mk (Kd.C_below CF.out hb)
        clear hor hb
        go_upto_region 13 with (first | ((with_reducible refine gate_dst (N := 13) rfl ?_); refine box_event ?hg (N := 13) ?hd (cs := #[.int .i64 0, .int .i64 0, .int .i64 0, .slice none 0 0]) (t := 63) ?hr ?_; (case hd => rfl); (case hg => rfl); (case hr => first | (go_simp; done) | (go_simp; rfl)); intro gb hggb we hbox hb; have Lgb := Aside0.mk hb; have Kgb := Aside0.mk hbox; have Egb := Aside0.mk hggb; clear hb hbox hggb; have y0gb : we.cell? ⟨gb, 0, none⟩ = some (.int .i64 0) := (blk_cell Kgb.out 0).trans rfl; have y1gb : we.cell? ⟨gb, 1, none⟩ = some (.int .i64 0) := (blk_cell Kgb.out 1).trans rfl; have y2gb : we.cell? ⟨gb, 2, none⟩ = some (.int .i64 0) := (blk_cell Kgb.out 2).trans rfl; have y3gb : we.cell? ⟨gb, 3, none⟩ = some (.slice none 0 0) := (blk_cell Kgb.out 3).trans rfl; have f0gb := blk_frozen Kgb.out 0; have f1gb := blk_frozen Kgb.out 1; have f2gb := blk_frozen Kgb.out 2; have f3gb := blk_frozen Kgb.out 3))
        have Mgb : Aside0 (Below wd.heap.size wd ((((we.setCell ⟨gb, 0, none⟩ (.int .i64 e2)).setCell ⟨gb, 1, none⟩ (.int .i64 es)).setCell ⟨gb, 2, none⟩ (.int .i64 e5)).setCell ⟨gb, 3, none⟩ (.slice Ar eb.length cr))) := ⟨(below_set (j := 3) (v := .slice Ar eb.length cr) (below_set (j := 2) (v := .int .i64 e5) (below_set (j := 1) (v := .int .i64 es) (below_set (j := 0) (v := .int .i64 e2) Lgb.out (Nat.le_of_eq Egb.out.symm)) (Nat.le_of_eq Egb.out.symm)) (Nat.le_of_eq Egb.out.symm)) (Nat.le_of_eq Egb.out.symm))⟩
        have Bgb : Aside0 (((((we.setCell ⟨gb, 0, none⟩ (.int .i64 e2)).setCell ⟨gb, 1, none⟩ (.int .i64 es)).setCell ⟨gb, 2, none⟩ (.int .i64 e5)).setCell ⟨gb, 3, none⟩ (.slice Ar eb.length cr)).heap[gb]? = some (.cells #[.int .i64 e2, .int .i64 es, .int .i64 e5, .slice Ar eb.length cr] 63 (0, 0))) := ⟨(blk_put (blk_put (blk_put (blk_put Kgb.out 0 (.int .i64 e2) rfl) 1 (.int .i64 es) rfl) 2 (.int .i64 e5) rfl) 3 (.slice Ar eb.length cr) rfl)⟩
        clear Lgb Kgb y0gb f0gb y1gb f1gb y2gb f2gb y3gb f3gb
        generalize ((((we.setCell ⟨gb, 0, none⟩ (.int .i64 e2)).setCell ⟨gb, 1, none⟩ (.int .i64 es)).setCell ⟨gb, 2, none⟩ (.int .i64 e5)).setCell ⟨gb, 3, none⟩ (.slice Ar eb.length cr)) = wf at *
        have HE := Aside0.mk (below_step HD.out Mgb.out)
        have BB := Aside0.mk (blk_below BA.out Mgb.out)
        have CH := Aside0.mk (Kd.C_below CG.out Mgb.out)
        have x0 : wf.cell? ⟨ga, 0, none⟩ = some (.int .i64 e2) := (blk_cell BB.out 0).trans rfl
        have x1 : wf.cell? ⟨ga, 1, none⟩ = some (.int .i64 es) := (blk_cell BB.out 1).trans rfl
        have x2 : wf.cell? ⟨ga, 2, none⟩ = some (.int .i64 e5) := (blk_cell BB.out 2).trans rfl
        have x3 : wf.cell? ⟨ga, 3, none⟩ = some (.slice Ae eb.length ce) := (blk_cell BB.out 3).trans rfl
        go_wp2_with fail
        refine (encode_good Ae ce e2 es e5 eb _ CH.out ce'.out Byb.out FI.out).mono ?_
        rintro e wg ⟨vz, rfl, hoz, hb⟩
        rw [FE.out] at hoz
        obtain ⟨Az, cz, rfl, hcz, hCz⟩ := Kd.R_reads hoz
        have HG := Aside0.mk (below_step HE.out hb)
        have hs1 := Kd.C_string (P := Try.prog) (src := 32) (dst := 9) (c := cz) Try.underlying32 Try.underlying5 Try.underlying9 hCz
        have hs2 := Kd.C_string (P := Try.prog) (src := 32) (dst := 9) (c := c1) Try.underlying32 Try.underlying5 Try.underlying9 (Kd.C_below HB1.out.reads HG.out)
        clear hoz hcz hCz hb x0 x1 x2 x3
        go_wp2
        go_ret
        exact ⟨rfl, HG.out⟩
      · have hfr := Aside0.mk hfr0
        clear hfr0
        go_wp2_with fail
        obtain ⟨dk, hdk⟩ := dec_bad HB1.out.byt (by have := hbig'.out; omega) hfr.out
        have DK := Aside0.mk hdk
        clear hdk
        refine (decode_bad A1 c1 l1 _ (Kd.C_below HB1.out.reads HB11.out) HB1.out.room HB1.out.byt hfr.out).mono ?_
        rintro e wa ⟨rfl, hb⟩
        have HA := Aside0.mk (below_step HB11.out hb)
        clear hb
        go_wp2_with (first | ((with_reducible refine gate_dst (N := 11) rfl ?_); refine box_event ?hg (N := 11) ?hd (cs := #[.int .i64 0, .int .i64 0, .int .i64 0, .slice none 0 0]) (t := 59) ?hr ?_; (case hd => rfl); (case hg => rfl); (case hr => first | (go_simp; done) | (go_simp; rfl)); intro ga hgga wb hbox hb; have Lga := Aside0.mk hb; have Kga := Aside0.mk hbox; have Ega := Aside0.mk hgga; clear hb hbox hgga; have y0ga : wb.cell? ⟨ga, 0, none⟩ = some (.int .i64 0) := (blk_cell Kga.out 0).trans rfl; have y1ga : wb.cell? ⟨ga, 1, none⟩ = some (.int .i64 0) := (blk_cell Kga.out 1).trans rfl; have y2ga : wb.cell? ⟨ga, 2, none⟩ = some (.int .i64 0) := (blk_cell Kga.out 2).trans rfl; have y3ga : wb.cell? ⟨ga, 3, none⟩ = some (.slice none 0 0) := (blk_cell Kga.out 3).trans rfl; have f0ga := blk_frozen Kga.out 0; have f1ga := blk_frozen Kga.out 1; have f2ga := blk_frozen Kga.out 2; have f3ga := blk_frozen Kga.out 3))
        have Mga : Aside0 (Below wa.heap.size wa ((((wb.setCell ⟨ga, 0, none⟩ (.int .i64 0)).setCell ⟨ga, 1, none⟩ (.int .i64 0)).setCell ⟨ga, 2, none⟩ (.int .i64 0)).setCell ⟨ga, 3, none⟩ (.slice none 0 0))) := ⟨(below_set (j := 3) (v := .slice none 0 0) (below_set (j := 2) (v := .int .i64 0) (below_set (j := 1) (v := .int .i64 0) (below_set (j := 0) (v := .int .i64 0) Lga.out (Nat.le_of_eq Ega.out.symm)) (Nat.le_of_eq Ega.out.symm)) (Nat.le_of_eq Ega.out.symm)) (Nat.le_of_eq Ega.out.symm))⟩
        have Bga : Aside0 (((((wb.setCell ⟨ga, 0, none⟩ (.int .i64 0)).setCell ⟨ga, 1, none⟩ (.int .i64 0)).setCell ⟨ga, 2, none⟩ (.int .i64 0)).setCell ⟨ga, 3, none⟩ (.slice none 0 0)).heap[ga]? = some (.cells #[.int .i64 0, .int .i64 0, .int .i64 0, .slice none 0 0] 59 (0, 0))) := ⟨(blk_put (blk_put (blk_put (blk_put Kga.out 0 (.int .i64 0) rfl) 1 (.int .i64 0) rfl) 2 (.int .i64 0) rfl) 3 (.slice none 0 0) rfl)⟩
        clear Lga Kga y0ga f0ga y1ga f1ga y2ga f2ga y3ga f3ga
        generalize ((((wb.setCell ⟨ga, 0, none⟩ (.int .i64 0)).setCell ⟨ga, 1, none⟩ (.int .i64 0)).setCell ⟨ga, 2, none⟩ (.int .i64 0)).setCell ⟨ga, 3, none⟩ (.slice none 0 0)) = wc at *
        have HC := Aside0.mk (below_step HA.out Mga.out)
        refine (sallyportref20_Decode.calls dk A1 c1 l1 0 0 0 [] 200 _ (Kd.C_below HB1.out.reads HC.out) HB1.out.room DK.out).mono ?_
        rintro e wd ⟨vr, rfl, hor, hb⟩
        obtain ⟨Ar, cr, rfl, _, _⟩ := Kd.R_reads hor
        have HD := Aside0.mk (below_step HC.out hb)
        have BA := Aside0.mk (blk_below Bga.out hb)
        clear hor hb
        go_upto_region 13 with (first | ((with_reducible refine gate_dst (N := 13) rfl ?_); refine box_event ?hg (N := 13) ?hd (cs := #[.int .i64 0, .int .i64 0, .int .i64 0, .slice none 0 0]) (t := 63) ?hr ?_; (case hd => rfl); (case hg => rfl); (case hr => first | (go_simp; done) | (go_simp; rfl)); intro gb hggb we hbox hb; have Lgb := Aside0.mk hb; have Kgb := Aside0.mk hbox; have Egb := Aside0.mk hggb; clear hb hbox hggb; have y0gb : we.cell? ⟨gb, 0, none⟩ = some (.int .i64 0) := (blk_cell Kgb.out 0).trans rfl; have y1gb : we.cell? ⟨gb, 1, none⟩ = some (.int .i64 0) := (blk_cell Kgb.out 1).trans rfl; have y2gb : we.cell? ⟨gb, 2, none⟩ = some (.int .i64 0) := (blk_cell Kgb.out 2).trans rfl; have y3gb : we.cell? ⟨gb, 3, none⟩ = some (.slice none 0 0) := (blk_cell Kgb.out 3).trans rfl; have f0gb := blk_frozen Kgb.out 0; have f1gb := blk_frozen Kgb.out 1; have f2gb := blk_frozen Kgb.out 2; have f3gb := blk_frozen Kgb.out 3))
        have Mgb : Aside0 (Below wd.heap.size wd ((((we.setCell ⟨gb, 0, none⟩ (.int .i64 0)).setCell ⟨gb, 1, none⟩ (.int .i64 0)).setCell ⟨gb, 2, none⟩ (.int .i64 0)).setCell ⟨gb, 3, none⟩ (.slice Ar ([] : List Int).length cr))) := ⟨(below_set (j := 3) (v := .slice Ar ([] : List Int).length cr) (below_set (j := 2) (v := .int .i64 0) (below_set (j := 1) (v := .int .i64 0) (below_set (j := 0) (v := .int .i64 0) Lgb.out (Nat.le_of_eq Egb.out.symm)) (Nat.le_of_eq Egb.out.symm)) (Nat.le_of_eq Egb.out.symm)) (Nat.le_of_eq Egb.out.symm))⟩
        have Bgb : Aside0 (((((we.setCell ⟨gb, 0, none⟩ (.int .i64 0)).setCell ⟨gb, 1, none⟩ (.int .i64 0)).setCell ⟨gb, 2, none⟩ (.int .i64 0)).setCell ⟨gb, 3, none⟩ (.slice Ar ([] : List Int).length cr)).heap[gb]? = some (.cells #[.int .i64 0, .int .i64 0, .int .i64 0, .slice Ar ([] : List Int).length cr] 63 (0, 0))) := ⟨(blk_put (blk_put (blk_put (blk_put Kgb.out 0 (.int .i64 0) rfl) 1 (.int .i64 0) rfl) 2 (.int .i64 0) rfl) 3 (.slice Ar ([] : List Int).length cr) rfl)⟩
        clear Lgb Kgb y0gb f0gb y1gb f1gb y2gb f2gb y3gb f3gb
        generalize ((((we.setCell ⟨gb, 0, none⟩ (.int .i64 0)).setCell ⟨gb, 1, none⟩ (.int .i64 0)).setCell ⟨gb, 2, none⟩ (.int .i64 0)).setCell ⟨gb, 3, none⟩ (.slice Ar ([] : List Int).length cr)) = wf at *
        have HE := Aside0.mk (below_step HD.out Mgb.out)
        go_wp2
        go_ret
        exact ⟨rfl, HE.out⟩
    · go_enter Try.func6, Try.ntmps6
      have hfit' := Aside0.mk hfit
      clear hfit
      go_wp2_with (first | ((with_reducible refine gate_dst (N := 2) rfl ?_); refine box_event ?hg (N := 2) ?hd (cs := #[.int .i64 p, .int .i64 q, .int .i64 s, .slice A l.length c]) (t := 59) ?hr ?_; (case hd => rfl); (case hg => rfl); (case hr => first | (go_simp; done) | (go_simp; rfl)); intro g hg w3 hbox hb; have HB := Aside0.mk hb; have BK := Aside0.mk hbox; have GW := Aside0.mk (by rw [hg]; exact Nat.le_refl _ : w.heap.size ≤ g); clear hb hbox hg; have hz0 : w3.cell? ⟨g, 0, none⟩ = some (.int .i64 p) := (blk_cell BK.out 0).trans rfl; have hz1 : w3.cell? ⟨g, 1, none⟩ = some (.int .i64 q) := (blk_cell BK.out 1).trans rfl; have hz2 : w3.cell? ⟨g, 2, none⟩ = some (.int .i64 s) := (blk_cell BK.out 2).trans rfl; have hz3 : w3.cell? ⟨g, 3, none⟩ = some (.slice A l.length c) := (blk_cell BK.out 3).trans rfl))
      have HK := Aside0.mk (enc_bad 0 (by have := hbig'.out; omega) hfit'.out)
      refine (encode_bad A c p q s l _ HF.out.room (by have := hbig'.out; omega) hfit'.out).mono ?_
      rintro e w4 ⟨rfl, hb4⟩
      have HB4 := Aside0.mk (below_step HB.out hb4)
      have BK4 := Aside0.mk (blk_below BK.out hb4)
      clear hz0 hz1 hz2 hz3 hb4 HB BK
      have hz0 : w4.cell? ⟨g, 0, none⟩ = some (.int .i64 p) := (blk_cell BK4.out 0).trans rfl
      have hz1 : w4.cell? ⟨g, 1, none⟩ = some (.int .i64 q) := (blk_cell BK4.out 1).trans rfl
      have hz2 : w4.cell? ⟨g, 2, none⟩ = some (.int .i64 s) := (blk_cell BK4.out 2).trans rfl
      have hz3 : w4.cell? ⟨g, 3, none⟩ = some (.slice A l.length c) := (blk_cell BK4.out 3).trans rfl
      go_wp2_with fail
      refine (theirs_any p q s A l.length c _).mono ?_
      rintro e w5 ⟨rfl, hb5⟩
      have HB5 := Aside0.mk (below_step HB4.out hb5)
      clear hz0 hz1 hz2 hz3 hb5 HB4 BK4
      go_wp2_with fail
      refine (sallyportref20_Encode.calls 1 p q s A c l [] 1 _ (Kd.C_below HF.out.reads HB5.out) HF.out.room HK.out).mono ?_
      rintro e w6 ⟨vy, rfl, hoy, hb6⟩
      obtain ⟨Ay, cy, rfl, _, _⟩ := Kd.R_reads hoy
      have HB6 := Aside0.mk (below_step HB5.out hb6)
      clear hb6 hoy HB5 HK
      by_cases hfr0 : Fr l1
      · have hfr := Aside0.mk hfr0
        clear hfr0
        go_wp2_with fail
        obtain ⟨fi, fe⟩ := fits_of_fr HB1.out.byt hfr.out
        obtain ⟨dk, hdk⟩ := dec_good HB1.out.byt hfr.out
        have FI := Aside0.mk fi
        have FE := Aside0.mk fe
        have DK := Aside0.mk hdk
        clear fi fe hdk
        refine (decode_good A1 c1 l1 _ (Kd.C_below HB1.out.reads HB6.out) HB1.out.room HB1.out.byt hfr.out).mono ?_
        rintro e wa ⟨vd, rfl, hod, hb⟩
        obtain ⟨Ae, ce, rfl, hce, hCe⟩ := Kd.R_reads hod
        have CE := Aside0.mk hCe
        have ce' := Aside0.mk hce
        have HA := Aside0.mk (below_step HB6.out hb)
        clear hod hce hCe hb
        generalize hq2 : l1.getD 2 0 = e2 at *
        generalize hqs : seqOf l1 = es at *
        generalize hq5 : l1.getD 5 0 = e5 at *
        generalize hqb : body l1 = eb at *
        have Byb := Aside0.mk (show Byt eb by rw [← hqb]; exact HB1.out.byt.body)
        clear hq2 hqs hq5 hqb
        go_wp2_with (first | ((with_reducible refine gate_dst (N := 11) rfl ?_); refine box_event ?hg (N := 11) ?hd (cs := #[.int .i64 0, .int .i64 0, .int .i64 0, .slice none 0 0]) (t := 59) ?hr ?_; (case hd => rfl); (case hg => rfl); (case hr => first | (go_simp; done) | (go_simp; rfl)); intro ga hgga wb hbox hb; have Lga := Aside0.mk hb; have Kga := Aside0.mk hbox; have Ega := Aside0.mk hgga; clear hb hbox hgga; have y0ga : wb.cell? ⟨ga, 0, none⟩ = some (.int .i64 0) := (blk_cell Kga.out 0).trans rfl; have y1ga : wb.cell? ⟨ga, 1, none⟩ = some (.int .i64 0) := (blk_cell Kga.out 1).trans rfl; have y2ga : wb.cell? ⟨ga, 2, none⟩ = some (.int .i64 0) := (blk_cell Kga.out 2).trans rfl; have y3ga : wb.cell? ⟨ga, 3, none⟩ = some (.slice none 0 0) := (blk_cell Kga.out 3).trans rfl; have f0ga := blk_frozen Kga.out 0; have f1ga := blk_frozen Kga.out 1; have f2ga := blk_frozen Kga.out 2; have f3ga := blk_frozen Kga.out 3))
        have Mga : Aside0 (Below wa.heap.size wa ((((wb.setCell ⟨ga, 0, none⟩ (.int .i64 e2)).setCell ⟨ga, 1, none⟩ (.int .i64 es)).setCell ⟨ga, 2, none⟩ (.int .i64 e5)).setCell ⟨ga, 3, none⟩ (.slice Ae eb.length ce))) := ⟨(below_set (j := 3) (v := .slice Ae eb.length ce) (below_set (j := 2) (v := .int .i64 e5) (below_set (j := 1) (v := .int .i64 es) (below_set (j := 0) (v := .int .i64 e2) Lga.out (Nat.le_of_eq Ega.out.symm)) (Nat.le_of_eq Ega.out.symm)) (Nat.le_of_eq Ega.out.symm)) (Nat.le_of_eq Ega.out.symm))⟩
        have Bga : Aside0 (((((wb.setCell ⟨ga, 0, none⟩ (.int .i64 e2)).setCell ⟨ga, 1, none⟩ (.int .i64 es)).setCell ⟨ga, 2, none⟩ (.int .i64 e5)).setCell ⟨ga, 3, none⟩ (.slice Ae eb.length ce)).heap[ga]? = some (.cells #[.int .i64 e2, .int .i64 es, .int .i64 e5, .slice Ae eb.length ce] 59 (0, 0))) := ⟨(blk_put (blk_put (blk_put (blk_put Kga.out 0 (.int .i64 e2) rfl) 1 (.int .i64 es) rfl) 2 (.int .i64 e5) rfl) 3 (.slice Ae eb.length ce) rfl)⟩
        clear Lga Kga y0ga f0ga y1ga f1ga y2ga f2ga y3ga f3ga
        generalize ((((wb.setCell ⟨ga, 0, none⟩ (.int .i64 e2)).setCell ⟨ga, 1, none⟩ (.int .i64 es)).setCell ⟨ga, 2, none⟩ (.int .i64 e5)).setCell ⟨ga, 3, none⟩ (.slice Ae eb.length ce)) = wc at *
        have HC := Aside0.mk (below_step HA.out Mga.out)
        have CF := Aside0.mk (Kd.C_below CE.out Mga.out)
        refine (sallyportref20_Decode.calls dk A1 c1 l1 e2 es e5 eb 0 _ (Kd.C_below HB1.out.reads HC.out) HB1.out.room DK.out).mono ?_
        rintro e wd ⟨vr, rfl, hor, hb⟩
        obtain ⟨Ar, cr, rfl, _, _⟩ := Kd.R_reads hor
        have HD := Aside0.mk (below_step HC.out hb)
        have BA := Aside0.mk (blk_below Bga.out hb)
        have CG := Aside0.mk (Kd.C_below CF.out hb)
        clear hor hb
        go_upto_region 13 with (first | ((with_reducible refine gate_dst (N := 13) rfl ?_); refine box_event ?hg (N := 13) ?hd (cs := #[.int .i64 0, .int .i64 0, .int .i64 0, .slice none 0 0]) (t := 63) ?hr ?_; (case hd => rfl); (case hg => rfl); (case hr => first | (go_simp; done) | (go_simp; rfl)); intro gb hggb we hbox hb; have Lgb := Aside0.mk hb; have Kgb := Aside0.mk hbox; have Egb := Aside0.mk hggb; clear hb hbox hggb; have y0gb : we.cell? ⟨gb, 0, none⟩ = some (.int .i64 0) := (blk_cell Kgb.out 0).trans rfl; have y1gb : we.cell? ⟨gb, 1, none⟩ = some (.int .i64 0) := (blk_cell Kgb.out 1).trans rfl; have y2gb : we.cell? ⟨gb, 2, none⟩ = some (.int .i64 0) := (blk_cell Kgb.out 2).trans rfl; have y3gb : we.cell? ⟨gb, 3, none⟩ = some (.slice none 0 0) := (blk_cell Kgb.out 3).trans rfl; have f0gb := blk_frozen Kgb.out 0; have f1gb := blk_frozen Kgb.out 1; have f2gb := blk_frozen Kgb.out 2; have f3gb := blk_frozen Kgb.out 3))
        have Mgb : Aside0 (Below wd.heap.size wd ((((we.setCell ⟨gb, 0, none⟩ (.int .i64 e2)).setCell ⟨gb, 1, none⟩ (.int .i64 es)).setCell ⟨gb, 2, none⟩ (.int .i64 e5)).setCell ⟨gb, 3, none⟩ (.slice Ar eb.length cr))) := ⟨(below_set (j := 3) (v := .slice Ar eb.length cr) (below_set (j := 2) (v := .int .i64 e5) (below_set (j := 1) (v := .int .i64 es) (below_set (j := 0) (v := .int .i64 e2) Lgb.out (Nat.le_of_eq Egb.out.symm)) (Nat.le_of_eq Egb.out.symm)) (Nat.le_of_eq Egb.out.symm)) (Nat.le_of_eq Egb.out.symm))⟩
        have Bgb : Aside0 (((((we.setCell ⟨gb, 0, none⟩ (.int .i64 e2)).setCell ⟨gb, 1, none⟩ (.int .i64 es)).setCell ⟨gb, 2, none⟩ (.int .i64 e5)).setCell ⟨gb, 3, none⟩ (.slice Ar eb.length cr)).heap[gb]? = some (.cells #[.int .i64 e2, .int .i64 es, .int .i64 e5, .slice Ar eb.length cr] 63 (0, 0))) := ⟨(blk_put (blk_put (blk_put (blk_put Kgb.out 0 (.int .i64 e2) rfl) 1 (.int .i64 es) rfl) 2 (.int .i64 e5) rfl) 3 (.slice Ar eb.length cr) rfl)⟩
        clear Lgb Kgb y0gb f0gb y1gb f1gb y2gb f2gb y3gb f3gb
        generalize ((((we.setCell ⟨gb, 0, none⟩ (.int .i64 e2)).setCell ⟨gb, 1, none⟩ (.int .i64 es)).setCell ⟨gb, 2, none⟩ (.int .i64 e5)).setCell ⟨gb, 3, none⟩ (.slice Ar eb.length cr)) = wf at *
        have HE := Aside0.mk (below_step HD.out Mgb.out)
        have BB := Aside0.mk (blk_below BA.out Mgb.out)
        have CH := Aside0.mk (Kd.C_below CG.out Mgb.out)
        have x0 : wf.cell? ⟨ga, 0, none⟩ = some (.int .i64 e2) := (blk_cell BB.out 0).trans rfl
        have x1 : wf.cell? ⟨ga, 1, none⟩ = some (.int .i64 es) := (blk_cell BB.out 1).trans rfl
        have x2 : wf.cell? ⟨ga, 2, none⟩ = some (.int .i64 e5) := (blk_cell BB.out 2).trans rfl
        have x3 : wf.cell? ⟨ga, 3, none⟩ = some (.slice Ae eb.length ce) := (blk_cell BB.out 3).trans rfl
        go_wp2_with fail
        refine (encode_good Ae ce e2 es e5 eb _ CH.out ce'.out Byb.out FI.out).mono ?_
        rintro e wg ⟨vz, rfl, hoz, hb⟩
        rw [FE.out] at hoz
        obtain ⟨Az, cz, rfl, hcz, hCz⟩ := Kd.R_reads hoz
        have HG := Aside0.mk (below_step HE.out hb)
        have hs1 := Kd.C_string (P := Try.prog) (src := 32) (dst := 9) (c := cz) Try.underlying32 Try.underlying5 Try.underlying9 hCz
        have hs2 := Kd.C_string (P := Try.prog) (src := 32) (dst := 9) (c := c1) Try.underlying32 Try.underlying5 Try.underlying9 (Kd.C_below HB1.out.reads HG.out)
        clear hoz hcz hCz hb x0 x1 x2 x3
        go_wp2
        go_ret
        exact ⟨rfl, HG.out⟩
      · have hfr := Aside0.mk hfr0
        clear hfr0
        go_wp2_with fail
        obtain ⟨dk, hdk⟩ := dec_bad HB1.out.byt (by have := hbig'.out; omega) hfr.out
        have DK := Aside0.mk hdk
        clear hdk
        refine (decode_bad A1 c1 l1 _ (Kd.C_below HB1.out.reads HB6.out) HB1.out.room HB1.out.byt hfr.out).mono ?_
        rintro e wa ⟨rfl, hb⟩
        have HA := Aside0.mk (below_step HB6.out hb)
        clear hb
        go_wp2_with (first | ((with_reducible refine gate_dst (N := 11) rfl ?_); refine box_event ?hg (N := 11) ?hd (cs := #[.int .i64 0, .int .i64 0, .int .i64 0, .slice none 0 0]) (t := 59) ?hr ?_; (case hd => rfl); (case hg => rfl); (case hr => first | (go_simp; done) | (go_simp; rfl)); intro ga hgga wb hbox hb; have Lga := Aside0.mk hb; have Kga := Aside0.mk hbox; have Ega := Aside0.mk hgga; clear hb hbox hgga; have y0ga : wb.cell? ⟨ga, 0, none⟩ = some (.int .i64 0) := (blk_cell Kga.out 0).trans rfl; have y1ga : wb.cell? ⟨ga, 1, none⟩ = some (.int .i64 0) := (blk_cell Kga.out 1).trans rfl; have y2ga : wb.cell? ⟨ga, 2, none⟩ = some (.int .i64 0) := (blk_cell Kga.out 2).trans rfl; have y3ga : wb.cell? ⟨ga, 3, none⟩ = some (.slice none 0 0) := (blk_cell Kga.out 3).trans rfl; have f0ga := blk_frozen Kga.out 0; have f1ga := blk_frozen Kga.out 1; have f2ga := blk_frozen Kga.out 2; have f3ga := blk_frozen Kga.out 3))
        have Mga : Aside0 (Below wa.heap.size wa ((((wb.setCell ⟨ga, 0, none⟩ (.int .i64 0)).setCell ⟨ga, 1, none⟩ (.int .i64 0)).setCell ⟨ga, 2, none⟩ (.int .i64 0)).setCell ⟨ga, 3, none⟩ (.slice none 0 0))) := ⟨(below_set (j := 3) (v := .slice none 0 0) (below_set (j := 2) (v := .int .i64 0) (below_set (j := 1) (v := .int .i64 0) (below_set (j := 0) (v := .int .i64 0) Lga.out (Nat.le_of_eq Ega.out.symm)) (Nat.le_of_eq Ega.out.symm)) (Nat.le_of_eq Ega.out.symm)) (Nat.le_of_eq Ega.out.symm))⟩
        have Bga : Aside0 (((((wb.setCell ⟨ga, 0, none⟩ (.int .i64 0)).setCell ⟨ga, 1, none⟩ (.int .i64 0)).setCell ⟨ga, 2, none⟩ (.int .i64 0)).setCell ⟨ga, 3, none⟩ (.slice none 0 0)).heap[ga]? = some (.cells #[.int .i64 0, .int .i64 0, .int .i64 0, .slice none 0 0] 59 (0, 0))) := ⟨(blk_put (blk_put (blk_put (blk_put Kga.out 0 (.int .i64 0) rfl) 1 (.int .i64 0) rfl) 2 (.int .i64 0) rfl) 3 (.slice none 0 0) rfl)⟩
        clear Lga Kga y0ga f0ga y1ga f1ga y2ga f2ga y3ga f3ga
        generalize ((((wb.setCell ⟨ga, 0, none⟩ (.int .i64 0)).setCell ⟨ga, 1, none⟩ (.int .i64 0)).setCell ⟨ga, 2, none⟩ (.int .i64 0)).setCell ⟨ga, 3, none⟩ (.slice none 0 0)) = wc at *
        have HC := Aside0.mk (below_step HA.out Mga.out)
        refine (sallyportref20_Decode.calls dk A1 c1 l1 0 0 0 [] 200 _ (Kd.C_below HB1.out.reads HC.out) HB1.out.room DK.out).mono ?_
        rintro e wd ⟨vr, rfl, hor, hb⟩
        obtain ⟨Ar, cr, rfl, _, _⟩ := Kd.R_reads hor
        have HD := Aside0.mk (below_step HC.out hb)
        have BA := Aside0.mk (blk_below Bga.out hb)
        clear hor hb
        go_upto_region 13 with (first | ((with_reducible refine gate_dst (N := 13) rfl ?_); refine box_event ?hg (N := 13) ?hd (cs := #[.int .i64 0, .int .i64 0, .int .i64 0, .slice none 0 0]) (t := 63) ?hr ?_; (case hd => rfl); (case hg => rfl); (case hr => first | (go_simp; done) | (go_simp; rfl)); intro gb hggb we hbox hb; have Lgb := Aside0.mk hb; have Kgb := Aside0.mk hbox; have Egb := Aside0.mk hggb; clear hb hbox hggb; have y0gb : we.cell? ⟨gb, 0, none⟩ = some (.int .i64 0) := (blk_cell Kgb.out 0).trans rfl; have y1gb : we.cell? ⟨gb, 1, none⟩ = some (.int .i64 0) := (blk_cell Kgb.out 1).trans rfl; have y2gb : we.cell? ⟨gb, 2, none⟩ = some (.int .i64 0) := (blk_cell Kgb.out 2).trans rfl; have y3gb : we.cell? ⟨gb, 3, none⟩ = some (.slice none 0 0) := (blk_cell Kgb.out 3).trans rfl; have f0gb := blk_frozen Kgb.out 0; have f1gb := blk_frozen Kgb.out 1; have f2gb := blk_frozen Kgb.out 2; have f3gb := blk_frozen Kgb.out 3))
        have Mgb : Aside0 (Below wd.heap.size wd ((((we.setCell ⟨gb, 0, none⟩ (.int .i64 0)).setCell ⟨gb, 1, none⟩ (.int .i64 0)).setCell ⟨gb, 2, none⟩ (.int .i64 0)).setCell ⟨gb, 3, none⟩ (.slice Ar ([] : List Int).length cr))) := ⟨(below_set (j := 3) (v := .slice Ar ([] : List Int).length cr) (below_set (j := 2) (v := .int .i64 0) (below_set (j := 1) (v := .int .i64 0) (below_set (j := 0) (v := .int .i64 0) Lgb.out (Nat.le_of_eq Egb.out.symm)) (Nat.le_of_eq Egb.out.symm)) (Nat.le_of_eq Egb.out.symm)) (Nat.le_of_eq Egb.out.symm))⟩
        have Bgb : Aside0 (((((we.setCell ⟨gb, 0, none⟩ (.int .i64 0)).setCell ⟨gb, 1, none⟩ (.int .i64 0)).setCell ⟨gb, 2, none⟩ (.int .i64 0)).setCell ⟨gb, 3, none⟩ (.slice Ar ([] : List Int).length cr)).heap[gb]? = some (.cells #[.int .i64 0, .int .i64 0, .int .i64 0, .slice Ar ([] : List Int).length cr] 63 (0, 0))) := ⟨(blk_put (blk_put (blk_put (blk_put Kgb.out 0 (.int .i64 0) rfl) 1 (.int .i64 0) rfl) 2 (.int .i64 0) rfl) 3 (.slice Ar ([] : List Int).length cr) rfl)⟩
        clear Lgb Kgb y0gb f0gb y1gb f1gb y2gb f2gb y3gb f3gb
        generalize ((((we.setCell ⟨gb, 0, none⟩ (.int .i64 0)).setCell ⟨gb, 1, none⟩ (.int .i64 0)).setCell ⟨gb, 2, none⟩ (.int .i64 0)).setCell ⟨gb, 3, none⟩ (.slice Ar ([] : List Int).length cr)) = wf at *
        have HE := Aside0.mk (below_step HD.out Mgb.out)
        go_wp2
        go_ret
        exact ⟨rfl, HE.out⟩
  · go_enter Try.func6, Try.ntmps6
    by_cases hb1 : l.length ≤ 65536
    · have d1 : decide ((65536 : Int) < l.length) = false := decide_eq_false (by omega)
      have d2 : decide ((65536 : Int) < l1.length) = true := decide_eq_true (by omega)
      clear hbig hb1
      go_wp2_with (first | ((with_reducible refine gate_dst (N := 2) rfl ?_); refine box_event ?hg (N := 2) ?hd (cs := #[.int .i64 p, .int .i64 q, .int .i64 s, .slice A l.length c]) (t := 59) ?hr ?_; (case hd => rfl); (case hg => rfl); (case hr => first | (go_simp; done) | (go_simp; rfl)); intro g hg w3 hbox hb; have HB := Aside0.mk hb; have BK := Aside0.mk hbox; have GW := Aside0.mk (by rw [hg]; exact Nat.le_refl _ : w.heap.size ≤ g); clear hb hbox hg; have hz0 : w3.cell? ⟨g, 0, none⟩ = some (.int .i64 p) := (blk_cell BK.out 0).trans rfl; have hz1 : w3.cell? ⟨g, 1, none⟩ = some (.int .i64 q) := (blk_cell BK.out 1).trans rfl; have hz2 : w3.cell? ⟨g, 2, none⟩ = some (.int .i64 s) := (blk_cell BK.out 2).trans rfl; have hz3 : w3.cell? ⟨g, 3, none⟩ = some (.slice A l.length c) := (blk_cell BK.out 3).trans rfl))
      go_ret
      exact ⟨rfl, HB.out⟩
    · have d1 : decide ((65536 : Int) < l.length) = true := decide_eq_true (by omega)
      clear hbig hb1
      go_wp2_with (first | ((with_reducible refine gate_dst (N := 2) rfl ?_); refine box_event ?hg (N := 2) ?hd (cs := #[.int .i64 p, .int .i64 q, .int .i64 s, .slice A l.length c]) (t := 59) ?hr ?_; (case hd => rfl); (case hg => rfl); (case hr => first | (go_simp; done) | (go_simp; rfl)); intro g hg w3 hbox hb; have HB := Aside0.mk hb; have BK := Aside0.mk hbox; have GW := Aside0.mk (by rw [hg]; exact Nat.le_refl _ : w.heap.size ≤ g); clear hb hbox hg; have hz0 : w3.cell? ⟨g, 0, none⟩ = some (.int .i64 p) := (blk_cell BK.out 0).trans rfl; have hz1 : w3.cell? ⟨g, 1, none⟩ = some (.int .i64 q) := (blk_cell BK.out 1).trans rfl; have hz2 : w3.cell? ⟨g, 2, none⟩ = some (.int .i64 s) := (blk_cell BK.out 2).trans rfl; have hz3 : w3.cell? ⟨g, 3, none⟩ = some (.slice A l.length c) := (blk_cell BK.out 3).trans rfl))
      go_ret
      exact ⟨rfl, HB.out⟩
end Go.Proofs.Ythjholnpkpkakaa.ControlBackWalk
