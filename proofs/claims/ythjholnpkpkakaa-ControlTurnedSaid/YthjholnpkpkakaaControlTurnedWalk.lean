/- The walk of ControlTurned: a frame of which one byte is another one, or that is cut short, or goes on, is refused: the call returns true and leaves all memory that was there as it was. No condition. -/
import Derived.Test.YthjholnpkpkakaaTheirs
import Derived.Test.YthjholnpkpkakaaFrameTurn
import Derived.Test.YthjholnpkpkakaaPControlFramesx1
import Derived.Test.YthjholnpkpkakaaFrameArg
import Derived.Test.YthjholnpkpkakaaDecodeAny
namespace Go.Proofs.Ythjholnpkpkakaa.ControlTurnedWalk
open Go.RowKit Go.Proofs.YthjholnpkpkakaaW.PrintWords Go.Proofs.YthjholnpkpkakaaW.PrintLast Go.Proofs.YthjholnpkpkakaaW.PrintMore Go.Proofs.Ythjholnpkpkakaa.PControlFrames Go.Proofs.Ythjholnpkpkakaa.FrameLaws Go.Proofs.Ythjholnpkpkakaa.Parts Go.Proofs.Ythjholnpkpkakaa.Encode Go.Proofs.Ythjholnpkpkakaa.Decode Go.Proofs.Ythjholnpkpkakaa.Theirs Go.Proofs.Ythjholnpkpkakaa.FrameArg Go.Proofs.Ythjholnpkpkakaa.MWorld Go.Proofs.Ythjholnpkpkakaa.DecodeAny
set_option linter.unusedVariables false
set_option linter.unusedSimpArgs false

theorem say_turned {xs : List Int} {m : Int} {k : Nat} {b : Int} (hm : Says (turned xs k b) m) (hb : Byt xs) (h : Fr xs) (h2 : 2 ≤ k) (hk : k < xs.length) (b0 : 0 ≤ b) (b1 : b < 256) : ((m == 0) == (b == 0)) = true := by
  rcases Int.lt_or_eq_of_le b0 with hp | rfl
  · obtain rfl := hm.2 (turned_fr hb h k h2 hk b hp b1)
    have : (b == 0) = false := beq_eq_false_iff_ne.mpr (by omega)
    rw [this]; rfl
  · rw [turned_zero hb k hk] at hm
    obtain rfl := hm.1 h
    rfl
theorem say_long {xs ys : List Int} {m : Int} (hm : Says (xs ++ ys) m) (h : Fr xs) : ((m == 0) == ((ys.length : Int) == 0)) = true := by
  by_cases hy : ys = []
  · subst hy
    rw [List.append_nil] at hm
    obtain rfl := hm.1 h
    rfl
  · obtain rfl := hm.2 (long_fr h hy)
    have : ((ys.length : Int) == 0) = false := beq_eq_false_iff_ne.mpr (by have := List.length_pos_iff.2 hy; omega)
    rw [this]; rfl

set_option maxHeartbeats 8000000 in
set_option maxRecDepth 100000 in
theorem walk (p q s : Int) (A : Option Addr) (c : Nat) (l : List Int) (a1 : Int) (a2 : Int) (A3 : Option Addr) (c3 : Nat) (l3 : List Int) (w : World) (w0 : BytesIn w A c l) (w1 : (Lit.int .i64 a1).wf = true) (w2 : (Lit.int .u8 a2).wf = true) (w3 : MArgs.IntsIn .u8 1 w A3 c3 l3) :
    Calls Try.prog 7 #[.agg #[.int .i64 p, .int .i64 q, .int .i64 s, .slice A l.length c], .int .i64 a1, .int .u8 a2, .slice A3 l3.length c3] w fun e w' => e = .returned (.bool true) ∧ Below w.heap.size w w' := by
  have HF := Aside0.mk w0
  have HM := Aside0.mk (IntsIn.bytes' w3)
  have H1 := Aside0.mk (bounds_i64 w1)
  have H2 := Aside0.mk (bounds_u8 w2)
  clear w0 w1 w2 w3
  have hu := Try.underlying59
  have hu2 := Try.underlying63
  by_cases hbig : l.length ≤ 65536 ∧ l3.length ≤ 4096
  · have d1 : decide ((65536 : Int) < l.length) = false := decide_eq_false (by omega)
    have d2 : decide ((4096 : Int) < l3.length) = false := decide_eq_false (by omega)
    have hbig' := Aside0.mk hbig
    clear hbig
    by_cases hfit : Fits p q s l
    · go_enter Try.func7, Try.ntmps7
      have hfit' := Aside0.mk hfit
      clear hfit
      go_wp2_with (first | ((with_reducible refine gate_dst (N := 4) rfl ?_); refine box_event ?hg (N := 4) ?hd (cs := #[.int .i64 p, .int .i64 q, .int .i64 s, .slice A l.length c]) (t := 59) ?hr ?_; (case hd => rfl); (case hg => rfl); (case hr => first | (go_simp; done) | (go_simp; rfl)); intro g hg w3 hbox hb; have HB := Aside0.mk hb; have BK := Aside0.mk hbox; have GW := Aside0.mk (by rw [hg]; exact Nat.le_refl _ : w.heap.size ≤ g); clear hb hbox hg; have hz0 : w3.cell? ⟨g, 0, none⟩ = some (.int .i64 p) := (blk_cell BK.out 0).trans rfl; have hz1 : w3.cell? ⟨g, 1, none⟩ = some (.int .i64 q) := (blk_cell BK.out 1).trans rfl; have hz2 : w3.cell? ⟨g, 2, none⟩ = some (.int .i64 s) := (blk_cell BK.out 2).trans rfl; have hz3 : w3.cell? ⟨g, 3, none⟩ = some (.slice A l.length c) := (blk_cell BK.out 3).trans rfl))
      obtain ⟨kk, hkk⟩ := enc_good HF.out.byt hfit'.out
      have HK := Aside0.mk hkk
      clear hkk
      refine (encode_good A c p q s l _ (Kd.C_below HF.out.reads HB.out) HF.out.room HF.out.byt hfit'.out).mono ?_
      rintro e w4 ⟨vx, rfl, hox, hb4⟩
      obtain ⟨gx, cx, rfl, hgx, _⟩ := Kd.R_form hox (by rw [frame_length]; omega)
      have HX := Aside0.mk (Kd.R_lower hox HB.out.size)
      have HGX := Aside0.mk (Nat.le_trans HB.out.size hgx)
      have HB4 := Aside0.mk (below_step HB.out hb4)
      have BK4 := Aside0.mk (blk_below BK.out hb4)
      clear hz0 hz1 hz2 hz3 hox hb4 hgx HB BK
      have hz0 : w4.cell? ⟨g, 0, none⟩ = some (.int .i64 p) := (blk_cell BK4.out 0).trans rfl
      have hz1 : w4.cell? ⟨g, 1, none⟩ = some (.int .i64 q) := (blk_cell BK4.out 1).trans rfl
      have hz2 : w4.cell? ⟨g, 2, none⟩ = some (.int .i64 s) := (blk_cell BK4.out 2).trans rfl
      have hz3 : w4.cell? ⟨g, 3, none⟩ = some (.slice A l.length c) := (blk_cell BK4.out 3).trans rfl
      have hlx := Aside0.mk (frame_length p q s l)
      have hln : ((frame p q s l).length : Int) = 7 + (l.length : Int) := by rw [hlx.out]; omega
      have HBY := Aside0.mk (frame_byt hfit'.out HF.out.byt)
      have HFR := Aside0.mk (fr_frame hfit'.out)
      have HK2 : Aside0 (∃ fx, fx = frame p q s l) := ⟨⟨_, rfl⟩⟩
      generalize frame p q s l = fx at *
      obtain ⟨n, hn⟩ : ∃ n : Int, n = (fx.length : Int) - 2 := ⟨_, rfl⟩
      have hb4' := hbig'.out
      obtain ⟨h10, h11⟩ := H1.out
      have hn0 : 0 < n := by omega
      have hn1 : n ≤ 70000 := by omega
      have hwn : IntKind.i64.wrap ((fx.length : Int) - 2) = n := by rw [IntKind.wrap_i64]; omega
      obtain ⟨r1, hr1⟩ : ∃ r1 : Int, a1.tmod n = r1 := ⟨_, rfl⟩
      have hr10 : -n < r1 ∧ r1 < n := by
        constructor
        · rw [← hr1]; exact Int.lt_tmod_of_pos _ hn0
        · rw [← hr1]; exact Int.tmod_lt_of_pos _ hn0
      have hwr : IntKind.i64.wrap (r1 + n) = r1 + n := by rw [IntKind.wrap_i64]; omega
      obtain ⟨r2, hr2⟩ : ∃ r2 : Int, (r1 + n).tmod n = r2 := ⟨_, rfl⟩
      have hr20 : 0 ≤ r2 ∧ r2 < n := by
        rw [← hr2, Int.tmod_eq_emod_of_nonneg (by omega)]
        exact ⟨Int.emod_nonneg _ (by omega), Int.emod_lt_of_pos _ hn0⟩
      have hw2 : IntKind.i64.wrap (2 + r2) = 2 + r2 := by rw [IntKind.wrap_i64]; omega
      have d7 : decide ((fx.length : Int) < 7) = false := decide_eq_false (by omega)
      have hnz : (n == 0) = false := beq_eq_false_iff_ne.mpr (by omega)
      have hnz2 : ¬ n = 0 := by omega
      have hkx : Aside0 (2 ≤ (2 + r2).toNat ∧ (2 + r2).toNat < fx.length ∧ (2 + r2) < fx.length ∧ 0 ≤ 2 + r2) := ⟨by omega⟩
      have HA := Aside0.mk hln
      clear hln hn hb4' h10 h11 hn0 hn1 hr10 hr20
      go_wp2_with fail
      refine (theirs_any p q s A l.length c _).mono ?_
      rintro e w5 ⟨rfl, hb5⟩
      have HB5 := Aside0.mk (below_step HB4.out hb5)
      have HX5 := Aside0.mk (Kd.R_below HX.out hb5)
      clear hz0 hz1 hz2 hz3 hb5 HB4 BK4 HX
      go_wp2_with fail
      refine (sallyportref20_Encode.calls kk p q s A c l _ 0 _ (Kd.C_below HF.out.reads HB5.out) HF.out.room HK.out).mono ?_
      rintro e w6 ⟨vy, rfl, hoy, hb6⟩
      obtain ⟨Ay, cy, rfl, _, _⟩ := Kd.R_reads hoy
      have HB6 := Aside0.mk (below_step HB5.out hb6)
      have HX6 := Aside0.mk (Kd.R_below HX5.out hb6)
      clear hb6 hoy HB5 HX5 HK
      go_upto_region 13 with fail
      clear hw2 hr2 hwr hr1 hwn hnz hnz2 d7
      generalize 2 + r2 = j at *
      obtain ⟨hk2, hkl, hji, hj0⟩ := hkx.out
      obtain ⟨_, _, hrd⟩ := Kd.R_reads' HX6.out
      obtain ⟨adx, ex, hcx⟩ := Kd.at_int hrd j hj0 hji
      cases ex
      have hcj : w6.cell? ⟨gx, j.toNat, none⟩ = some (.int .u8 (rd fx j)) := by
        have : (⟨gx, 0, none⟩ : Addr).add j.toNat = ⟨gx, j.toNat, none⟩ := by
          unfold Addr.add
          rw [if_neg (by omega)]
          simp
        rw [this] at hcx
        exact hcx
      have hrj : rd fx j = fx.getD j.toNat 0 := by simp [rd]
      have hfj : w6.frozen? ⟨gx, j.toNat, none⟩ = false := by
        obtain ⟨inner, ho⟩ := Kd.R_own HX6.out
        exact ho.frozenAt j.toNat
      have hk' := Aside0.mk hkl
      have hk2' := Aside0.mk hk2
      rw [hrj] at hcj
      generalize hy : fx.getD j.toNat 0 = y at *
      clear hcx hrd hkl hk2 hrj hkx
      go_upto_region 14 with fail
      have HX7 := Aside0.mk (Kd.R_putn HX6.out j ((y + a2) % 256))
      have HB7 := Aside0.mk (HB6.out.setCell (p := ⟨gx, j.toNat, none⟩) HGX.out (.int .u8 ((y + a2) % 256)))
      have hty : fx.set j.toNat ((y + a2) % 256) = turned fx j.toNat a2 := by rw [turned, hy]
      rw [hty] at HX7
      have HTY := Aside0.mk hty
      have HY0 := Aside0.mk hy
      clear hty hy HX6 HB6 hcj hfj
      generalize w6.setCell ⟨gx, j.toNat, none⟩ (.int .u8 ((y + a2) % 256)) = w7 at *
      go_wp2_with fail
      have hct := (Kd.R_reads' HX7.out).2.2
      have hcx2 : fx.length ≤ cx := by assumption
      have HCX := Aside0.mk hcx2
      have htl := turned_length fx j.toNat a2
      have HTB := Aside0.mk (turned_byt HBY.out j.toNat a2)
      obtain ⟨m1, hm1⟩ := says_ex (turned fx j.toNat a2)
      have hd1 : ((m1 == 0) == (a2 == 0)) = true := say_turned hm1 HBY.out HFR.out hk2'.out hk'.out H2.out.1 (by have := H2.out; omega)
      have SM1 := Aside0.mk hm1
      clear hm1 htl hcx2
      have hD := fun n (hn : n = (turned fx j.toNat a2).length) => decode_any (some ⟨gx, 0, none⟩) n cx (turned fx j.toNat a2) w7 hct hn (by rw [turned_length]; exact HCX.out) HTB.out m1 SM1.out
      with_reducible refine (hD _ ?hlen0).mono ?_
      case hlen0 => exact (turned_length fx j.toNat a2).symm
      clear hD
      clear hct
      rintro e wa1 ⟨ia1, ib1, id1, Ae1, ne1, ce1, rfl, hb⟩
      have HA1 := Aside0.mk (below_step HB7.out hb)
      have HY1 := Aside0.mk (Kd.R_below HX7.out hb)
      clear hb
      go_upto_region 15 with (first | ((with_reducible refine gate_dst (N := 14) rfl ?_); refine box_event ?hg (N := 14) ?hd (cs := #[.int .i64 0, .int .i64 0, .int .i64 0, .slice none 0 0]) (t := 59) ?hr ?_; (case hd => rfl); (case hg => rfl); (case hr => first | (go_simp; done) | (go_simp; rfl)); intro g14 hgg14 wb1 hbox hb; have Lg14 := Aside0.mk hb; have Kg14 := Aside0.mk hbox; have Eg14 := Aside0.mk hgg14; clear hb hbox hgg14; have y0g14 : wb1.cell? ⟨g14, 0, none⟩ = some (.int .i64 0) := (blk_cell Kg14.out 0).trans rfl; have y1g14 : wb1.cell? ⟨g14, 1, none⟩ = some (.int .i64 0) := (blk_cell Kg14.out 1).trans rfl; have y2g14 : wb1.cell? ⟨g14, 2, none⟩ = some (.int .i64 0) := (blk_cell Kg14.out 2).trans rfl; have y3g14 : wb1.cell? ⟨g14, 3, none⟩ = some (.slice none 0 0) := (blk_cell Kg14.out 3).trans rfl; have f0g14 := blk_frozen Kg14.out 0; have f1g14 := blk_frozen Kg14.out 1; have f2g14 := blk_frozen Kg14.out 2; have f3g14 := blk_frozen Kg14.out 3))
      have Mg14 : Aside0 (Below wa1.heap.size wa1 ((((wb1.setCell ⟨g14, 0, none⟩ (.int .i64 ia1)).setCell ⟨g14, 1, none⟩ (.int .i64 ib1)).setCell ⟨g14, 2, none⟩ (.int .i64 id1)).setCell ⟨g14, 3, none⟩ (.slice Ae1 ne1 ce1))) := ⟨(below_set (j := 3) (v := .slice Ae1 ne1 ce1) (below_set (j := 2) (v := .int .i64 id1) (below_set (j := 1) (v := .int .i64 ib1) (below_set (j := 0) (v := .int .i64 ia1) Lg14.out (Nat.le_of_eq Eg14.out.symm)) (Nat.le_of_eq Eg14.out.symm)) (Nat.le_of_eq Eg14.out.symm)) (Nat.le_of_eq Eg14.out.symm))⟩
      have Bg14 : Aside0 (((((wb1.setCell ⟨g14, 0, none⟩ (.int .i64 ia1)).setCell ⟨g14, 1, none⟩ (.int .i64 ib1)).setCell ⟨g14, 2, none⟩ (.int .i64 id1)).setCell ⟨g14, 3, none⟩ (.slice Ae1 ne1 ce1)).heap[g14]? = some (.cells #[.int .i64 ia1, .int .i64 ib1, .int .i64 id1, .slice Ae1 ne1 ce1] 59 (0, 0))) := ⟨(blk_put (blk_put (blk_put (blk_put Kg14.out 0 (.int .i64 ia1) rfl) 1 (.int .i64 ib1) rfl) 2 (.int .i64 id1) rfl) 3 (.slice Ae1 ne1 ce1) rfl)⟩
      clear Lg14 Kg14 y0g14 f0g14 y1g14 f1g14 y2g14 f2g14 y3g14 f3g14
      generalize ((((wb1.setCell ⟨g14, 0, none⟩ (.int .i64 ia1)).setCell ⟨g14, 1, none⟩ (.int .i64 ib1)).setCell ⟨g14, 2, none⟩ (.int .i64 id1)).setCell ⟨g14, 3, none⟩ (.slice Ae1 ne1 ce1)) = wc1 at *
      have HC1 := Aside0.mk (below_step HA1.out Mg14.out)
      have HZ1 := Aside0.mk (Kd.R_below HY1.out Mg14.out)
      obtain ⟨hq1, hq2, hrd⟩ := Kd.R_reads' HZ1.out
      clear hq1 hq2
      obtain ⟨ady, ey, hcy⟩ := Kd.at_int hrd j hj0 (by rw [turned_length]; exact hji)
      cases ey
      have hcj : wc1.cell? ⟨gx, j.toNat, none⟩ = some (.int .u8 (rd (turned fx j.toNat a2) j)) := by
        have e : (⟨gx, 0, none⟩ : Addr).add j.toNat = ⟨gx, j.toNat, none⟩ := by
          have := hk2'.out
          unfold Addr.add
          rw [if_neg (by omega)]
          simp
        rw [e] at hcy
        exact hcy
      have hrj : rd (turned fx j.toNat a2) j = (turned fx j.toNat a2).getD j.toNat 0 := by simp [rd]
      have hfj : wc1.frozen? ⟨gx, j.toNat, none⟩ = false := by
        obtain ⟨inner, ho⟩ := Kd.R_own HZ1.out
        rw [turned_length] at ho
        exact ho.frozenAt j.toNat
      rw [hrj] at hcj
      have htb := Aside0.mk (turned_back HBY.out j.toNat hk'.out a2)
      generalize hv : (turned fx j.toNat a2).getD j.toNat 0 = v at *
      clear hcy hrd hrj
      have HV := Aside0.mk hv
      clear hv
      go_upto_region 18 with fail
      have HX8 := Aside0.mk (Kd.R_putn HZ1.out j ((v - a2) % 256))
      have HB8 := Aside0.mk (HC1.out.setCell (p := ⟨gx, j.toNat, none⟩) HGX.out (.int .u8 ((v - a2) % 256)))
      rw [htb.out] at HX8
      clear hcj hfj htb HZ1 HC1 HX7 HB7 hd1
      generalize wc1.setCell ⟨gx, j.toNat, none⟩ (.int .u8 ((v - a2) % 256)) = w8 at *
      obtain ⟨i0, hi0, _, hsz, _⟩ := info_parts info5
      obtain ⟨hcut, hA2, hC2⟩ := print_take_of (P := Try.prog) (Value.int .u8) 0 32 5 .i64 Try.underlying32 hi0 hsz (some ⟨gx, 0, none⟩) cx fx j hj0 (by omega) HCX.out
      have HT := Aside0.mk (Kd.C_of_reads (h1 := fun _ => rfl) (hA2 _ (Kd.reads_of_C (Kd.R_reads' HX8.out).2.2)) : Bs w8 (some ⟨gx, 0, none⟩) (fx.take j.toNat))
      have HK2c := Aside0.mk hC2
      have hsf := short_fr HFR.out j.toNat hk'.out
      have HTT := Aside0.mk (HBY.out.take j.toNat)
      have htk : (fx.take j.toNat).length = j.toNat := by have := hk'.out; rw [List.length_take]; omega
      have HTK := Aside0.mk htk
      have SM2 := Aside0.mk (show Says (fx.take j.toNat) 200 from ⟨fun g => absurd g hsf, fun _ => rfl⟩)
      clear hA2 hC2 hi0 hsz htk hsf
      generalize fx.take j.toNat = tk at *
      go_wp2_with fail
      have hD := fun n (hn : n = tk.length) => decode_any (some ⟨gx, 0, none⟩) n cx tk w8 HT.out hn HK2c.out HTT.out 200 SM2.out
      with_reducible refine (hD _ ?hlen).mono ?_
      case hlen => first | rfl | exact HTK.out.symm
      clear hcut hj0 hji hD
      rintro e wa2 ⟨ia2, ib2, id2, Ae2, ne2, ce2, rfl, hb⟩
      have HA2 := Aside0.mk (below_step HB8.out hb)
      have HY2 := Aside0.mk (Kd.R_below HX8.out hb)
      clear hb
      go_upto_region 19 with (first | ((with_reducible refine gate_dst (N := 16) rfl ?_); refine box_event ?hg (N := 16) ?hd (cs := #[.int .i64 0, .int .i64 0, .int .i64 0, .slice none 0 0]) (t := 59) ?hr ?_; (case hd => rfl); (case hg => rfl); (case hr => first | (go_simp; done) | (go_simp; rfl)); intro g16 hgg16 wb2 hbox hb; have Lg16 := Aside0.mk hb; have Kg16 := Aside0.mk hbox; have Eg16 := Aside0.mk hgg16; clear hb hbox hgg16; have y0g16 : wb2.cell? ⟨g16, 0, none⟩ = some (.int .i64 0) := (blk_cell Kg16.out 0).trans rfl; have y1g16 : wb2.cell? ⟨g16, 1, none⟩ = some (.int .i64 0) := (blk_cell Kg16.out 1).trans rfl; have y2g16 : wb2.cell? ⟨g16, 2, none⟩ = some (.int .i64 0) := (blk_cell Kg16.out 2).trans rfl; have y3g16 : wb2.cell? ⟨g16, 3, none⟩ = some (.slice none 0 0) := (blk_cell Kg16.out 3).trans rfl; have f0g16 := blk_frozen Kg16.out 0; have f1g16 := blk_frozen Kg16.out 1; have f2g16 := blk_frozen Kg16.out 2; have f3g16 := blk_frozen Kg16.out 3))
      have Mg16 : Aside0 (Below wa2.heap.size wa2 ((((wb2.setCell ⟨g16, 0, none⟩ (.int .i64 ia2)).setCell ⟨g16, 1, none⟩ (.int .i64 ib2)).setCell ⟨g16, 2, none⟩ (.int .i64 id2)).setCell ⟨g16, 3, none⟩ (.slice Ae2 ne2 ce2))) := ⟨(below_set (j := 3) (v := .slice Ae2 ne2 ce2) (below_set (j := 2) (v := .int .i64 id2) (below_set (j := 1) (v := .int .i64 ib2) (below_set (j := 0) (v := .int .i64 ia2) Lg16.out (Nat.le_of_eq Eg16.out.symm)) (Nat.le_of_eq Eg16.out.symm)) (Nat.le_of_eq Eg16.out.symm)) (Nat.le_of_eq Eg16.out.symm))⟩
      have Bg16 : Aside0 (((((wb2.setCell ⟨g16, 0, none⟩ (.int .i64 ia2)).setCell ⟨g16, 1, none⟩ (.int .i64 ib2)).setCell ⟨g16, 2, none⟩ (.int .i64 id2)).setCell ⟨g16, 3, none⟩ (.slice Ae2 ne2 ce2)).heap[g16]? = some (.cells #[.int .i64 ia2, .int .i64 ib2, .int .i64 id2, .slice Ae2 ne2 ce2] 59 (0, 0))) := ⟨(blk_put (blk_put (blk_put (blk_put Kg16.out 0 (.int .i64 ia2) rfl) 1 (.int .i64 ib2) rfl) 2 (.int .i64 id2) rfl) 3 (.slice Ae2 ne2 ce2) rfl)⟩
      clear Lg16 Kg16 y0g16 f0g16 y1g16 f1g16 y2g16 f2g16 y3g16 f3g16
      generalize ((((wb2.setCell ⟨g16, 0, none⟩ (.int .i64 ia2)).setCell ⟨g16, 1, none⟩ (.int .i64 ib2)).setCell ⟨g16, 2, none⟩ (.int .i64 id2)).setCell ⟨g16, 3, none⟩ (.slice Ae2 ne2 ce2)) = wc2 at *
      have HC2 := Aside0.mk (below_step HA2.out Mg16.out)
      have HZ2 := Aside0.mk (Kd.R_below HY2.out Mg16.out)
      have hNL : (fx.length + l3.length) * 1 ≤ 140737488355328 := by have := hlx.out; have := hbig'.out; simp only [Nat.mul_one]; omega
      have HNL := Aside0.mk hNL
      clear hNL HX8 HB8
      go_wp2_with (first | ((with_reducible refine gate_builtin (b := .append) (xs := #[.tmp 98, .tmp 99]) rfl ?_); refine Kd.R_append_rows (Kd.int .u8) (w0 := w) w.heap.size rfl (.tmp 98) (.tmp 99) 32 5 (.int .u8 0) 1 rfl Try.underlying32 info5 rfl (by decide) (by omega) (.slice (some ⟨gx, 0, none⟩) fx.length cx) fx l3 _ _ _ (fun _ => True) (fun _ => False) rfl rfl HZ2.out (Kd.C_below HM.out.reads HC2.out) (fun _ _ h => h) (fun _ h => h.elim) (fun _ _ => trivial) HC2.out (below_size HC2.out) HNL.out ?_; intro v5 w5' ho hb hg hat; obtain ⟨A5, c5, rfl, hc5, hC5⟩ := Kd.R_reads ho; have HB5' := Aside0.mk hb; have HC5 := Aside0.mk hC5; have hc5' := Aside0.mk hc5; clear ho hb hg hat hC5 hc5))
      obtain ⟨m3, hm3⟩ := says_ex (fx ++ l3)
      have hd3 : ((m3 == 0) == ((l3.length : Int) == 0)) = true := say_long hm3 HFR.out
      have SM3 := Aside0.mk hm3
      clear hm3
      have hD := fun n (hn : n = (fx ++ l3).length) => decode_any A5 n c5 (fx ++ l3) w5' HC5.out hn hc5'.out (HBY.out.append HM.out.byt) m3 SM3.out
      with_reducible refine (hD _ ?hlen2).mono ?_
      case hlen2 => first | rfl | simp
      clear hD
      rintro e wa3 ⟨ia3, ib3, id3, Ae3, ne3, ce3, rfl, hb⟩
      have HA3 := Aside0.mk (below_step HB5'.out hb)
      clear hb
      go_upto_region 20 with (first | ((with_reducible refine gate_dst (N := 18) rfl ?_); refine box_event ?hg (N := 18) ?hd (cs := #[.int .i64 0, .int .i64 0, .int .i64 0, .slice none 0 0]) (t := 59) ?hr ?_; (case hd => rfl); (case hg => rfl); (case hr => first | (go_simp; done) | (go_simp; rfl)); intro g18 hgg18 wb3 hbox hb; have Lg18 := Aside0.mk hb; have Kg18 := Aside0.mk hbox; have Eg18 := Aside0.mk hgg18; clear hb hbox hgg18; have y0g18 : wb3.cell? ⟨g18, 0, none⟩ = some (.int .i64 0) := (blk_cell Kg18.out 0).trans rfl; have y1g18 : wb3.cell? ⟨g18, 1, none⟩ = some (.int .i64 0) := (blk_cell Kg18.out 1).trans rfl; have y2g18 : wb3.cell? ⟨g18, 2, none⟩ = some (.int .i64 0) := (blk_cell Kg18.out 2).trans rfl; have y3g18 : wb3.cell? ⟨g18, 3, none⟩ = some (.slice none 0 0) := (blk_cell Kg18.out 3).trans rfl; have f0g18 := blk_frozen Kg18.out 0; have f1g18 := blk_frozen Kg18.out 1; have f2g18 := blk_frozen Kg18.out 2; have f3g18 := blk_frozen Kg18.out 3))
      have Mg18 : Aside0 (Below wa3.heap.size wa3 ((((wb3.setCell ⟨g18, 0, none⟩ (.int .i64 ia3)).setCell ⟨g18, 1, none⟩ (.int .i64 ib3)).setCell ⟨g18, 2, none⟩ (.int .i64 id3)).setCell ⟨g18, 3, none⟩ (.slice Ae3 ne3 ce3))) := ⟨(below_set (j := 3) (v := .slice Ae3 ne3 ce3) (below_set (j := 2) (v := .int .i64 id3) (below_set (j := 1) (v := .int .i64 ib3) (below_set (j := 0) (v := .int .i64 ia3) Lg18.out (Nat.le_of_eq Eg18.out.symm)) (Nat.le_of_eq Eg18.out.symm)) (Nat.le_of_eq Eg18.out.symm)) (Nat.le_of_eq Eg18.out.symm))⟩
      have Bg18 : Aside0 (((((wb3.setCell ⟨g18, 0, none⟩ (.int .i64 ia3)).setCell ⟨g18, 1, none⟩ (.int .i64 ib3)).setCell ⟨g18, 2, none⟩ (.int .i64 id3)).setCell ⟨g18, 3, none⟩ (.slice Ae3 ne3 ce3)).heap[g18]? = some (.cells #[.int .i64 ia3, .int .i64 ib3, .int .i64 id3, .slice Ae3 ne3 ce3] 59 (0, 0))) := ⟨(blk_put (blk_put (blk_put (blk_put Kg18.out 0 (.int .i64 ia3) rfl) 1 (.int .i64 ib3) rfl) 2 (.int .i64 id3) rfl) 3 (.slice Ae3 ne3 ce3) rfl)⟩
      clear Lg18 Kg18 y0g18 f0g18 y1g18 f1g18 y2g18 f2g18 y3g18 f3g18
      generalize ((((wb3.setCell ⟨g18, 0, none⟩ (.int .i64 ia3)).setCell ⟨g18, 1, none⟩ (.int .i64 ib3)).setCell ⟨g18, 2, none⟩ (.int .i64 id3)).setCell ⟨g18, 3, none⟩ (.slice Ae3 ne3 ce3)) = wc3 at *
      have HC3 := Aside0.mk (below_step HA3.out Mg18.out)
      go_wp2
      go_ret
      exact ⟨rfl, HC3.out⟩
    · go_enter Try.func7, Try.ntmps7
      have hfit' := Aside0.mk hfit
      clear hfit
      go_wp2_with (first | ((with_reducible refine gate_dst (N := 4) rfl ?_); refine box_event ?hg (N := 4) ?hd (cs := #[.int .i64 p, .int .i64 q, .int .i64 s, .slice A l.length c]) (t := 59) ?hr ?_; (case hd => rfl); (case hg => rfl); (case hr => first | (go_simp; done) | (go_simp; rfl)); intro g hg w3 hbox hb; have HB := Aside0.mk hb; have BK := Aside0.mk hbox; have GW := Aside0.mk (by rw [hg]; exact Nat.le_refl _ : w.heap.size ≤ g); clear hb hbox hg; have hz0 : w3.cell? ⟨g, 0, none⟩ = some (.int .i64 p) := (blk_cell BK.out 0).trans rfl; have hz1 : w3.cell? ⟨g, 1, none⟩ = some (.int .i64 q) := (blk_cell BK.out 1).trans rfl; have hz2 : w3.cell? ⟨g, 2, none⟩ = some (.int .i64 s) := (blk_cell BK.out 2).trans rfl; have hz3 : w3.cell? ⟨g, 3, none⟩ = some (.slice A l.length c) := (blk_cell BK.out 3).trans rfl))
      have HK := Aside0.mk (enc_bad 0 (by have := hbig'.out; omega) hfit'.out)
      refine (encode_bad A c p q s l _ HF.out.room (by have := hbig'.out; omega) hfit'.out).mono ?_
      rintro e w4 ⟨rfl, hb4⟩
      have HB4 := Aside0.mk (below_step HB.out hb4)
      have BK4 := Aside0.mk (blk_below BK.out hb4)
      clear hz0 hz1 hz2 hz3 hb4 HB BK
      have hz0 : w4.cell? ⟨g, 0, none⟩ = some (.int .i64 p) := (blk_cell BK4.out 0).trans rfl
      have hz1 : w4.cell? ⟨g, 1, none⟩ = some (.int .i64 q) := (blk_cell BK4.out 1).trans rfl
      have hz2 : w4.cell? ⟨g, 2, none⟩ = some (.int .i64 s) := (blk_cell BK4.out 2).trans rfl
      have hz3 : w4.cell? ⟨g, 3, none⟩ = some (.slice A l.length c) := (blk_cell BK4.out 3).trans rfl
      go_wp2_with fail
      refine (theirs_any p q s A l.length c _).mono ?_
      rintro e w5 ⟨rfl, hb5⟩
      have HB5 := Aside0.mk (below_step HB4.out hb5)
      clear hz0 hz1 hz2 hz3 hb5 HB4 BK4
      go_wp2_with fail
      refine (sallyportref20_Encode.calls 1 p q s A c l [] 1 _ (Kd.C_below HF.out.reads HB5.out) HF.out.room HK.out).mono ?_
      rintro e w6 ⟨vy, rfl, hoy, hb6⟩
      obtain ⟨Ay, cy, rfl, _, _⟩ := Kd.R_reads hoy
      have HB6 := Aside0.mk (below_step HB5.out hb6)
      clear hb6 hoy HB5 HK
      go_wp2
      go_ret
      exact ⟨rfl, HB6.out⟩
  · go_enter Try.func7, Try.ntmps7
    by_cases hb1 : l.length ≤ 65536
    · have d1 : decide ((65536 : Int) < l.length) = false := decide_eq_false (by omega)
      have d2 : decide ((4096 : Int) < l3.length) = true := decide_eq_true (by omega)
      clear hbig hb1
      go_wp2_with (first | ((with_reducible refine gate_dst (N := 4) rfl ?_); refine box_event ?hg (N := 4) ?hd (cs := #[.int .i64 p, .int .i64 q, .int .i64 s, .slice A l.length c]) (t := 59) ?hr ?_; (case hd => rfl); (case hg => rfl); (case hr => first | (go_simp; done) | (go_simp; rfl)); intro g hg w3 hbox hb; have HB := Aside0.mk hb; have BK := Aside0.mk hbox; have GW := Aside0.mk (by rw [hg]; exact Nat.le_refl _ : w.heap.size ≤ g); clear hb hbox hg; have hz0 : w3.cell? ⟨g, 0, none⟩ = some (.int .i64 p) := (blk_cell BK.out 0).trans rfl; have hz1 : w3.cell? ⟨g, 1, none⟩ = some (.int .i64 q) := (blk_cell BK.out 1).trans rfl; have hz2 : w3.cell? ⟨g, 2, none⟩ = some (.int .i64 s) := (blk_cell BK.out 2).trans rfl; have hz3 : w3.cell? ⟨g, 3, none⟩ = some (.slice A l.length c) := (blk_cell BK.out 3).trans rfl))
      go_ret
      exact ⟨rfl, HB.out⟩
    · have d1 : decide ((65536 : Int) < l.length) = true := decide_eq_true (by omega)
      clear hbig hb1
      go_wp2_with (first | ((with_reducible refine gate_dst (N := 4) rfl ?_); refine box_event ?hg (N := 4) ?hd (cs := #[.int .i64 p, .int .i64 q, .int .i64 s, .slice A l.length c]) (t := 59) ?hr ?_; (case hd => rfl); (case hg => rfl); (case hr => first | (go_simp; done) | (go_simp; rfl)); intro g hg w3 hbox hb; have HB := Aside0.mk hb; have BK := Aside0.mk hbox; have GW := Aside0.mk (by rw [hg]; exact Nat.le_refl _ : w.heap.size ≤ g); clear hb hbox hg; have hz0 : w3.cell? ⟨g, 0, none⟩ = some (.int .i64 p) := (blk_cell BK.out 0).trans rfl; have hz1 : w3.cell? ⟨g, 1, none⟩ = some (.int .i64 q) := (blk_cell BK.out 1).trans rfl; have hz2 : w3.cell? ⟨g, 2, none⟩ = some (.int .i64 s) := (blk_cell BK.out 2).trans rfl; have hz3 : w3.cell? ⟨g, 3, none⟩ = some (.slice A l.length c) := (blk_cell BK.out 3).trans rfl))
      go_ret
      exact ⟨rfl, HB.out⟩
end Go.Proofs.Ythjholnpkpkakaa.ControlTurnedWalk
