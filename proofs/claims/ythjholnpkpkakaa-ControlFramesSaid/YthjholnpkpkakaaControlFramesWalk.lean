/- The walk of ControlFrames: frames and bytes are written and read as the document says: the call returns true and leaves all memory that was there as it was. No condition. -/
import Derived.Test.YthjholnpkpkakaaFrameAny
import Derived.Test.YthjholnpkpkakaaPartLaws
import Derived.Test.YthjholnpkpkakaaFrameArg
import Derived.Test.YthjholnpkpkakaaRg
namespace Go.Proofs.Ythjholnpkpkakaa.ControlFramesWalk
open Go.RowKit Go.Proofs.YthjholnpkpkakaaW.PrintWords Go.Proofs.YthjholnpkpkakaaW.PrintLast Go.Proofs.YthjholnpkpkakaaW.PrintMore Go.Proofs.Ythjholnpkpkakaa.PControlFrames Go.Proofs.Ythjholnpkpkakaa.FrameLaws Go.Proofs.Ythjholnpkpkakaa.Parts Go.Proofs.Ythjholnpkpkakaa.Numbers Go.Proofs.Ythjholnpkpkakaa.PartLaws Go.Proofs.Ythjholnpkpkakaa.Encode Go.Proofs.Ythjholnpkpkakaa.Decode Go.Proofs.Ythjholnpkpkakaa.Theirs Go.Proofs.Ythjholnpkpkakaa.FrameArg Go.Proofs.Ythjholnpkpkakaa.MWorld Go.Proofs.Ythjholnpkpkakaa.FrameAny Go.Proofs.Ythjholnpkpkakaa.Rg
set_option linter.unusedVariables false
set_option linter.unusedSimpArgs false

theorem addr_of {w : World} {A : Option Addr} {n : Nat} {xs : List Int} (h : Kd.C (Kd.int .u8) w A n xs) (hn : 0 < n) : ∃ ad, A = some ad := by
  obtain ⟨ad, e, _⟩ := Kd.at_int h 0 (by omega) (by omega)
  exact ⟨ad, e⟩
theorem cell_last {w : World} {A : Option Addr} {n : Nat} {l : List Int} {ad : Addr} (hA : A = some ad) (h : Kd.C (Kd.int .u8) w A n (l ++ [77])) (hn : (l ++ [77]).length = n) : w.cell? (ad.add l.length) = some (.int .u8 77) := by
  obtain ⟨ad', e, hc⟩ := Kd.at_int h (l.length : Int) (by omega) (by rw [← hn]; simp; omega)
  subst hA
  cases e
  rw [Int.toNat_natCast] at hc
  have : rd (l ++ [77]) (l.length : Int) = 77 := by simp [rd]
  rw [this] at hc
  exact hc
set_option maxHeartbeats 8000000 in
set_option maxRecDepth 100000 in
theorem walk (p q s : Int) (A : Option Addr) (c : Nat) (l : List Int) (A1 : Option Addr) (c1 : Nat) (l1 : List Int) (from_ most : Int) (A4 : Option Addr) (c4 : Nat) (l4 : List Int) (w : World) (w0 : BytesIn w A c l) (w1 : MArgs.IntsIn .u8 1 w A1 c1 l1) (w2 : (Lit.int .i64 from_).wf = true) (w3 : (Lit.int .i64 most).wf = true) (w4 : MArgs.IntsIn .i64 8 w A4 c4 l4) :
    Calls Try.prog 10 #[.agg #[.int .i64 p, .int .i64 q, .int .i64 s, .slice A l.length c], .slice A1 l1.length c1, .int .i64 from_, .int .i64 most, .slice A4 l4.length c4] w fun e w' => e = .returned (.bool true) ∧ Below w.heap.size w w' := by
  have HF := Aside0.mk w0
  have HM := Aside0.mk (IntsIn.bytes' w1)
  have H2 := Aside0.mk (bounds_i64 w2)
  have H3 := Aside0.mk (bounds_i64 w3)
  have HI := Aside0.mk w4
  clear w0 w1 w2 w3 w4
  have hu := Try.underlying59
  have hu2 := Try.underlying63
  by_cases hbig : l.length ≤ 65536 ∧ l1.length ≤ 65536 ∧ l4.length ≤ 4096
  · have d1 : decide ((65536 : Int) < l.length) = false := decide_eq_false (by omega)
    have d2 : decide ((65536 : Int) < l1.length) = false := decide_eq_false (by omega)
    have d3 : decide ((4096 : Int) < l4.length) = false := decide_eq_false (by omega)
    have hbig' := Aside0.mk hbig
    clear hbig
    go_enter Try.func10, Try.ntmps10
    go_wp2_with (first | ((with_reducible refine gate_dst (N := 5) rfl ?_); refine box_event ?hg (N := 5) ?hd (cs := #[.int .i64 p, .int .i64 q, .int .i64 s, .slice A l.length c]) (t := 59) ?hr ?_; (case hd => rfl); (case hg => rfl); (case hr => first | (go_simp; done) | (go_simp; rfl)); intro g hg w3 hbox hb; have HB := Aside0.mk hb; have BK := Aside0.mk hbox; have GW := Aside0.mk (by rw [hg]; exact Nat.le_refl _ : w.heap.size ≤ g); clear hb hbox hg; have hz0 : w3.cell? ⟨g, 0, none⟩ = some (.int .i64 p) := (blk_cell BK.out 0).trans rfl; have hz1 : w3.cell? ⟨g, 1, none⟩ = some (.int .i64 q) := (blk_cell BK.out 1).trans rfl; have hz2 : w3.cell? ⟨g, 2, none⟩ = some (.int .i64 s) := (blk_cell BK.out 2).trans rfl; have hz3 : w3.cell? ⟨g, 3, none⟩ = some (.slice A l.length c) := (blk_cell BK.out 3).trans rfl))
    obtain ⟨F, m, hE⟩ := enc_ex p q s l HF.out.byt (by have := hbig'.out; omega)
    have HE := Aside0.mk hE
    clear hE
    refine (encode_any A c p q s l _ (Kd.C_below HF.out.reads HB.out) HF.out.room HF.out.byt (by have := hbig'.out; omega) F m HE.out).mono ?_
    rintro e w4 ⟨Ax, cx, rfl, hCx, hb4⟩
    have HX := Aside0.mk hCx
    have HB4 := Aside0.mk (below_step HB.out hb4)
    have BK4 := Aside0.mk (blk_below BK.out hb4)
    clear hz0 hz1 hz2 hz3 hb4 hCx HB BK
    have hz0 : w4.cell? ⟨g, 0, none⟩ = some (.int .i64 p) := (blk_cell BK4.out 0).trans rfl
    have hz1 : w4.cell? ⟨g, 1, none⟩ = some (.int .i64 q) := (blk_cell BK4.out 1).trans rfl
    have hz2 : w4.cell? ⟨g, 2, none⟩ = some (.int .i64 s) := (blk_cell BK4.out 2).trans rfl
    have hz3 : w4.cell? ⟨g, 3, none⟩ = some (.slice A l.length c) := (blk_cell BK4.out 3).trans rfl
    go_wp2_with fail
    refine (theirs_any p q s A l.length c _).mono ?_
    rintro e w5 ⟨rfl, hb5⟩
    have HB5 := Aside0.mk (below_step HB4.out hb5)
    have HX5 := Aside0.mk (Kd.C_below HX.out hb5)
    clear hz0 hz1 hz2 hz3 hb5 HB4 BK4 HX
    go_wp2_with fail
    refine (ref_encode_any A c p q s l _ (Kd.C_below HF.out.reads HB5.out) HF.out.room F m HE.out).mono ?_
    rintro e w6 ⟨Ay, cy, rfl, hCy, hb6⟩
    have HB6 := Aside0.mk (below_step HB5.out hb6)
    have hs1 := Kd.C_string (P := Try.prog) (src := 32) (dst := 9) (c := cx) Try.underlying32 Try.underlying5 Try.underlying9 (Kd.C_below HX5.out hb6)
    have hs2 := Kd.C_string (P := Try.prog) (src := 32) (dst := 9) (c := cy) Try.underlying32 Try.underlying5 Try.underlying9 hCy
    clear hb6 hCy HB5 HX5 HE
    go_upto_region 7 with fail
    clear hs1 hs2
    go_upto_region 10 with (first | ((with_reducible refine gate_dst (N := 55) rfl ?_); refine Kd.R_lit (Kd.int .u8) (w0 := w) w.heap.size 5 ?hg (N := 55) ?hd (xs := ([] : List Int)) (inner := []) (ok := fun _ => True) (okp := fun _ => True) ?hr ?hp (fun _ hk => hk) trivial HB6.out (below_size HB6.out) (by simp) ?_; (case hd => rfl); (case hg => rfl); (case hr => first | (go_simp; done) | (go_simp; rfl)); (case hp => exact (Reps.none _ _)); intro vo w7 ho hb hg_ hnew_; clear hg_ hnew_; have HO := Aside0.mk ho; have HB7 := Aside0.mk hb; clear ho hb) | ((with_reducible refine gate_builtin (b := .append) (xs := #[.tmp 56, .tmp 57]) rfl ?_); refine Kd.R_append_rows (Kd.int .u8) (w0 := w) w.heap.size rfl (.tmp 56) (.tmp 57) 32 5 (.int .u8 0) 1 rfl Try.underlying32 info5 rfl (by decide) (by omega) vo ([] : List Int) l1 _ _ _ (fun _ => True) (fun _ => False) rfl rfl HO.out (Kd.C_below HM.out.reads HB7.out) (fun _ _ h => h) (fun _ h => h.elim) (fun _ _ => trivial) HB7.out (below_size HB7.out) (by have := hbig'.out; simp; omega) ?_; intro vp w8 ho hb hg hat; have HO1 := Aside0.mk (show Own w8 w.heap.size vp l1 from ho); have HB8 := Aside0.mk hb; clear ho hb hg hat) | ((with_reducible refine gate_dst (N := 60) rfl ?_); refine Kd.R_lit (Kd.int .u8) (w0 := w8) w8.heap.size 5 ?hg (N := 60) ?hd (xs := ([77] : List Int)) (inner := [.int .u8 77]) (ok := fun _ => True) (okp := fun _ => True) ?hr ?hp (fun _ hk => hk) trivial (Below.refl _ _) (Nat.le_refl _) (by simp) ?_; (case hd => rfl); (case hg => rfl); (case hr => first | (go_simp; done) | (go_simp; rfl)); (case hp => exact ⟨rfl, fun j p hj => by cases j with | zero => (simp at hj; subst hj; rfl) | succ j => simp at hj⟩); intro vq w9 ho hb hg_ hnew_; clear hg_ hnew_; obtain ⟨Aq, cq, rfl, _, hCq⟩ := Kd.R_reads ho; have HQ := Aside0.mk hCq; have HO2 := Aside0.mk (Kd.R_below HO1.out hb); have HB9 := Aside0.mk (below_step HB8.out hb); clear ho hb hCq) | ((with_reducible refine gate_builtin (b := .append) (xs := #[.tmp 59, .tmp 60]) rfl ?_); refine Kd.R_append_rows (Kd.int .u8) (w0 := w) w.heap.size rfl (.tmp 59) (.tmp 60) 32 5 (.int .u8 0) 1 rfl Try.underlying32 info5 rfl (by decide) (by omega) vp l1 [77] _ _ _ (fun _ => True) (fun _ => False) rfl rfl HO2.out HQ.out (fun _ _ h => h) (fun _ h => h.elim) (fun _ _ => trivial) HB9.out (below_size HB9.out) (by have := hbig'.out; simp; omega) ?_; intro vc wA ho hb hg hat; have HOA := Aside0.mk (show Own wA w.heap.size vc (l1 ++ [77]) from ho); have HBA := Aside0.mk hb; clear ho hb hg hat))
    clear HO HO1 HO2 HQ HB6 HB7 HB8 HB9
    obtain ⟨Ac, cc, rfl, hcc, hCc⟩ := Kd.R_reads HOA.out
    obtain ⟨i0, hi0, _, hsz, _⟩ := info_parts info5
    obtain ⟨hcut, hA2, hC2⟩ := print_take_of (P := Try.prog) (Value.int .u8) 0 32 5 .i64 Try.underlying32 hi0 hsz Ac cc (l1 ++ [77]) (l1.length : Int) (by omega) (by simp; omega) hcc
    have htk : (l1 ++ [77]).take (l1.length : Int).toNat = l1 := by simp
    have HCc := Aside0.mk hCc
    have HL1 := Aside0.mk (Kd.C_of_reads (h1 := fun _ => rfl) (hA2 _ (Kd.reads_of_C hCc)) : Bs wA Ac ((l1 ++ [77]).take (l1.length : Int).toNat))
    rw [htk] at hcut hC2 HL1
    have HC2 := Aside0.mk hC2
    have hn1 : (l1 ++ [77]).length = l1.length + 1 := by simp
    have hcut1_ : ∀ W : World, (Instr.slice 32 (.slice Ac (l1.length + 1) cc) none (some (.int .i64 (l1.length : Int))) none).run Try.prog W = .ok (.slice Ac l1.length cc) W := by rw [← hn1]; exact hcut
    clear hcut
    rw [hn1] at HCc ⊢
    obtain ⟨n1, hn2⟩ : ∃ n1, n1 = l1.length + 1 := ⟨_, rfl⟩
    rw [← hn2] at HCc hcut1_ hn1 ⊢
    have hcut1 := Aside0.mk hcut1_
    have HN1 := Aside0.mk hn1
    clear hi0 hsz hA2 hC2 htk HOA hCc hcc hn1 hn2
    go_wp2_with fail
    obtain ⟨da, db, dd, L, dm, hD⟩ := dec_ex l1 HM.out.byt (by have := hbig'.out; omega)
    have HDS := Aside0.mk hD
    clear hD
    refine (decode_full Ac l1.length cc l1 _ HL1.out rfl HC2.out HM.out.byt da db dd L dm HDS.out).mono ?_
    rintro e wa1 ⟨AL, cL, rfl, hcL, hCL, hb⟩
    have HA1 := Aside0.mk (below_step HBA.out hb)
    have HL2 := Aside0.mk (Kd.C_below HL1.out hb)
    have HC3 := Aside0.mk (Kd.C_below HCc.out hb)
    have HL := Aside0.mk hCL
    have hcL' := Aside0.mk hcL
    clear hb hCL hcL HBA HL1 HCc hcut1_
    
    go_wp2_with (first | ((with_reducible refine gate_dst (N := 16) rfl ?_); refine box_event ?hg (N := 16) ?hd (cs := #[.int .i64 0, .int .i64 0, .int .i64 0, .slice none 0 0]) (t := 59) ?hr ?_; (case hd => rfl); (case hg => rfl); (case hr => first | (go_simp; done) | (go_simp; rfl)); intro g16 hgg16 wb1 hbox hb; have Lg16 := Aside0.mk hb; have Kg16 := Aside0.mk hbox; have Eg16 := Aside0.mk hgg16; clear hb hbox hgg16; have y0g16 : wb1.cell? ⟨g16, 0, none⟩ = some (.int .i64 0) := (blk_cell Kg16.out 0).trans rfl; have y1g16 : wb1.cell? ⟨g16, 1, none⟩ = some (.int .i64 0) := (blk_cell Kg16.out 1).trans rfl; have y2g16 : wb1.cell? ⟨g16, 2, none⟩ = some (.int .i64 0) := (blk_cell Kg16.out 2).trans rfl; have y3g16 : wb1.cell? ⟨g16, 3, none⟩ = some (.slice none 0 0) := (blk_cell Kg16.out 3).trans rfl; have f0g16 := blk_frozen Kg16.out 0; have f1g16 := blk_frozen Kg16.out 1; have f2g16 := blk_frozen Kg16.out 2; have f3g16 := blk_frozen Kg16.out 3))
    have Mg16 : Aside0 (Below wa1.heap.size wa1 ((((wb1.setCell ⟨g16, 0, none⟩ (.int .i64 da)).setCell ⟨g16, 1, none⟩ (.int .i64 db)).setCell ⟨g16, 2, none⟩ (.int .i64 dd)).setCell ⟨g16, 3, none⟩ (.slice AL L.length cL))) := ⟨(below_set (j := 3) (v := .slice AL L.length cL) (below_set (j := 2) (v := .int .i64 dd) (below_set (j := 1) (v := .int .i64 db) (below_set (j := 0) (v := .int .i64 da) Lg16.out (Nat.le_of_eq Eg16.out.symm)) (Nat.le_of_eq Eg16.out.symm)) (Nat.le_of_eq Eg16.out.symm)) (Nat.le_of_eq Eg16.out.symm))⟩
    have Bg16 : Aside0 (((((wb1.setCell ⟨g16, 0, none⟩ (.int .i64 da)).setCell ⟨g16, 1, none⟩ (.int .i64 db)).setCell ⟨g16, 2, none⟩ (.int .i64 dd)).setCell ⟨g16, 3, none⟩ (.slice AL L.length cL)).heap[g16]? = some (.cells #[.int .i64 da, .int .i64 db, .int .i64 dd, .slice AL L.length cL] 59 (0, 0))) := ⟨(blk_put (blk_put (blk_put (blk_put Kg16.out 0 (.int .i64 da) rfl) 1 (.int .i64 db) rfl) 2 (.int .i64 dd) rfl) 3 (.slice AL L.length cL) rfl)⟩
    clear Lg16 Kg16 y0g16 f0g16 y1g16 f1g16 y2g16 f2g16 y3g16 f3g16
    generalize ((((wb1.setCell ⟨g16, 0, none⟩ (.int .i64 da)).setCell ⟨g16, 1, none⟩ (.int .i64 db)).setCell ⟨g16, 2, none⟩ (.int .i64 dd)).setCell ⟨g16, 3, none⟩ (.slice AL L.length cL)) = wc1 at *
    have HD1 := Aside0.mk (below_step HA1.out Mg16.out)
    have HL3 := Aside0.mk (Kd.C_below HL2.out Mg16.out)
    have HC4 := Aside0.mk (Kd.C_below HC3.out Mg16.out)
    have HLd := Aside0.mk (Kd.C_below HL.out Mg16.out)
    clear HA1 HL2 HC3 HL Mg16 Eg16
    refine (ref_decode_full A1 c1 l1 _ (Kd.C_below HM.out.reads HD1.out) HM.out.room da db dd L dm HDS.out).mono ?_
    rintro e wa2 ⟨AM, cM, rfl, hcM, hCM, hb⟩
    have HA2 := Aside0.mk (below_step HD1.out hb)
    have HL4 := Aside0.mk (Kd.C_below HL3.out hb)
    have HC5 := Aside0.mk (Kd.C_below HC4.out hb)
    have HLe := Aside0.mk (Kd.C_below HLd.out hb)
    have BG16 := Aside0.mk (blk_below Bg16.out hb)
    have HM2 := Aside0.mk hCM
    have hcM' := Aside0.mk hcM
    clear hb hCM hcM HD1 HL3 HC4 HLd HDS Bg16
    go_upto_region 12 with (first | ((with_reducible refine gate_dst (N := 18) rfl ?_); refine box_event ?hg (N := 18) ?hd (cs := #[.int .i64 0, .int .i64 0, .int .i64 0, .slice none 0 0]) (t := 63) ?hr ?_; (case hd => rfl); (case hg => rfl); (case hr => first | (go_simp; done) | (go_simp; rfl)); intro g18 hgg18 wb2 hbox hb; have Lg18 := Aside0.mk hb; have Kg18 := Aside0.mk hbox; have Eg18 := Aside0.mk hgg18; clear hb hbox hgg18; have y0g18 : wb2.cell? ⟨g18, 0, none⟩ = some (.int .i64 0) := (blk_cell Kg18.out 0).trans rfl; have y1g18 : wb2.cell? ⟨g18, 1, none⟩ = some (.int .i64 0) := (blk_cell Kg18.out 1).trans rfl; have y2g18 : wb2.cell? ⟨g18, 2, none⟩ = some (.int .i64 0) := (blk_cell Kg18.out 2).trans rfl; have y3g18 : wb2.cell? ⟨g18, 3, none⟩ = some (.slice none 0 0) := (blk_cell Kg18.out 3).trans rfl; have f0g18 := blk_frozen Kg18.out 0; have f1g18 := blk_frozen Kg18.out 1; have f2g18 := blk_frozen Kg18.out 2; have f3g18 := blk_frozen Kg18.out 3))
    have Mg18 : Aside0 (Below wa2.heap.size wa2 ((((wb2.setCell ⟨g18, 0, none⟩ (.int .i64 da)).setCell ⟨g18, 1, none⟩ (.int .i64 db)).setCell ⟨g18, 2, none⟩ (.int .i64 dd)).setCell ⟨g18, 3, none⟩ (.slice AM L.length cM))) := ⟨(below_set (j := 3) (v := .slice AM L.length cM) (below_set (j := 2) (v := .int .i64 dd) (below_set (j := 1) (v := .int .i64 db) (below_set (j := 0) (v := .int .i64 da) Lg18.out (Nat.le_of_eq Eg18.out.symm)) (Nat.le_of_eq Eg18.out.symm)) (Nat.le_of_eq Eg18.out.symm)) (Nat.le_of_eq Eg18.out.symm))⟩
    have Bg18 : Aside0 (((((wb2.setCell ⟨g18, 0, none⟩ (.int .i64 da)).setCell ⟨g18, 1, none⟩ (.int .i64 db)).setCell ⟨g18, 2, none⟩ (.int .i64 dd)).setCell ⟨g18, 3, none⟩ (.slice AM L.length cM)).heap[g18]? = some (.cells #[.int .i64 da, .int .i64 db, .int .i64 dd, .slice AM L.length cM] 63 (0, 0))) := ⟨(blk_put (blk_put (blk_put (blk_put Kg18.out 0 (.int .i64 da) rfl) 1 (.int .i64 db) rfl) 2 (.int .i64 dd) rfl) 3 (.slice AM L.length cM) rfl)⟩
    clear Lg18 Kg18 y0g18 f0g18 y1g18 f1g18 y2g18 f2g18 y3g18 f3g18
    generalize ((((wb2.setCell ⟨g18, 0, none⟩ (.int .i64 da)).setCell ⟨g18, 1, none⟩ (.int .i64 db)).setCell ⟨g18, 2, none⟩ (.int .i64 dd)).setCell ⟨g18, 3, none⟩ (.slice AM L.length cM)) = wc2 at *
    have HD2 := Aside0.mk (below_step HA2.out Mg18.out)
    have HL5 := Aside0.mk (Kd.C_below HL4.out Mg18.out)
    have HC6 := Aside0.mk (Kd.C_below HC5.out Mg18.out)
    have HLf := Aside0.mk (Kd.C_below HLe.out Mg18.out)
    have HM3 := Aside0.mk (Kd.C_below HM2.out Mg18.out)
    have BH16 := Aside0.mk (blk_below BG16.out Mg18.out)
    clear HA2 HL4 HC5 HLe HM2 BG16 Mg18 Eg18
    obtain ⟨adc, rfl⟩ := addr_of HC6.out (by have := HN1.out; simp at this; omega)
    refine wp_region_rg (by kernel_rfl) (fun x y => Below x.heap.size x y) (fun (i : Nat) (v : Value) (w1 : World) => match i with | 0 => v = (.int .i64 dm) | 1 => v = (.int .i64 dm) | 2 => v = (.bool false) | 3 => v = (.bool false) | 4 => v = (.agg #[.int .i64 da, .int .i64 db, .int .i64 dd, .slice AL L.length cL]) | 5 => v = (.agg #[.int .i64 da, .int .i64 db, .int .i64 dd, .slice AM L.length cM]) | 6 => v = (.bool true) | 7 => v = (.bool false) | 8 => v = (.bool false) | 9 => v = (.bool false) | 10 => v = (.slice (some adc) n1 cc) | 11 => v = (.slice A1 l1.length c1) | 12 => v = (.int .i64 (l1.length : Int)) | 13 => v = (.pointer (some (adc.add l1.length))) | 14 => v = (.int .u8 77) | 15 => v = (.bool false) | 16 => v = (.bool false) | 17 => v = (.bool false) | 18 => v = (.slice (some adc) n1 cc) | 19 => v = (.slice A1 l1.length c1) | 20 => v = (.int .i64 (l1.length : Int)) | 21 => v = (.slice (some adc) l1.length cc) | 22 => v = (.string (strOfNums l1)) | 23 => v = (.slice A1 l1.length c1) | 24 => v = (.string (strOfNums l1)) | 25 => v = (.bool false) | 26 => v = (.bool false) | _ => True) (by kernel_rfl) (by kernel_rfl) below_tr (Below.refl _ _).drew ?hJst (obl_list ?hObl) ?hEnd
    case hJst =>
      intro i v wx wy hi hs0 hs1 hJi
      match i, hi with
      | 0, _ => exact hJi
      | 1, _ => exact hJi
      | 2, _ => exact hJi
      | 3, _ => exact hJi
      | 4, _ => exact hJi
      | 5, _ => exact hJi
      | 6, _ => exact hJi
      | 7, _ => exact hJi
      | 8, _ => exact hJi
      | 9, _ => exact hJi
      | 10, _ => exact hJi
      | 11, _ => exact hJi
      | 12, _ => exact hJi
      | 13, _ => exact hJi
      | 14, _ => exact hJi
      | 15, _ => exact hJi
      | 16, _ => exact hJi
      | 17, _ => exact hJi
      | 18, _ => exact hJi
      | 19, _ => exact hJi
      | 20, _ => exact hJi
      | 21, _ => exact hJi
      | 22, _ => exact hJi
      | 23, _ => exact hJi
      | 24, _ => exact hJi
      | 25, _ => exact hJi
      | 26, _ => exact hJi
      | _ + 27, hi => exact absurd hi (by simp)
    case hObl =>
      refine ⟨?_, ?_, ?_, ?_, ?_, ?_, ?_, ?_, ?_, ?_, ?_, ?_, ?_, ?_, ?_, ?_, ?_, ?_, ?_, ?_, ?_, ?_, ?_, ?_, ?_, ?_, ?_,  trivial⟩
      · intro listed vals a wq K hD hst hj haft hun hK
        have h17 := hD.out 17 rfl rfl
        replace hst : Below _ _ wq := hst
        clear hD hj haft hun
        have e17 := eval_of h17
        refine step_now (v := .int .i64 dm) (w' := wq) (wanted_free rfl) ?_ (hK _ _ (Below.refl _ _) rfl)
        clear hK
        first | (go_simp; done) | (go_simp; rfl)
      · intro listed vals a wq K hD hst hj haft hun hK
        have h19 := hD.out 19 rfl rfl
        replace hst : Below _ _ wq := hst
        clear hD hj haft hun
        have e19 := eval_of h19
        refine step_now (v := .int .i64 dm) (w' := wq) (wanted_free rfl) ?_ (hK _ _ (Below.refl _ _) rfl)
        clear hK
        first | (go_simp; done) | (go_simp; rfl)
      · intro listed vals a wq K hD hst hj haft hun hK
        obtain ⟨v75, h75, j75⟩ := hD.dep hj haft 0 75 rfl rfl
        replace j75 : v75 = (.int .i64 dm) := j75
        subst j75
        obtain ⟨v76, h76, j76⟩ := hD.dep hj haft 1 76 rfl rfl
        replace j76 : v76 = (.int .i64 dm) := j76
        subst j76
        replace hst : Below _ _ wq := hst
        clear hD hj haft hun
        have e75 := eval_of h75
        have e76 := eval_of h76
        refine step_now (v := .bool false) (w' := wq) (wanted_free rfl) ?_ (hK _ _ (Below.refl _ _) rfl)
        clear hK
        first | (go_simp; done) | (go_simp; rfl)
      · intro listed vals a wq K hD hst hj haft hun hK
        obtain ⟨v77, h77, j77⟩ := hD.dep hj haft 2 77 rfl rfl
        replace j77 : v77 = (.bool false) := j77
        subst j77
        replace hst : Below _ _ wq := hst
        clear hD hj haft hun
        have e77 := eval_of h77
        refine step_now (v := .bool false) (w' := wq) (wanted_free rfl) ?_ (hK _ _ (Below.refl _ _) rfl)
        clear hK
        first | (go_simp; done) | (go_simp; rfl)
      · intro listed vals a wq K hD hst hj haft hun hK
        obtain ⟨v78, h78, j78⟩ := hD.dep hj haft 3 78 rfl rfl
        replace j78 : v78 = (.bool false) := j78
        subst j78
        have h16 := hD.out 16 rfl rfl
        replace hst : Below _ _ wq := hst
        clear hD hj haft hun
        have e16 := eval_of h16
        have y0 : wq.cell? ⟨g16, 0, none⟩ = some _ := (blk_cell (blk_below BH16.out hst) 0).trans rfl
        have y1 : wq.cell? ⟨g16, 1, none⟩ = some _ := (blk_cell (blk_below BH16.out hst) 1).trans rfl
        have y2 : wq.cell? ⟨g16, 2, none⟩ = some _ := (blk_cell (blk_below BH16.out hst) 2).trans rfl
        have y3 : wq.cell? ⟨g16, 3, none⟩ = some _ := (blk_cell (blk_below BH16.out hst) 3).trans rfl
        refine step_now (v := .agg #[.int .i64 da, .int .i64 db, .int .i64 dd, .slice AL L.length cL]) (w' := wq) (wanted_on (t := 78) (u := false) rfl rfl rfl h78) ?_ (hK _ _ (Below.refl _ _) rfl)
        clear hK
        first | (go_simp; done) | (go_simp; rfl)
      · intro listed vals a wq K hD hst hj haft hun hK
        obtain ⟨v78, h78, j78⟩ := hD.dep hj haft 3 78 rfl rfl
        replace j78 : v78 = (.bool false) := j78
        subst j78
        have h18 := hD.out 18 rfl rfl
        replace hst : Below _ _ wq := hst
        clear hD hj haft hun
        have e18 := eval_of h18
        have y0 : wq.cell? ⟨g18, 0, none⟩ = some _ := (blk_cell (blk_below Bg18.out hst) 0).trans rfl
        have y1 : wq.cell? ⟨g18, 1, none⟩ = some _ := (blk_cell (blk_below Bg18.out hst) 1).trans rfl
        have y2 : wq.cell? ⟨g18, 2, none⟩ = some _ := (blk_cell (blk_below Bg18.out hst) 2).trans rfl
        have y3 : wq.cell? ⟨g18, 3, none⟩ = some _ := (blk_cell (blk_below Bg18.out hst) 3).trans rfl
        refine step_now (v := .agg #[.int .i64 da, .int .i64 db, .int .i64 dd, .slice AM L.length cM]) (w' := wq) (wanted_on (t := 78) (u := false) rfl rfl rfl h78) ?_ (hK _ _ (Below.refl _ _) rfl)
        clear hK
        first | (go_simp; done) | (go_simp; rfl)
      · intro listed vals a wq K hD hst hj haft hun hK
        obtain ⟨v79, h79, j79⟩ := hD.dep hj haft 4 79 rfl rfl
        replace j79 : v79 = (.agg #[.int .i64 da, .int .i64 db, .int .i64 dd, .slice AL L.length cL]) := j79
        subst j79
        obtain ⟨v80, h80, j80⟩ := hD.dep hj haft 5 80 rfl rfl
        replace j80 : v80 = (.agg #[.int .i64 da, .int .i64 db, .int .i64 dd, .slice AM L.length cM]) := j80
        subst j80
        obtain ⟨v78, h78, j78⟩ := hD.dep hj haft 3 78 rfl rfl
        replace j78 : v78 = (.bool false) := j78
        subst j78
        replace hst : Below _ _ wq := hst
        clear hD hj haft hun
        have e79 := eval_of h79
        have e80 := eval_of h80
        refine step_call (f := 32) (args := #[.agg #[.int .i64 da, .int .i64 db, .int .i64 dd, .slice AL L.length cL], .agg #[.int .i64 da, .int .i64 db, .int .i64 dd, .slice AM L.length cM]]) (wanted_on (t := 78) (u := false) rfl rfl rfl h78) ?_ (sallyportlaw20_sameFrame.calls da db dd AL cL L da db dd AM cM L true wq (Kd.C_below HLf.out hst) hcL'.out (Kd.C_below HM3.out hst) hcM'.out (by simp [sallyportlaw20_sameFrame.f])) ?_
        · clear hK; first | (go_simp; done) | (go_simp; rfl)
        · rintro e w' ⟨rfl, hb⟩; exact ⟨_, rfl, hK _ _ hb rfl⟩
      · intro listed vals a wq K hD hst hj haft hun hK
        obtain ⟨v81, h81, j81⟩ := hD.dep hj haft 6 81 rfl rfl
        replace j81 : v81 = (.bool true) := j81
        subst j81
        obtain ⟨v78, h78, j78⟩ := hD.dep hj haft 3 78 rfl rfl
        replace j78 : v78 = (.bool false) := j78
        subst j78
        replace hst : Below _ _ wq := hst
        clear hD hj haft hun
        have e81 := eval_of h81
        refine step_now (v := .bool false) (w' := wq) (wanted_on (t := 78) (u := false) rfl rfl rfl h78) ?_ (hK _ _ (Below.refl _ _) rfl)
        clear hK
        first | (go_simp; done) | (go_simp; rfl)
      · intro listed vals a wq K hD hst hj haft hun hK
        obtain ⟨v78, h78, j78⟩ := hD.dep hj haft 3 78 rfl rfl
        replace j78 : v78 = (.bool false) := j78
        subst j78
        obtain ⟨v82, h82, j82⟩ := hD.dep hj haft 7 82 rfl rfl
        replace j82 : v82 = (.bool false) := j82
        subst j82
        replace hst : Below _ _ wq := hst
        clear hD hj haft hun
        have e78 := eval_of h78
        have e82 := eval_of h82
        refine step_now (v := .bool false) (w' := wq) (wanted_free rfl) ?_ (hK _ _ (Below.refl _ _) rfl)
        clear hK
        first | (go_simp; done) | (go_simp; rfl)
      · intro listed vals a wq K hD hst hj haft hun hK
        obtain ⟨v83, h83, j83⟩ := hD.dep hj haft 8 83 rfl rfl
        replace j83 : v83 = (.bool false) := j83
        subst j83
        replace hst : Below _ _ wq := hst
        clear hD hj haft hun
        have e83 := eval_of h83
        refine step_now (v := .bool false) (w' := wq) (wanted_free rfl) ?_ (hK _ _ (Below.refl _ _) rfl)
        clear hK
        first | (go_simp; done) | (go_simp; rfl)
      · intro listed vals a wq K hD hst hj haft hun hK
        obtain ⟨v84, h84, j84⟩ := hD.dep hj haft 9 84 rfl rfl
        replace j84 : v84 = (.bool false) := j84
        subst j84
        have h15 := hD.out 15 rfl rfl
        replace hst : Below _ _ wq := hst
        clear hD hj haft hun
        have e15 := eval_of h15
        refine step_now (v := .slice (some adc) n1 cc) (w' := wq) (wanted_on (t := 84) (u := false) rfl rfl rfl h84) ?_ (hK _ _ (Below.refl _ _) rfl)
        clear hK
        first | (go_simp; done) | (go_simp; rfl)
      · intro listed vals a wq K hD hst hj haft hun hK
        obtain ⟨v84, h84, j84⟩ := hD.dep hj haft 9 84 rfl rfl
        replace j84 : v84 = (.bool false) := j84
        subst j84
        have h1 := hD.out 1 rfl rfl
        replace hst : Below _ _ wq := hst
        clear hD hj haft hun
        have e1 := eval_of h1
        refine step_now (v := .slice A1 l1.length c1) (w' := wq) (wanted_on (t := 84) (u := false) rfl rfl rfl h84) ?_ (hK _ _ (Below.refl _ _) rfl)
        clear hK
        first | (go_simp; done) | (go_simp; rfl)
      · intro listed vals a wq K hD hst hj haft hun hK
        obtain ⟨v86, h86, j86⟩ := hD.dep hj haft 11 86 rfl rfl
        replace j86 : v86 = (.slice A1 l1.length c1) := j86
        subst j86
        obtain ⟨v84, h84, j84⟩ := hD.dep hj haft 9 84 rfl rfl
        replace j84 : v84 = (.bool false) := j84
        subst j84
        replace hst : Below _ _ wq := hst
        clear hD hj haft hun
        have e86 := eval_of h86
        refine step_now (v := .int .i64 (l1.length : Int)) (w' := wq) (wanted_on (t := 84) (u := false) rfl rfl rfl h84) ?_ (hK _ _ (Below.refl _ _) rfl)
        clear hK
        first | (go_simp; done) | (go_simp; rfl)
      · intro listed vals a wq K hD hst hj haft hun hK
        obtain ⟨v85, h85, j85⟩ := hD.dep hj haft 10 85 rfl rfl
        replace j85 : v85 = (.slice (some adc) n1 cc) := j85
        subst j85
        obtain ⟨v87, h87, j87⟩ := hD.dep hj haft 12 87 rfl rfl
        replace j87 : v87 = (.int .i64 (l1.length : Int)) := j87
        subst j87
        obtain ⟨v84, h84, j84⟩ := hD.dep hj haft 9 84 rfl rfl
        replace j84 : v84 = (.bool false) := j84
        subst j84
        replace hst : Below _ _ wq := hst
        clear hD hj haft hun
        have e85 := eval_of h85
        have e87 := eval_of h87
        have hlt : (l1.length : Int) < (n1 : Int) := by have := HN1.out; simp at this; omega
        have hnn : (0 : Int) ≤ (l1.length : Int) := by omega
        refine step_now (v := .pointer (some (adc.add l1.length))) (w' := wq) (wanted_on (t := 84) (u := false) rfl rfl rfl h84) ?_ (hK _ _ (Below.refl _ _) rfl)
        clear hK
        first | (go_simp; done) | (go_simp; rfl)
      · intro listed vals a wq K hD hst hj haft hun hK
        obtain ⟨v88, h88, j88⟩ := hD.dep hj haft 13 88 rfl rfl
        replace j88 : v88 = (.pointer (some (adc.add l1.length))) := j88
        subst j88
        obtain ⟨v84, h84, j84⟩ := hD.dep hj haft 9 84 rfl rfl
        replace j84 : v84 = (.bool false) := j84
        subst j84
        replace hst : Below _ _ wq := hst
        clear hD hj haft hun
        have e88 := eval_of h88
        have hcc : wq.cell? (adc.add l1.length) = some (.int .u8 77) := cell_last rfl (Kd.C_below HC6.out hst) HN1.out
        refine step_now (v := .int .u8 77) (w' := wq) (wanted_on (t := 84) (u := false) rfl rfl rfl h84) ?_ (hK _ _ (Below.refl _ _) rfl)
        clear hK
        first | (go_simp; done) | (go_simp; rfl)
      · intro listed vals a wq K hD hst hj haft hun hK
        obtain ⟨v89, h89, j89⟩ := hD.dep hj haft 14 89 rfl rfl
        replace j89 : v89 = (.int .u8 77) := j89
        subst j89
        obtain ⟨v84, h84, j84⟩ := hD.dep hj haft 9 84 rfl rfl
        replace j84 : v84 = (.bool false) := j84
        subst j84
        replace hst : Below _ _ wq := hst
        clear hD hj haft hun
        have e89 := eval_of h89
        refine step_now (v := .bool false) (w' := wq) (wanted_on (t := 84) (u := false) rfl rfl rfl h84) ?_ (hK _ _ (Below.refl _ _) rfl)
        clear hK
        first | (go_simp; done) | (go_simp; rfl)
      · intro listed vals a wq K hD hst hj haft hun hK
        obtain ⟨v84, h84, j84⟩ := hD.dep hj haft 9 84 rfl rfl
        replace j84 : v84 = (.bool false) := j84
        subst j84
        obtain ⟨v90, h90, j90⟩ := hD.dep hj haft 15 90 rfl rfl
        replace j90 : v90 = (.bool false) := j90
        subst j90
        replace hst : Below _ _ wq := hst
        clear hD hj haft hun
        have e84 := eval_of h84
        have e90 := eval_of h90
        refine step_now (v := .bool false) (w' := wq) (wanted_free rfl) ?_ (hK _ _ (Below.refl _ _) rfl)
        clear hK
        first | (go_simp; done) | (go_simp; rfl)
      · intro listed vals a wq K hD hst hj haft hun hK
        obtain ⟨v91, h91, j91⟩ := hD.dep hj haft 16 91 rfl rfl
        replace j91 : v91 = (.bool false) := j91
        subst j91
        replace hst : Below _ _ wq := hst
        clear hD hj haft hun
        have e91 := eval_of h91
        refine step_now (v := .bool false) (w' := wq) (wanted_free rfl) ?_ (hK _ _ (Below.refl _ _) rfl)
        clear hK
        first | (go_simp; done) | (go_simp; rfl)
      · intro listed vals a wq K hD hst hj haft hun hK
        obtain ⟨v92, h92, j92⟩ := hD.dep hj haft 17 92 rfl rfl
        replace j92 : v92 = (.bool false) := j92
        subst j92
        have h15 := hD.out 15 rfl rfl
        replace hst : Below _ _ wq := hst
        clear hD hj haft hun
        have e15 := eval_of h15
        refine step_now (v := .slice (some adc) n1 cc) (w' := wq) (wanted_on (t := 92) (u := false) rfl rfl rfl h92) ?_ (hK _ _ (Below.refl _ _) rfl)
        clear hK
        first | (go_simp; done) | (go_simp; rfl)
      · intro listed vals a wq K hD hst hj haft hun hK
        obtain ⟨v92, h92, j92⟩ := hD.dep hj haft 17 92 rfl rfl
        replace j92 : v92 = (.bool false) := j92
        subst j92
        have h1 := hD.out 1 rfl rfl
        replace hst : Below _ _ wq := hst
        clear hD hj haft hun
        have e1 := eval_of h1
        refine step_now (v := .slice A1 l1.length c1) (w' := wq) (wanted_on (t := 92) (u := false) rfl rfl rfl h92) ?_ (hK _ _ (Below.refl _ _) rfl)
        clear hK
        first | (go_simp; done) | (go_simp; rfl)
      · intro listed vals a wq K hD hst hj haft hun hK
        obtain ⟨v94, h94, j94⟩ := hD.dep hj haft 19 94 rfl rfl
        replace j94 : v94 = (.slice A1 l1.length c1) := j94
        subst j94
        obtain ⟨v92, h92, j92⟩ := hD.dep hj haft 17 92 rfl rfl
        replace j92 : v92 = (.bool false) := j92
        subst j92
        replace hst : Below _ _ wq := hst
        clear hD hj haft hun
        have e94 := eval_of h94
        refine step_now (v := .int .i64 (l1.length : Int)) (w' := wq) (wanted_on (t := 92) (u := false) rfl rfl rfl h92) ?_ (hK _ _ (Below.refl _ _) rfl)
        clear hK
        first | (go_simp; done) | (go_simp; rfl)
      · intro listed vals a wq K hD hst hj haft hun hK
        obtain ⟨v93, h93, j93⟩ := hD.dep hj haft 18 93 rfl rfl
        replace j93 : v93 = (.slice (some adc) n1 cc) := j93
        subst j93
        obtain ⟨v95, h95, j95⟩ := hD.dep hj haft 20 95 rfl rfl
        replace j95 : v95 = (.int .i64 (l1.length : Int)) := j95
        subst j95
        obtain ⟨v92, h92, j92⟩ := hD.dep hj haft 17 92 rfl rfl
        replace j92 : v92 = (.bool false) := j92
        subst j92
        replace hst : Below _ _ wq := hst
        clear hD hj haft hun
        have e93 := eval_of h93
        have e95 := eval_of h95
        have hcutq := hcut1.out wq
        refine step_now (v := .slice (some adc) l1.length cc) (w' := wq) (wanted_on (t := 92) (u := false) rfl rfl rfl h92) ?_ (hK _ _ (Below.refl _ _) rfl)
        clear hK
        first | (go_simp; done) | (go_simp; rfl)
      · intro listed vals a wq K hD hst hj haft hun hK
        obtain ⟨v96, h96, j96⟩ := hD.dep hj haft 21 96 rfl rfl
        replace j96 : v96 = (.slice (some adc) l1.length cc) := j96
        subst j96
        obtain ⟨v92, h92, j92⟩ := hD.dep hj haft 17 92 rfl rfl
        replace j92 : v92 = (.bool false) := j92
        subst j92
        replace hst : Below _ _ wq := hst
        clear hD hj haft hun
        have e96 := eval_of h96
        have hsq := Kd.C_string (P := Try.prog) (src := 32) (dst := 9) (c := cc) Try.underlying32 Try.underlying5 Try.underlying9 (Kd.C_below HL5.out hst)
        refine step_now (v := .string (strOfNums l1)) (w' := wq) (wanted_on (t := 92) (u := false) rfl rfl rfl h92) ?_ (hK _ _ (Below.refl _ _) rfl)
        clear hK
        first | (go_simp; done) | (go_simp; rfl)
      · intro listed vals a wq K hD hst hj haft hun hK
        obtain ⟨v92, h92, j92⟩ := hD.dep hj haft 17 92 rfl rfl
        replace j92 : v92 = (.bool false) := j92
        subst j92
        have h1 := hD.out 1 rfl rfl
        replace hst : Below _ _ wq := hst
        clear hD hj haft hun
        have e1 := eval_of h1
        refine step_now (v := .slice A1 l1.length c1) (w' := wq) (wanted_on (t := 92) (u := false) rfl rfl rfl h92) ?_ (hK _ _ (Below.refl _ _) rfl)
        clear hK
        first | (go_simp; done) | (go_simp; rfl)
      · intro listed vals a wq K hD hst hj haft hun hK
        obtain ⟨v98, h98, j98⟩ := hD.dep hj haft 23 98 rfl rfl
        replace j98 : v98 = (.slice A1 l1.length c1) := j98
        subst j98
        obtain ⟨v92, h92, j92⟩ := hD.dep hj haft 17 92 rfl rfl
        replace j92 : v92 = (.bool false) := j92
        subst j92
        replace hst : Below _ _ wq := hst
        clear hD hj haft hun
        have e98 := eval_of h98
        have hsq := Kd.C_string (P := Try.prog) (src := 32) (dst := 9) (c := c1) Try.underlying32 Try.underlying5 Try.underlying9 (Kd.C_below HM.out.reads (below_step HD2.out hst))
        refine step_now (v := .string (strOfNums l1)) (w' := wq) (wanted_on (t := 92) (u := false) rfl rfl rfl h92) ?_ (hK _ _ (Below.refl _ _) rfl)
        clear hK
        first | (go_simp; done) | (go_simp; rfl)
      · intro listed vals a wq K hD hst hj haft hun hK
        obtain ⟨v97, h97, j97⟩ := hD.dep hj haft 22 97 rfl rfl
        replace j97 : v97 = (.string (strOfNums l1)) := j97
        subst j97
        obtain ⟨v99, h99, j99⟩ := hD.dep hj haft 24 99 rfl rfl
        replace j99 : v99 = (.string (strOfNums l1)) := j99
        subst j99
        obtain ⟨v92, h92, j92⟩ := hD.dep hj haft 17 92 rfl rfl
        replace j92 : v92 = (.bool false) := j92
        subst j92
        replace hst : Below _ _ wq := hst
        clear hD hj haft hun
        have e97 := eval_of h97
        have e99 := eval_of h99
        refine step_now (v := .bool false) (w' := wq) (wanted_on (t := 92) (u := false) rfl rfl rfl h92) ?_ (hK _ _ (Below.refl _ _) rfl)
        clear hK
        first | (go_simp; done) | (go_simp; rfl)
      · intro listed vals a wq K hD hst hj haft hun hK
        obtain ⟨v92, h92, j92⟩ := hD.dep hj haft 17 92 rfl rfl
        replace j92 : v92 = (.bool false) := j92
        subst j92
        obtain ⟨v100, h100, j100⟩ := hD.dep hj haft 25 100 rfl rfl
        replace j100 : v100 = (.bool false) := j100
        subst j100
        replace hst : Below _ _ wq := hst
        clear hD hj haft hun
        have e92 := eval_of h92
        have e100 := eval_of h100
        refine step_now (v := .bool false) (w' := wq) (wanted_free rfl) ?_ (hK _ _ (Below.refl _ _) rfl)
        clear hK
        first | (go_simp; done) | (go_simp; rfl)
    case hEnd =>
      intro vals wend hst hj
      have j0 : vals 0 = (.int .i64 dm) := hj 0 (by decide)
      have j1 : vals 1 = (.int .i64 dm) := hj 1 (by decide)
      have j2 : vals 2 = (.bool false) := hj 2 (by decide)
      have j3 : vals 3 = (.bool false) := hj 3 (by decide)
      have j4 : vals 4 = (.agg #[.int .i64 da, .int .i64 db, .int .i64 dd, .slice AL L.length cL]) := hj 4 (by decide)
      have j5 : vals 5 = (.agg #[.int .i64 da, .int .i64 db, .int .i64 dd, .slice AM L.length cM]) := hj 5 (by decide)
      have j6 : vals 6 = (.bool true) := hj 6 (by decide)
      have j7 : vals 7 = (.bool false) := hj 7 (by decide)
      have j8 : vals 8 = (.bool false) := hj 8 (by decide)
      have j9 : vals 9 = (.bool false) := hj 9 (by decide)
      have j10 : vals 10 = (.slice (some adc) n1 cc) := hj 10 (by decide)
      have j11 : vals 11 = (.slice A1 l1.length c1) := hj 11 (by decide)
      have j12 : vals 12 = (.int .i64 (l1.length : Int)) := hj 12 (by decide)
      have j13 : vals 13 = (.pointer (some (adc.add l1.length))) := hj 13 (by decide)
      have j14 : vals 14 = (.int .u8 77) := hj 14 (by decide)
      have j15 : vals 15 = (.bool false) := hj 15 (by decide)
      have j16 : vals 16 = (.bool false) := hj 16 (by decide)
      have j17 : vals 17 = (.bool false) := hj 17 (by decide)
      have j18 : vals 18 = (.slice (some adc) n1 cc) := hj 18 (by decide)
      have j19 : vals 19 = (.slice A1 l1.length c1) := hj 19 (by decide)
      have j20 : vals 20 = (.int .i64 (l1.length : Int)) := hj 20 (by decide)
      have j21 : vals 21 = (.slice (some adc) l1.length cc) := hj 21 (by decide)
      have j22 : vals 22 = (.string (strOfNums l1)) := hj 22 (by decide)
      have j23 : vals 23 = (.slice A1 l1.length c1) := hj 23 (by decide)
      have j24 : vals 24 = (.string (strOfNums l1)) := hj 24 (by decide)
      have j25 : vals 25 = (.bool false) := hj 25 (by decide)
      have j26 : vals 26 = (.bool false) := hj 26 (by decide)
      replace hst : Below _ _ wend := hst
      clear hj
      rw [putAll_list]
      simp only [putL, Act.put, List.setIfInBounds_toArray, List.set_cons_zero, List.set_cons_succ, j0, j1, j2, j3, j4, j5, j6, j7, j8, j9, j10, j11, j12, j13, j14, j15, j16, j17, j18, j19, j20, j21, j22, j23, j24, j25, j26]
      clear j0 j1 j2 j3 j4 j5 j6 j7 j8 j9 j10 j11 j12 j13 j14 j15 j16 j17 j18 j19 j20 j21 j22 j23 j24 j25 j26
      have HE := Aside0.mk (below_step HD2.out hst)
      have HL6 := Aside0.mk (Kd.C_below HL5.out hst)
      clear HL5 HC6 HLf HM3 BH16 Bg18 HD2 hst
      go_upto_region 14 with fail
      obtain ⟨kn, hkn⟩ := ref_numbers l4 (by have := hbig'.out; omega)
      have HKn := Aside0.mk hkn
      have HI4 := Aside0.mk (show Kd.C (Kd.int .i64) w A4 l4.length l4 from Kd.C_of_reads (d := (0 : Int)) (h1 := fun _ => rfl) HI.out.reads)
      clear hkn
      refine wp_region_rg (by kernel_rfl) (fun x y => Below x.heap.size x y) (fun (i : Nat) (v : Value) (w1 : World) => match i with | 0 => v = (.slice (some adc) n1 cc) | 1 => v = (.slice A1 l1.length c1) | 2 => v = (.int .i64 (l1.length : Int)) | 3 => v = (.slice (some adc) l1.length cc) | 4 => v = (.int .i64 from_) | 5 => v = (.int .i64 most) | 6 => ∃ (Az : Option Addr) (cz : Nat), v = .slice Az (cutB l1 from_ most).length cz ∧ Kd.C (Kd.int .u8) w1 Az (cutB l1 from_ most).length (cutB l1 from_ most) | 7 => v = (.string (strOfNums (cutB l1 from_ most))) | 8 => v = (.slice A1 l1.length c1) | 9 => v = (.int .i64 from_) | 10 => v = (.int .i64 most) | 11 => ∃ (Az : Option Addr) (cz : Nat), v = .slice Az (cutB l1 from_ most).length cz ∧ Kd.C (Kd.int .u8) w1 Az (cutB l1 from_ most).length (cutB l1 from_ most) | 12 => v = (.string (strOfNums (cutB l1 from_ most))) | 13 => v = (.bool true) | 14 => v = (.bool true) | 15 => v = (.slice A4 l4.length c4) | 16 => ∃ (Az : Option Addr) (cz : Nat), v = .slice Az (numbers l4).length cz ∧ Kd.C (Kd.int .u8) w1 Az (numbers l4).length (numbers l4) | 17 => v = (.string (strOfNums (numbers l4))) | 18 => v = (.slice A4 l4.length c4) | 19 => ∃ (Az : Option Addr) (cz : Nat), v = .slice Az (numbers l4).length cz ∧ Kd.C (Kd.int .u8) w1 Az (numbers l4).length (numbers l4) | 20 => v = (.string (strOfNums (numbers l4))) | 21 => v = (.bool true) | 22 => v = (.bool true) | 23 => v = (.bool true) | _ => True) (by kernel_rfl) (by kernel_rfl) below_tr (Below.refl _ _).drew ?hJst (obl_list ?hObl) ?hEnd
      case hJst =>
        intro i v wx wy hi hs0 hs1 hJi
        match i, hi with
        | 0, _ => exact hJi
        | 1, _ => exact hJi
        | 2, _ => exact hJi
        | 3, _ => exact hJi
        | 4, _ => exact hJi
        | 5, _ => exact hJi
        | 6, _ => replace hJi : (fun (v : Value) (w1 : World) => ∃ (Az : Option Addr) (cz : Nat), v = .slice Az (cutB l1 from_ most).length cz ∧ Kd.C (Kd.int .u8) w1 Az (cutB l1 from_ most).length (cutB l1 from_ most)) v wx := hJi; exact (by obtain ⟨Az, cz, e, hz⟩ := hJi; exact ⟨Az, cz, e, Kd.C_below hz hs1⟩)
        | 7, _ => exact hJi
        | 8, _ => exact hJi
        | 9, _ => exact hJi
        | 10, _ => exact hJi
        | 11, _ => replace hJi : (fun (v : Value) (w1 : World) => ∃ (Az : Option Addr) (cz : Nat), v = .slice Az (cutB l1 from_ most).length cz ∧ Kd.C (Kd.int .u8) w1 Az (cutB l1 from_ most).length (cutB l1 from_ most)) v wx := hJi; exact (by obtain ⟨Az, cz, e, hz⟩ := hJi; exact ⟨Az, cz, e, Kd.C_below hz hs1⟩)
        | 12, _ => exact hJi
        | 13, _ => exact hJi
        | 14, _ => exact hJi
        | 15, _ => exact hJi
        | 16, _ => replace hJi : (fun (v : Value) (w1 : World) => ∃ (Az : Option Addr) (cz : Nat), v = .slice Az (numbers l4).length cz ∧ Kd.C (Kd.int .u8) w1 Az (numbers l4).length (numbers l4)) v wx := hJi; exact (by obtain ⟨Az, cz, e, hz⟩ := hJi; exact ⟨Az, cz, e, Kd.C_below hz hs1⟩)
        | 17, _ => exact hJi
        | 18, _ => exact hJi
        | 19, _ => replace hJi : (fun (v : Value) (w1 : World) => ∃ (Az : Option Addr) (cz : Nat), v = .slice Az (numbers l4).length cz ∧ Kd.C (Kd.int .u8) w1 Az (numbers l4).length (numbers l4)) v wx := hJi; exact (by obtain ⟨Az, cz, e, hz⟩ := hJi; exact ⟨Az, cz, e, Kd.C_below hz hs1⟩)
        | 20, _ => exact hJi
        | 21, _ => exact hJi
        | 22, _ => exact hJi
        | 23, _ => exact hJi
        | _ + 24, hi => exact absurd hi (by simp)
      case hObl =>
        refine ⟨?_, ?_, ?_, ?_, ?_, ?_, ?_, ?_, ?_, ?_, ?_, ?_, ?_, ?_, ?_, ?_, ?_, ?_, ?_, ?_, ?_, ?_, ?_, ?_,  trivial⟩
        · intro listed vals a wq K hD hst hj haft hun hK
          have h15 := hD.out 15 rfl rfl
          replace hst : Below _ _ wq := hst
          clear hD hj haft hun
          have e15 := eval_of h15
          refine step_now (v := .slice (some adc) n1 cc) (w' := wq) (wanted_free rfl) ?_ (hK _ _ (Below.refl _ _) rfl)
          clear hK
          first | (go_simp; done) | (go_simp; rfl)
        · intro listed vals a wq K hD hst hj haft hun hK
          have h1 := hD.out 1 rfl rfl
          replace hst : Below _ _ wq := hst
          clear hD hj haft hun
          have e1 := eval_of h1
          refine step_now (v := .slice A1 l1.length c1) (w' := wq) (wanted_free rfl) ?_ (hK _ _ (Below.refl _ _) rfl)
          clear hK
          first | (go_simp; done) | (go_simp; rfl)
        · intro listed vals a wq K hD hst hj haft hun hK
          obtain ⟨v103, h103, j103⟩ := hD.dep hj haft 1 103 rfl rfl
          replace j103 : v103 = (.slice A1 l1.length c1) := j103
          subst j103
          replace hst : Below _ _ wq := hst
          clear hD hj haft hun
          have e103 := eval_of h103
          refine step_now (v := .int .i64 (l1.length : Int)) (w' := wq) (wanted_free rfl) ?_ (hK _ _ (Below.refl _ _) rfl)
          clear hK
          first | (go_simp; done) | (go_simp; rfl)
        · intro listed vals a wq K hD hst hj haft hun hK
          obtain ⟨v102, h102, j102⟩ := hD.dep hj haft 0 102 rfl rfl
          replace j102 : v102 = (.slice (some adc) n1 cc) := j102
          subst j102
          obtain ⟨v104, h104, j104⟩ := hD.dep hj haft 2 104 rfl rfl
          replace j104 : v104 = (.int .i64 (l1.length : Int)) := j104
          subst j104
          replace hst : Below _ _ wq := hst
          clear hD hj haft hun
          have e102 := eval_of h102
          have e104 := eval_of h104
          have hcutq := hcut1.out wq
          refine step_now (v := .slice (some adc) l1.length cc) (w' := wq) (wanted_free rfl) ?_ (hK _ _ (Below.refl _ _) rfl)
          clear hK
          first | (go_simp; done) | (go_simp; rfl)
        · intro listed vals a wq K hD hst hj haft hun hK
          have h2 := hD.out 2 rfl rfl
          replace hst : Below _ _ wq := hst
          clear hD hj haft hun
          have e2 := eval_of h2
          refine step_now (v := .int .i64 from_) (w' := wq) (wanted_free rfl) ?_ (hK _ _ (Below.refl _ _) rfl)
          clear hK
          first | (go_simp; done) | (go_simp; rfl)
        · intro listed vals a wq K hD hst hj haft hun hK
          have h3 := hD.out 3 rfl rfl
          replace hst : Below _ _ wq := hst
          clear hD hj haft hun
          have e3 := eval_of h3
          refine step_now (v := .int .i64 most) (w' := wq) (wanted_free rfl) ?_ (hK _ _ (Below.refl _ _) rfl)
          clear hK
          first | (go_simp; done) | (go_simp; rfl)
        · intro listed vals a wq K hD hst hj haft hun hK
          obtain ⟨v105, h105, j105⟩ := hD.dep hj haft 3 105 rfl rfl
          replace j105 : v105 = (.slice (some adc) l1.length cc) := j105
          subst j105
          obtain ⟨v106, h106, j106⟩ := hD.dep hj haft 4 106 rfl rfl
          replace j106 : v106 = (.int .i64 from_) := j106
          subst j106
          obtain ⟨v107, h107, j107⟩ := hD.dep hj haft 5 107 rfl rfl
          replace j107 : v107 = (.int .i64 most) := j107
          subst j107
          replace hst : Below _ _ wq := hst
          clear hD hj haft hun
          have e105 := eval_of h105
          have e106 := eval_of h106
          have e107 := eval_of h107
          refine step_call (f := 17) (args := #[.slice (some adc) l1.length cc, .int .i64 from_, .int .i64 most]) (wanted_free rfl) ?_ (part_any (some adc) cc l1 from_ most wq (Kd.C_below HL6.out hst) HC2.out (by have := hbig'.out; omega)) ?_
          · clear hK; first | (go_simp; done) | (go_simp; rfl)
          · rintro e w' ⟨vz, rfl, hoz, hb⟩; obtain ⟨Az, cz, rfl, _, hCz⟩ := Kd.R_reads hoz; exact ⟨_, rfl, hK _ _ hb ⟨Az, cz, rfl, hCz⟩⟩
        · intro listed vals a wq K hD hst hj haft hun hK
          obtain ⟨v108, h108, j108⟩ := hD.dep hj haft 6 108 rfl rfl
          replace j108 : (fun (v : Value) (w1 : World) => ∃ (Az : Option Addr) (cz : Nat), v = .slice Az (cutB l1 from_ most).length cz ∧ Kd.C (Kd.int .u8) w1 Az (cutB l1 from_ most).length (cutB l1 from_ most)) v108 wq := j108
          simp only at j108
          obtain ⟨Az108, cz108, rfl, hz108⟩ := j108
          replace hst : Below _ _ wq := hst
          clear hD hj haft hun
          have e108 := eval_of h108
          have hsq := Kd.C_string (P := Try.prog) (src := 32) (dst := 9) (c := cz108) Try.underlying32 Try.underlying5 Try.underlying9 hz108
          refine step_now (v := .string (strOfNums (cutB l1 from_ most))) (w' := wq) (wanted_free rfl) ?_ (hK _ _ (Below.refl _ _) rfl)
          clear hK
          first | (go_simp; done) | (go_simp; rfl)
        · intro listed vals a wq K hD hst hj haft hun hK
          have h1 := hD.out 1 rfl rfl
          replace hst : Below _ _ wq := hst
          clear hD hj haft hun
          have e1 := eval_of h1
          refine step_now (v := .slice A1 l1.length c1) (w' := wq) (wanted_free rfl) ?_ (hK _ _ (Below.refl _ _) rfl)
          clear hK
          first | (go_simp; done) | (go_simp; rfl)
        · intro listed vals a wq K hD hst hj haft hun hK
          have h2 := hD.out 2 rfl rfl
          replace hst : Below _ _ wq := hst
          clear hD hj haft hun
          have e2 := eval_of h2
          refine step_now (v := .int .i64 from_) (w' := wq) (wanted_free rfl) ?_ (hK _ _ (Below.refl _ _) rfl)
          clear hK
          first | (go_simp; done) | (go_simp; rfl)
        · intro listed vals a wq K hD hst hj haft hun hK
          have h3 := hD.out 3 rfl rfl
          replace hst : Below _ _ wq := hst
          clear hD hj haft hun
          have e3 := eval_of h3
          refine step_now (v := .int .i64 most) (w' := wq) (wanted_free rfl) ?_ (hK _ _ (Below.refl _ _) rfl)
          clear hK
          first | (go_simp; done) | (go_simp; rfl)
        · intro listed vals a wq K hD hst hj haft hun hK
          obtain ⟨v110, h110, j110⟩ := hD.dep hj haft 8 110 rfl rfl
          replace j110 : v110 = (.slice A1 l1.length c1) := j110
          subst j110
          obtain ⟨v111, h111, j111⟩ := hD.dep hj haft 9 111 rfl rfl
          replace j111 : v111 = (.int .i64 from_) := j111
          subst j111
          obtain ⟨v112, h112, j112⟩ := hD.dep hj haft 10 112 rfl rfl
          replace j112 : v112 = (.int .i64 most) := j112
          subst j112
          replace hst : Below _ _ wq := hst
          clear hD hj haft hun
          have e110 := eval_of h110
          have e111 := eval_of h111
          have e112 := eval_of h112
          refine step_call (f := 48) (args := #[.slice A1 l1.length c1, .int .i64 from_, .int .i64 most]) (wanted_free rfl) ?_ (sallyportref20_Part.calls A1 c1 l1 from_ most (cutB l1 from_ most) wq (Kd.C_below HM.out.reads (below_step HE.out hst)) HM.out.room (ref_part l1 from_ most (by have := hbig'.out; omega) H3.out)) ?_
          · clear hK; first | (go_simp; done) | (go_simp; rfl)
          · rintro e w' ⟨vz, rfl, hoz, hb⟩; obtain ⟨Az, cz, rfl, _, hCz⟩ := Kd.R_reads hoz; exact ⟨_, rfl, hK _ _ hb ⟨Az, cz, rfl, hCz⟩⟩
        · intro listed vals a wq K hD hst hj haft hun hK
          obtain ⟨v113, h113, j113⟩ := hD.dep hj haft 11 113 rfl rfl
          replace j113 : (fun (v : Value) (w1 : World) => ∃ (Az : Option Addr) (cz : Nat), v = .slice Az (cutB l1 from_ most).length cz ∧ Kd.C (Kd.int .u8) w1 Az (cutB l1 from_ most).length (cutB l1 from_ most)) v113 wq := j113
          simp only at j113
          obtain ⟨Az113, cz113, rfl, hz113⟩ := j113
          replace hst : Below _ _ wq := hst
          clear hD hj haft hun
          have e113 := eval_of h113
          have hsq := Kd.C_string (P := Try.prog) (src := 32) (dst := 9) (c := cz113) Try.underlying32 Try.underlying5 Try.underlying9 hz113
          refine step_now (v := .string (strOfNums (cutB l1 from_ most))) (w' := wq) (wanted_free rfl) ?_ (hK _ _ (Below.refl _ _) rfl)
          clear hK
          first | (go_simp; done) | (go_simp; rfl)
        · intro listed vals a wq K hD hst hj haft hun hK
          obtain ⟨v109, h109, j109⟩ := hD.dep hj haft 7 109 rfl rfl
          replace j109 : v109 = (.string (strOfNums (cutB l1 from_ most))) := j109
          subst j109
          obtain ⟨v114, h114, j114⟩ := hD.dep hj haft 12 114 rfl rfl
          replace j114 : v114 = (.string (strOfNums (cutB l1 from_ most))) := j114
          subst j114
          replace hst : Below _ _ wq := hst
          clear hD hj haft hun
          have e109 := eval_of h109
          have e114 := eval_of h114
          refine step_now (v := .bool true) (w' := wq) (wanted_free rfl) ?_ (hK _ _ (Below.refl _ _) rfl)
          clear hK
          first | (go_simp; done) | (go_simp; rfl)
        · intro listed vals a wq K hD hst hj haft hun hK
          obtain ⟨v115, h115, j115⟩ := hD.dep hj haft 13 115 rfl rfl
          replace j115 : v115 = (.bool true) := j115
          subst j115
          replace hst : Below _ _ wq := hst
          clear hD hj haft hun
          have e115 := eval_of h115
          refine step_now (v := .bool true) (w' := wq) (wanted_free rfl) ?_ (hK _ _ (Below.refl _ _) rfl)
          clear hK
          first | (go_simp; done) | (go_simp; rfl)
        · intro listed vals a wq K hD hst hj haft hun hK
          obtain ⟨v116, h116, j116⟩ := hD.dep hj haft 14 116 rfl rfl
          replace j116 : v116 = (.bool true) := j116
          subst j116
          have h4 := hD.out 4 rfl rfl
          replace hst : Below _ _ wq := hst
          clear hD hj haft hun
          have e4 := eval_of h4
          refine step_now (v := .slice A4 l4.length c4) (w' := wq) (wanted_on (t := 116) (u := true) rfl rfl rfl h116) ?_ (hK _ _ (Below.refl _ _) rfl)
          clear hK
          first | (go_simp; done) | (go_simp; rfl)
        · intro listed vals a wq K hD hst hj haft hun hK
          obtain ⟨v117, h117, j117⟩ := hD.dep hj haft 15 117 rfl rfl
          replace j117 : v117 = (.slice A4 l4.length c4) := j117
          subst j117
          obtain ⟨v116, h116, j116⟩ := hD.dep hj haft 14 116 rfl rfl
          replace j116 : v116 = (.bool true) := j116
          subst j116
          replace hst : Below _ _ wq := hst
          clear hD hj haft hun
          have e117 := eval_of h117
          refine step_call (f := 18) (args := #[.slice A4 l4.length c4]) (wanted_on (t := 116) (u := true) rfl rfl rfl h116) ?_ (numbers_any A4 c4 l4 wq (Kd.C_below HI4.out (below_step HE.out hst)) HI.out.room (by have := hbig'.out; omega)) ?_
          · clear hK; first | (go_simp; done) | (go_simp; rfl)
          · rintro e w' ⟨vz, rfl, hoz, hb⟩; obtain ⟨Az, cz, rfl, _, hCz⟩ := Kd.R_reads hoz; exact ⟨_, rfl, hK _ _ hb ⟨Az, cz, rfl, hCz⟩⟩
        · intro listed vals a wq K hD hst hj haft hun hK
          obtain ⟨v118, h118, j118⟩ := hD.dep hj haft 16 118 rfl rfl
          replace j118 : (fun (v : Value) (w1 : World) => ∃ (Az : Option Addr) (cz : Nat), v = .slice Az (numbers l4).length cz ∧ Kd.C (Kd.int .u8) w1 Az (numbers l4).length (numbers l4)) v118 wq := j118
          simp only at j118
          obtain ⟨Az118, cz118, rfl, hz118⟩ := j118
          obtain ⟨v116, h116, j116⟩ := hD.dep hj haft 14 116 rfl rfl
          replace j116 : v116 = (.bool true) := j116
          subst j116
          replace hst : Below _ _ wq := hst
          clear hD hj haft hun
          have e118 := eval_of h118
          have hsq := Kd.C_string (P := Try.prog) (src := 32) (dst := 9) (c := cz118) Try.underlying32 Try.underlying5 Try.underlying9 hz118
          refine step_now (v := .string (strOfNums (numbers l4))) (w' := wq) (wanted_on (t := 116) (u := true) rfl rfl rfl h116) ?_ (hK _ _ (Below.refl _ _) rfl)
          clear hK
          first | (go_simp; done) | (go_simp; rfl)
        · intro listed vals a wq K hD hst hj haft hun hK
          obtain ⟨v116, h116, j116⟩ := hD.dep hj haft 14 116 rfl rfl
          replace j116 : v116 = (.bool true) := j116
          subst j116
          have h4 := hD.out 4 rfl rfl
          replace hst : Below _ _ wq := hst
          clear hD hj haft hun
          have e4 := eval_of h4
          refine step_now (v := .slice A4 l4.length c4) (w' := wq) (wanted_on (t := 116) (u := true) rfl rfl rfl h116) ?_ (hK _ _ (Below.refl _ _) rfl)
          clear hK
          first | (go_simp; done) | (go_simp; rfl)
        · intro listed vals a wq K hD hst hj haft hun hK
          obtain ⟨v120, h120, j120⟩ := hD.dep hj haft 18 120 rfl rfl
          replace j120 : v120 = (.slice A4 l4.length c4) := j120
          subst j120
          obtain ⟨v116, h116, j116⟩ := hD.dep hj haft 14 116 rfl rfl
          replace j116 : v116 = (.bool true) := j116
          subst j116
          replace hst : Below _ _ wq := hst
          clear hD hj haft hun
          have e120 := eval_of h120
          refine step_call (f := 49) (args := #[.slice A4 l4.length c4]) (wanted_on (t := 116) (u := true) rfl rfl rfl h116) ?_ (sallyportref20_Numbers.calls kn A4 c4 l4 (numbers l4) wq (Kd.C_below HI4.out (below_step HE.out hst)) HI.out.room HKn.out) ?_
          · clear hK; first | (go_simp; done) | (go_simp; rfl)
          · rintro e w' ⟨vz, rfl, hoz, hb⟩; obtain ⟨Az, cz, rfl, _, hCz⟩ := Kd.R_reads hoz; exact ⟨_, rfl, hK _ _ hb ⟨Az, cz, rfl, hCz⟩⟩
        · intro listed vals a wq K hD hst hj haft hun hK
          obtain ⟨v121, h121, j121⟩ := hD.dep hj haft 19 121 rfl rfl
          replace j121 : (fun (v : Value) (w1 : World) => ∃ (Az : Option Addr) (cz : Nat), v = .slice Az (numbers l4).length cz ∧ Kd.C (Kd.int .u8) w1 Az (numbers l4).length (numbers l4)) v121 wq := j121
          simp only at j121
          obtain ⟨Az121, cz121, rfl, hz121⟩ := j121
          obtain ⟨v116, h116, j116⟩ := hD.dep hj haft 14 116 rfl rfl
          replace j116 : v116 = (.bool true) := j116
          subst j116
          replace hst : Below _ _ wq := hst
          clear hD hj haft hun
          have e121 := eval_of h121
          have hsq := Kd.C_string (P := Try.prog) (src := 32) (dst := 9) (c := cz121) Try.underlying32 Try.underlying5 Try.underlying9 hz121
          refine step_now (v := .string (strOfNums (numbers l4))) (w' := wq) (wanted_on (t := 116) (u := true) rfl rfl rfl h116) ?_ (hK _ _ (Below.refl _ _) rfl)
          clear hK
          first | (go_simp; done) | (go_simp; rfl)
        · intro listed vals a wq K hD hst hj haft hun hK
          obtain ⟨v119, h119, j119⟩ := hD.dep hj haft 17 119 rfl rfl
          replace j119 : v119 = (.string (strOfNums (numbers l4))) := j119
          subst j119
          obtain ⟨v122, h122, j122⟩ := hD.dep hj haft 20 122 rfl rfl
          replace j122 : v122 = (.string (strOfNums (numbers l4))) := j122
          subst j122
          obtain ⟨v116, h116, j116⟩ := hD.dep hj haft 14 116 rfl rfl
          replace j116 : v116 = (.bool true) := j116
          subst j116
          replace hst : Below _ _ wq := hst
          clear hD hj haft hun
          have e119 := eval_of h119
          have e122 := eval_of h122
          refine step_now (v := .bool true) (w' := wq) (wanted_on (t := 116) (u := true) rfl rfl rfl h116) ?_ (hK _ _ (Below.refl _ _) rfl)
          clear hK
          first | (go_simp; done) | (go_simp; rfl)
        · intro listed vals a wq K hD hst hj haft hun hK
          obtain ⟨v116, h116, j116⟩ := hD.dep hj haft 14 116 rfl rfl
          replace j116 : v116 = (.bool true) := j116
          subst j116
          obtain ⟨v123, h123, j123⟩ := hD.dep hj haft 21 123 rfl rfl
          replace j123 : v123 = (.bool true) := j123
          subst j123
          replace hst : Below _ _ wq := hst
          clear hD hj haft hun
          have e116 := eval_of h116
          have e123 := eval_of h123
          refine step_now (v := .bool true) (w' := wq) (wanted_free rfl) ?_ (hK _ _ (Below.refl _ _) rfl)
          clear hK
          first | (go_simp; done) | (go_simp; rfl)
        · intro listed vals a wq K hD hst hj haft hun hK
          obtain ⟨v124, h124, j124⟩ := hD.dep hj haft 22 124 rfl rfl
          replace j124 : v124 = (.bool true) := j124
          subst j124
          replace hst : Below _ _ wq := hst
          clear hD hj haft hun
          have e124 := eval_of h124
          refine step_now (v := .bool true) (w' := wq) (wanted_free rfl) ?_ (hK _ _ (Below.refl _ _) rfl)
          clear hK
          first | (go_simp; done) | (go_simp; rfl)
      case hEnd =>
        intro vals wend hst hj
        have j0 : vals 0 = (.slice (some adc) n1 cc) := hj 0 (by decide)
        have j1 : vals 1 = (.slice A1 l1.length c1) := hj 1 (by decide)
        have j2 : vals 2 = (.int .i64 (l1.length : Int)) := hj 2 (by decide)
        have j3 : vals 3 = (.slice (some adc) l1.length cc) := hj 3 (by decide)
        have j4 : vals 4 = (.int .i64 from_) := hj 4 (by decide)
        have j5 : vals 5 = (.int .i64 most) := hj 5 (by decide)
        have j6 : (fun (v : Value) (w1 : World) => ∃ (Az : Option Addr) (cz : Nat), v = .slice Az (cutB l1 from_ most).length cz ∧ Kd.C (Kd.int .u8) w1 Az (cutB l1 from_ most).length (cutB l1 from_ most)) (vals 6) wend := hj 6 (by decide)
        have j7 : vals 7 = (.string (strOfNums (cutB l1 from_ most))) := hj 7 (by decide)
        have j8 : vals 8 = (.slice A1 l1.length c1) := hj 8 (by decide)
        have j9 : vals 9 = (.int .i64 from_) := hj 9 (by decide)
        have j10 : vals 10 = (.int .i64 most) := hj 10 (by decide)
        have j11 : (fun (v : Value) (w1 : World) => ∃ (Az : Option Addr) (cz : Nat), v = .slice Az (cutB l1 from_ most).length cz ∧ Kd.C (Kd.int .u8) w1 Az (cutB l1 from_ most).length (cutB l1 from_ most)) (vals 11) wend := hj 11 (by decide)
        have j12 : vals 12 = (.string (strOfNums (cutB l1 from_ most))) := hj 12 (by decide)
        have j13 : vals 13 = (.bool true) := hj 13 (by decide)
        have j14 : vals 14 = (.bool true) := hj 14 (by decide)
        have j15 : vals 15 = (.slice A4 l4.length c4) := hj 15 (by decide)
        have j16 : (fun (v : Value) (w1 : World) => ∃ (Az : Option Addr) (cz : Nat), v = .slice Az (numbers l4).length cz ∧ Kd.C (Kd.int .u8) w1 Az (numbers l4).length (numbers l4)) (vals 16) wend := hj 16 (by decide)
        have j17 : vals 17 = (.string (strOfNums (numbers l4))) := hj 17 (by decide)
        have j18 : vals 18 = (.slice A4 l4.length c4) := hj 18 (by decide)
        have j19 : (fun (v : Value) (w1 : World) => ∃ (Az : Option Addr) (cz : Nat), v = .slice Az (numbers l4).length cz ∧ Kd.C (Kd.int .u8) w1 Az (numbers l4).length (numbers l4)) (vals 19) wend := hj 19 (by decide)
        have j20 : vals 20 = (.string (strOfNums (numbers l4))) := hj 20 (by decide)
        have j21 : vals 21 = (.bool true) := hj 21 (by decide)
        have j22 : vals 22 = (.bool true) := hj 22 (by decide)
        have j23 : vals 23 = (.bool true) := hj 23 (by decide)
        replace hst : Below _ _ wend := hst
        clear hj
        rw [putAll_list]
        simp only [putL, Act.put, List.setIfInBounds_toArray, List.set_cons_zero, List.set_cons_succ, j0, j1, j2, j3, j4, j5, j7, j8, j9, j10, j12, j13, j14, j15, j17, j18, j20, j21, j22, j23]
        clear j0 j1 j2 j3 j4 j5 j7 j8 j9 j10 j12 j13 j14 j15 j17 j18 j20 j21 j22 j23
        have HEE := Aside0.mk (below_step HE.out hst)
        clear hst
        go_wp2
        go_ret
        exact ⟨rfl, HEE.out⟩
  · go_enter Try.func10, Try.ntmps10
    by_cases hb1 : l.length ≤ 65536
    · have d1 : decide ((65536 : Int) < l.length) = false := decide_eq_false (by omega)
      by_cases hb2 : l1.length ≤ 65536
      · have d2 : decide ((65536 : Int) < l1.length) = false := decide_eq_false (by omega)
        have d3 : decide ((4096 : Int) < l4.length) = true := decide_eq_true (by omega)
        clear hbig hb1 hb2
        go_wp2_with (first | ((with_reducible refine gate_dst (N := 5) rfl ?_); refine box_event ?hg (N := 5) ?hd (cs := #[.int .i64 p, .int .i64 q, .int .i64 s, .slice A l.length c]) (t := 59) ?hr ?_; (case hd => rfl); (case hg => rfl); (case hr => first | (go_simp; done) | (go_simp; rfl)); intro g hg w3 hbox hb; have HB := Aside0.mk hb; have BK := Aside0.mk hbox; have GW := Aside0.mk (by rw [hg]; exact Nat.le_refl _ : w.heap.size ≤ g); clear hb hbox hg; have hz0 : w3.cell? ⟨g, 0, none⟩ = some (.int .i64 p) := (blk_cell BK.out 0).trans rfl; have hz1 : w3.cell? ⟨g, 1, none⟩ = some (.int .i64 q) := (blk_cell BK.out 1).trans rfl; have hz2 : w3.cell? ⟨g, 2, none⟩ = some (.int .i64 s) := (blk_cell BK.out 2).trans rfl; have hz3 : w3.cell? ⟨g, 3, none⟩ = some (.slice A l.length c) := (blk_cell BK.out 3).trans rfl))
        go_ret
        exact ⟨rfl, HB.out⟩
      · have d2 : decide ((65536 : Int) < l1.length) = true := decide_eq_true (by omega)
        clear hbig hb1 hb2
        go_wp2_with (first | ((with_reducible refine gate_dst (N := 5) rfl ?_); refine box_event ?hg (N := 5) ?hd (cs := #[.int .i64 p, .int .i64 q, .int .i64 s, .slice A l.length c]) (t := 59) ?hr ?_; (case hd => rfl); (case hg => rfl); (case hr => first | (go_simp; done) | (go_simp; rfl)); intro g hg w3 hbox hb; have HB := Aside0.mk hb; have BK := Aside0.mk hbox; have GW := Aside0.mk (by rw [hg]; exact Nat.le_refl _ : w.heap.size ≤ g); clear hb hbox hg; have hz0 : w3.cell? ⟨g, 0, none⟩ = some (.int .i64 p) := (blk_cell BK.out 0).trans rfl; have hz1 : w3.cell? ⟨g, 1, none⟩ = some (.int .i64 q) := (blk_cell BK.out 1).trans rfl; have hz2 : w3.cell? ⟨g, 2, none⟩ = some (.int .i64 s) := (blk_cell BK.out 2).trans rfl; have hz3 : w3.cell? ⟨g, 3, none⟩ = some (.slice A l.length c) := (blk_cell BK.out 3).trans rfl))
        go_ret
        exact ⟨rfl, HB.out⟩
    · have d1 : decide ((65536 : Int) < l.length) = true := decide_eq_true (by omega)
      clear hbig hb1
      go_wp2_with (first | ((with_reducible refine gate_dst (N := 5) rfl ?_); refine box_event ?hg (N := 5) ?hd (cs := #[.int .i64 p, .int .i64 q, .int .i64 s, .slice A l.length c]) (t := 59) ?hr ?_; (case hd => rfl); (case hg => rfl); (case hr => first | (go_simp; done) | (go_simp; rfl)); intro g hg w3 hbox hb; have HB := Aside0.mk hb; have BK := Aside0.mk hbox; have GW := Aside0.mk (by rw [hg]; exact Nat.le_refl _ : w.heap.size ≤ g); clear hb hbox hg; have hz0 : w3.cell? ⟨g, 0, none⟩ = some (.int .i64 p) := (blk_cell BK.out 0).trans rfl; have hz1 : w3.cell? ⟨g, 1, none⟩ = some (.int .i64 q) := (blk_cell BK.out 1).trans rfl; have hz2 : w3.cell? ⟨g, 2, none⟩ = some (.int .i64 s) := (blk_cell BK.out 2).trans rfl; have hz3 : w3.cell? ⟨g, 3, none⟩ = some (.slice A l.length c) := (blk_cell BK.out 3).trans rfl))
      go_ret
      exact ⟨rfl, HB.out⟩
end Go.Proofs.Ythjholnpkpkakaa.ControlFramesWalk
