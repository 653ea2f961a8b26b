/- The walk of CookieOld: a number is believed just if it is the cookie of this window, or the one ahead, by the secret, or by the older one while that counts: the call returns true and leaves all memory that was there as it was. No condition. -/
import Derived.Test.YtainkpgplmkiaaaCookieBackWalk
namespace Go.Proofs.Ytainkpgplmkiaaa.CookieOldWalk
open Go Go.RowKit Go.Deep Go.Proofs.YtainkpgplmkiaaaW.PrintWords Go.Proofs.YtainkpgplmkiaaaW.PrintLast Go.Proofs.YtainkpgplmkiaaaW.PrintMore Go.Proofs.Ytainkpgplmkiaaa.MWorld Go.Proofs.Ytainkpgplmkiaaa.MArgs Go.Proofs.Ytainkpgplmkiaaa.Ev Go.Proofs.Ytainkpgplmkiaaa.Rg Go.Proofs.Ytainkpgplmkiaaa.Cook Go.Proofs.Ytainkpgplmkiaaa.HashDef Go.Proofs.Ytainkpgplmkiaaa.CookCookie Go.Proofs.Ytainkpgplmkiaaa.RefCook Go.Proofs.Ytainkpgplmkiaaa.CookWin Go.Proofs.Ytainkpgplmkiaaa.Keeper Go.Proofs.Ytainkpgplmkiaaa.Rotate Go.Proofs.Ytainkpgplmkiaaa.CookieBackWalk
set_option linter.unusedVariables false
set_option linter.unusedSimpArgs false
theorem beq_turn (a b : Int) : (a == b) = (b == a) := by rw [Bool.eq_iff_iff, beq_iff_eq, beq_iff_eq]; exact eq_comm
theorem old1 (k1 k2 nn : Int) : ((k1 == nn) || (k2 == nn)) = ((nn == k1) || (nn == k2)) := by rw [beq_turn k1, beq_turn k2]
theorem old2 (k1 k2 k3 k4 nn : Int) (b : Bool) (h : b = false) : (((k1 == nn) || (k2 == nn)) || (!b && ((k3 == nn) || (k4 == nn)))) = ((((nn == k1) || (nn == k2)) || (nn == k3)) || (nn == k4)) := by
  rw [h, beq_turn k1, beq_turn k2, beq_turn k3, beq_turn k4]; simp [Bool.or_assoc]
theorem old3 (k1 k2 k3 k4 nn : Int) (b : Bool) (h : b = true) : (((k1 == nn) || (k2 == nn)) || (!b && ((k3 == nn) || (k4 == nn)))) = ((nn == k1) || (nn == k2)) := by
  rw [h, beq_turn k1, beq_turn k2]; simp
set_option maxRecDepth 100000 in
set_option maxHeartbeats 16000000 in
theorem walk (sa sb ta tb p sh sl dh dl sp dp turned now nn : Int) (rot : Bool) (w : World) :
    Calls Try.prog 5 #[.agg #[.int .u64 sa, .int .u64 sb], .agg #[.int .u64 ta, .int .u64 tb], .agg #[.int .i64 p, .int .u64 sh, .int .u64 sl, .int .u64 dh, .int .u64 dl, .int .i64 sp, .int .i64 dp], .int .i64 turned, .int .i64 now, .int .u32 nn, .bool rot] w fun e w' => e = .returned (.bool true) ∧ Below w.heap.size w w' := by
  obtain ⟨wm, hwm⟩ : ∃ k : Int, IntKind.i64.wrap (now / 16 - 1) = k := ⟨_, rfl⟩
  obtain ⟨tl, htl⟩ : ∃ k : Int, IntKind.i64.wrap (turned / 16 + 1) = k := ⟨_, rfl⟩
  obtain ⟨s1, hs1⟩ : ∃ k : Int, ck sa sb p sh sl dh dl sp dp (now / 16) = k := ⟨_, rfl⟩
  obtain ⟨s2, hs2⟩ : ∃ k : Int, ck sa sb p sh sl dh dl sp dp wm = k := ⟨_, rfl⟩
  obtain ⟨t1, ht1⟩ : ∃ k : Int, ck ta tb p sh sl dh dl sp dp (now / 16) = k := ⟨_, rfl⟩
  obtain ⟨t2, ht2⟩ : ∃ k : Int, ck ta tb p sh sl dh dl sp dp wm = k := ⟨_, rfl⟩
  have HS1 := Aside0.mk hs1
  have HS2 := Aside0.mk hs2
  have HT1 := Aside0.mk ht1
  have HT2 := Aside0.mk ht2
  have HWM := Aside0.mk hwm
  have HTL := Aside0.mk htl
  clear hs1 hs2 ht1 ht2
  go_enter Try.func5, Try.ntmps5
  go_upto_region 1 with (first | ((with_reducible refine gate_dst (N := 7) rfl ?_); refine box_event ?hg (N := 7) ?hd (cs := #[.int .u64 sa, .int .u64 sb]) (t := 24) ?hr ?_; (case hd => rfl); (case hg => rfl); (case hr => first | (go_simp; done) | (go_simp; rfl)); intro g7 hgg wx1 hbox hb; have Lg7 := Aside0.mk (show w.heap.size ≤ g7 by rw [hgg]; exact Nat.le_refl _); have HB_1 := Aside0.mk (hb); have Bg7_1 := Aside0.mk hbox; clear hbox hb hgg) | ((with_reducible refine gate_dst (N := 8) rfl ?_); refine box_event ?hg (N := 8) ?hd (cs := #[.int .u64 ta, .int .u64 tb]) (t := 24) ?hr ?_; (case hd => rfl); (case hg => rfl); (case hr => first | (go_simp; done) | (go_simp; rfl)); intro g8 hgg wx2 hbox hb; have Ng7g8 := Aside0.mk (show g7 ≠ g8 by rw [hgg]; exact Nat.ne_of_lt (blk_lt Bg7_1.out)); have Lg8 := Aside0.mk (show w.heap.size ≤ g8 by rw [hgg]; exact below_size HB_1.out); have HB_2 := Aside0.mk (below_step HB_1.out hb); clear HB_1; have Bg7_2 := Aside0.mk (blk_below Bg7_1.out hb); clear Bg7_1; have Bg8_2 := Aside0.mk hbox; clear hbox hb hgg) | ((with_reducible refine gate_dst (N := 9) rfl ?_); refine box_event ?hg (N := 9) ?hd (cs := #[.int .i64 p, .int .u64 sh, .int .u64 sl, .int .u64 dh, .int .u64 dl, .int .i64 sp, .int .i64 dp]) (t := 29) ?hr ?_; (case hd => rfl); (case hg => rfl); (case hr => first | (go_simp; done) | (go_simp; rfl)); intro g9 hgg wx3 hbox hb; have Ng7g9 := Aside0.mk (show g7 ≠ g9 by rw [hgg]; exact Nat.ne_of_lt (blk_lt Bg7_2.out)); have Ng8g9 := Aside0.mk (show g8 ≠ g9 by rw [hgg]; exact Nat.ne_of_lt (blk_lt Bg8_2.out)); have Lg9 := Aside0.mk (show w.heap.size ≤ g9 by rw [hgg]; exact below_size HB_2.out); have HB_3 := Aside0.mk (below_step HB_2.out hb); clear HB_2; have Bg7_3 := Aside0.mk (blk_below Bg7_2.out hb); clear Bg7_2; have Bg8_3 := Aside0.mk (blk_below Bg8_2.out hb); clear Bg8_2; have Bg9_3 := Aside0.mk hbox; clear hbox hb hgg))
  go_upto_region 2 with (first | ((with_reducible refine gate_dst (N := 20) rfl ?_); refine load_event rfl 24 _ rfl g7 rfl _ _ _ Bg7_3.out Try.underlying24 rfl (by kernel_rfl) ?_) | (go_at_call 20; refine (new_any sa sb _).mono ?_; rintro e wk ⟨gk, gr, rfl, hgk, hgr, hne, hkeep, hb⟩; have Ng7gk := Aside0.mk (show g7 ≠ gk by have h := blk_lt Bg7_3.out; omega); have Ng7gr := Aside0.mk (show g7 ≠ gr by have h := blk_lt Bg7_3.out; omega); have Ng8gk := Aside0.mk (show g8 ≠ gk by have h := blk_lt Bg8_3.out; omega); have Ng8gr := Aside0.mk (show g8 ≠ gr by have h := blk_lt Bg8_3.out; omega); have Ng9gk := Aside0.mk (show g9 ≠ gk by have h := blk_lt Bg9_3.out; omega); have Ng9gr := Aside0.mk (show g9 ≠ gr by have h := blk_lt Bg9_3.out; omega); have Lgk := Aside0.mk (Nat.le_trans (below_size HB_3.out) hgk); have Ngkgr := Aside0.mk hne; have Bg7_k := Aside0.mk (blk_below Bg7_3.out hb); clear Bg7_3; have Bg8_k := Aside0.mk (blk_below Bg8_3.out hb); clear Bg8_3; have Bg9_k := Aside0.mk (blk_below Bg9_3.out hb); clear Bg9_3; have Bgk_k := Aside0.mk hkeep.1; have Bgr_k := Aside0.mk hkeep.2; have HB_k := Aside0.mk (below_step HB_3.out hb); clear hgk hgr hne hkeep hb HB_3))
  go_upto_region 3 with (first | ((with_reducible refine gate_dst (N := 22) rfl ?_); refine load_event rfl 24 _ rfl g7 rfl _ _ _ Bg7_k.out Try.underlying24 rfl (by kernel_rfl) ?_) | ((with_reducible refine gate_dst (N := 16) rfl ?_); refine box_event ?hg (N := 16) ?hd (cs := #[.int .u64 0, .int .u64 0]) (t := 30) ?hr ?_; (case hd => rfl); (case hg => rfl); (case hr => first | (go_simp; done) | (go_simp; rfl)); intro g16 hgg wx5 hbox hb; have Ng7g16 := Aside0.mk (show g7 ≠ g16 by rw [hgg]; exact Nat.ne_of_lt (blk_lt Bg7_k.out)); have Ng8g16 := Aside0.mk (show g8 ≠ g16 by rw [hgg]; exact Nat.ne_of_lt (blk_lt Bg8_k.out)); have Ng9g16 := Aside0.mk (show g9 ≠ g16 by rw [hgg]; exact Nat.ne_of_lt (blk_lt Bg9_k.out)); have Ngkg16 := Aside0.mk (show gk ≠ g16 by rw [hgg]; exact Nat.ne_of_lt (blk_lt Bgk_k.out)); have Ngrg16 := Aside0.mk (show gr ≠ g16 by rw [hgg]; exact Nat.ne_of_lt (blk_lt Bgr_k.out)); have Lg16 := Aside0.mk (show w.heap.size ≤ g16 by rw [hgg]; exact below_size HB_k.out); have HB_5 := Aside0.mk (below_step HB_k.out hb); clear HB_k; have Bg7_5 := Aside0.mk (blk_below Bg7_k.out hb); clear Bg7_k; have Bg8_5 := Aside0.mk (blk_below Bg8_k.out hb); clear Bg8_k; have Bg9_5 := Aside0.mk (blk_below Bg9_k.out hb); clear Bg9_k; have Bgk_5 := Aside0.mk (blk_below Bgk_k.out hb); clear Bgk_k; have Bgr_5 := Aside0.mk (blk_below Bgr_k.out hb); clear Bgr_k; have Bg16_5 := Aside0.mk hbox; clear hbox hb hgg) | ((with_reducible refine gate_store (t := 30) (p := 16) rfl ?_); refine store_event rfl 30 _ _ rfl g16 _ rfl rfl _ _ Bg16_5.out (by kernel_rfl) rfl rfl ?_; intro wx6 hst hu; have HB_6 := Aside0.mk (below_upd HB_5.out hu (below_size HB_5.out) (fun k hk => by cases hk; exact Lg16.out)); clear HB_5; have Bg7_6 := Aside0.mk (Upd.blk hu Bg7_5.out (One.not Ng7g16.out)); clear Bg7_5; have Bg8_6 := Aside0.mk (Upd.blk hu Bg8_5.out (One.not Ng8g16.out)); clear Bg8_5; have Bg9_6 := Aside0.mk (Upd.blk hu Bg9_5.out (One.not Ng9g16.out)); clear Bg9_5; have Bgk_6 := Aside0.mk (Upd.blk hu Bgk_5.out (One.not Ngkg16.out)); clear Bgk_5; have Bgr_6 := Aside0.mk (Upd.blk hu Bgr_5.out (One.not Ngrg16.out)); clear Bgr_5; have Bg16_6 := Aside0.mk hst; clear hst hu Bg16_5))
  cases rot
  · go_upto_region 6 with fail
    go_upto_region 7 with (first | (go_at_call 16; refine (rwindow_any now _).mono ?_; rintro e wx7 ⟨rfl, hb⟩; have HB_7 := Aside0.mk (below_step HB_6.out hb); clear HB_6; have Bg7_7 := Aside0.mk (blk_below Bg7_6.out hb); clear Bg7_6; have Bg8_7 := Aside0.mk (blk_below Bg8_6.out hb); clear Bg8_6; have Bg9_7 := Aside0.mk (blk_below Bg9_6.out hb); clear Bg9_6; have Bgk_7 := Aside0.mk (blk_below Bgk_6.out hb); clear Bgk_6; have Bgr_7 := Aside0.mk (blk_below Bgr_6.out hb); clear Bgr_6; have Bg16_7 := Aside0.mk (blk_below Bg16_6.out hb); clear Bg16_6; clear hb))
    go_upto_region 7 with (fail)
    refine wp_region_rg_seq (fun x y => Below x.heap.size x y) (fun (i : Nat) (v : Value) (w1 : World) => match i with | 0 => v = (.int .u32 nn) | 1 => v = (.agg #[.int .u64 sa, .int .u64 sb]) | 2 => v = (.agg #[.int .i64 p, .int .u64 sh, .int .u64 sl, .int .u64 dh, .int .u64 dl, .int .i64 sp, .int .i64 dp]) | 3 => v = (.int .i64 (now / 16)) | 4 => v = (.int .u32 s1) | 5 => v = (.bool ((nn == s1))) | 6 => v = (.bool ((nn == s1))) | 7 => ((nn == s1)) = false → v = (.int .u32 nn) | 8 => ((nn == s1)) = false → v = (.agg #[.int .u64 sa, .int .u64 sb]) | 9 => ((nn == s1)) = false → v = (.agg #[.int .i64 p, .int .u64 sh, .int .u64 sl, .int .u64 dh, .int .u64 dl, .int .i64 sp, .int .i64 dp]) | 10 => ((nn == s1)) = false → v = (.int .i64 (now / 16)) | 11 => ((nn == s1)) = false → v = (.int .i64 wm) | 12 => ((nn == s1)) = false → v = (.int .u32 s2) | 13 => ((nn == s1)) = false → v = (.bool ((nn == s2))) | 14 => v = (.bool (((nn == s1) || (nn == s2)))) | 15 => v = (.bool (((nn == s1) || (nn == s2)))) | _ => True) (by kernel_rfl) (by kernel_rfl) below_tr (Below.refl _ _) ?hJst1 ?hObl1 ?hEnd1
    case hJst1 =>
      intro i v wx wy hi hs0 hs1 hJi
      match i, hi with
      | 0, _ => exact hJi
      | 1, _ => exact hJi
      | 2, _ => exact hJi
      | 3, _ => exact hJi
      | 4, _ => exact hJi
      | 5, _ => exact hJi
      | 6, _ => exact hJi
      | 7, _ => exact hJi
      | 8, _ => exact hJi
      | 9, _ => exact hJi
      | 10, _ => exact hJi
      | 11, _ => exact hJi
      | 12, _ => exact hJi
      | 13, _ => exact hJi
      | 14, _ => exact hJi
      | 15, _ => exact hJi
      | _ + 16, hi => exact absurd hi (by simp)
    case hObl1 =>
      refine ⟨?_, ?_, ?_, ?_, ?_, ?_, ?_, ?_, ?_, ?_, ?_, ?_, ?_, ?_, ?_, ?_,  trivial⟩
      · intro listed vals a wq K hD hst hj haft hun hK
        have h5 := hD.out 5 rfl rfl
        clear hD hj haft hun
        have e5 := eval_of h5
        refine step_now (v := .int .u32 nn) (w' := wq) (wanted_free rfl) ?_ (hK _ _ (Below.refl _ _) rfl)
        clear hK
        first | (go_simp; done) | (go_simp; rfl) | (go_simp; (try simp only [IntKind.wrap_u32]); omega)
      · intro listed vals a wq K hD hst hj haft hun hK
        have h16 := hD.out 16 rfl rfl
        replace hst : Below _ _ wq := hst
        clear hD hj haft hun
        have e16 := eval_of h16
        exact step_now (v := .agg #[.int .u64 sa, .int .u64 sb]) (w' := wq) (wanted_free rfl) (rg_loadall rfl e16 (blk_below Bg16_7.out hst) Try.underlying30 rfl (by kernel_rfl)) (hK _ _ (Below.refl _ _) rfl)
      · intro listed vals a wq K hD hst hj haft hun hK
        have h9 := hD.out 9 rfl rfl
        replace hst : Below _ _ wq := hst
        clear hD hj haft hun
        have e9 := eval_of h9
        exact step_now (v := .agg #[.int .i64 p, .int .u64 sh, .int .u64 sl, .int .u64 dh, .int .u64 dl, .int .i64 sp, .int .i64 dp]) (w' := wq) (wanted_free rfl) (rg_loadall rfl e9 (blk_below Bg9_7.out hst) Try.underlying29 rfl (by kernel_rfl)) (hK _ _ (Below.refl _ _) rfl)
      · intro listed vals a wq K hD hst hj haft hun hK
        have h17 := hD.out 17 rfl rfl
        clear hD hj haft hun
        have e17 := eval_of h17
        refine step_now (v := .int .i64 (now / 16)) (w' := wq) (wanted_free rfl) ?_ (hK _ _ (Below.refl _ _) rfl)
        clear hK
        first | (go_simp; done) | (go_simp; rfl) | (go_simp; (try simp only [IntKind.wrap_u32]); omega)
      · intro listed vals a wq K hD hst hj haft hun hK
        obtain ⟨v32, h32, j32⟩ := hD.dep hj haft 1 32 rfl rfl
        replace j32 : v32 = (.agg #[.int .u64 sa, .int .u64 sb]) := j32
        subst j32
        obtain ⟨v33, h33, j33⟩ := hD.dep hj haft 2 33 rfl rfl
        replace j33 : v33 = (.agg #[.int .i64 p, .int .u64 sh, .int .u64 sl, .int .u64 dh, .int .u64 dl, .int .i64 sp, .int .i64 dp]) := j33
        subst j33
        obtain ⟨v34, h34, j34⟩ := hD.dep hj haft 3 34 rfl rfl
        replace j34 : v34 = (.int .i64 (now / 16)) := j34
        subst j34
        clear hD hj haft hun
        have e32 := eval_of h32
        have e33 := eval_of h33
        have e34 := eval_of h34
        refine step_call (f := 14) (args := #[.agg #[.int .u64 sa, .int .u64 sb], .agg #[.int .i64 p, .int .u64 sh, .int .u64 sl, .int .u64 dh, .int .u64 dl, .int .i64 sp, .int .i64 dp], .int .i64 (now / 16)]) (wanted_free rfl) ?_ (rcookie_w sa sb p sh sl dh dl sp dp (now / 16) s1 HS1.out wq) ?_
        · clear hK; first | (go_simp; done) | (go_simp; rfl)
        · rintro e w' ⟨he, hbq⟩; exact ⟨_, he, hK _ _ hbq rfl⟩
      · intro listed vals a wq K hD hst hj haft hun hK
        obtain ⟨v31, h31, j31⟩ := hD.dep hj haft 0 31 rfl rfl
        replace j31 : v31 = (.int .u32 nn) := j31
        subst j31
        obtain ⟨v35, h35, j35⟩ := hD.dep hj haft 4 35 rfl rfl
        replace j35 : v35 = (.int .u32 s1) := j35
        subst j35
        clear hD hj haft hun
        have e31 := eval_of h31
        have e35 := eval_of h35
        refine step_now (v := .bool ((nn == s1))) (w' := wq) (wanted_free rfl) ?_ (hK _ _ (Below.refl _ _) rfl)
        clear hK
        first | (go_simp; done) | (go_simp; rfl)
      · intro listed vals a wq K hD hst hj haft hun hK
        obtain ⟨v36, h36, j36⟩ := hD.dep hj haft 5 36 rfl rfl
        replace j36 : v36 = (.bool ((nn == s1))) := j36
        subst j36
        clear hD hj haft hun
        have e36 := eval_of h36
        refine step_now (v := .bool ((nn == s1))) (w' := wq) (wanted_free rfl) ?_ (hK _ _ (Below.refl _ _) rfl)
        clear hK
        first | (go_simp; done) | (go_simp; rfl)
      · intro listed vals a wq K hD hst hj haft hun hK
        obtain ⟨v37, h37, j37⟩ := hD.dep hj haft 6 37 rfl rfl
        replace j37 : v37 = (.bool ((nn == s1))) := j37
        subst j37
        have h5 := hD.out 5 rfl rfl
        clear hD hj haft hun
        rcases hE : ((nn == s1)) with _ | _
        · rw [hE] at h37
          have e5 := eval_of h5
          refine step_now (v := .int .u32 nn) (w' := wq) (wanted_on (t := 37) (u := false) rfl rfl rfl h37) ?_ (hK _ _ (Below.refl _ _) (fun _ => rfl))
          clear hK
          first | (go_simp; done) | (go_simp; rfl) | (go_simp; (try simp only [IntKind.wrap_u32]); omega)
        · rw [hE] at h37
          exact step_off (wanted_off (t := 37) (u := false) rfl rfl rfl h37) (hK _ _ (Below.refl _ _) (fun h => by rw [hE] at h; cases h))
      · intro listed vals a wq K hD hst hj haft hun hK
        obtain ⟨v37, h37, j37⟩ := hD.dep hj haft 6 37 rfl rfl
        replace j37 : v37 = (.bool ((nn == s1))) := j37
        subst j37
        have h16 := hD.out 16 rfl rfl
        replace hst : Below _ _ wq := hst
        clear hD hj haft hun
        rcases hE : ((nn == s1)) with _ | _
        · rw [hE] at h37
          have e16 := eval_of h16
          exact step_now (v := .agg #[.int .u64 sa, .int .u64 sb]) (w' := wq) (wanted_on (t := 37) (u := false) rfl rfl rfl h37) (rg_loadall rfl e16 (blk_below Bg16_7.out hst) Try.underlying30 rfl (by kernel_rfl)) (hK _ _ (Below.refl _ _) (fun _ => rfl))
        · rw [hE] at h37
          exact step_off (wanted_off (t := 37) (u := false) rfl rfl rfl h37) (hK _ _ (Below.refl _ _) (fun h => by rw [hE] at h; cases h))
      · intro listed vals a wq K hD hst hj haft hun hK
        obtain ⟨v37, h37, j37⟩ := hD.dep hj haft 6 37 rfl rfl
        replace j37 : v37 = (.bool ((nn == s1))) := j37
        subst j37
        have h9 := hD.out 9 rfl rfl
        replace hst : Below _ _ wq := hst
        clear hD hj haft hun
        rcases hE : ((nn == s1)) with _ | _
        · rw [hE] at h37
          have e9 := eval_of h9
          exact step_now (v := .agg #[.int .i64 p, .int .u64 sh, .int .u64 sl, .int .u64 dh, .int .u64 dl, .int .i64 sp, .int .i64 dp]) (w' := wq) (wanted_on (t := 37) (u := false) rfl rfl rfl h37) (rg_loadall rfl e9 (blk_below Bg9_7.out hst) Try.underlying29 rfl (by kernel_rfl)) (hK _ _ (Below.refl _ _) (fun _ => rfl))
        · rw [hE] at h37
          exact step_off (wanted_off (t := 37) (u := false) rfl rfl rfl h37) (hK _ _ (Below.refl _ _) (fun h => by rw [hE] at h; cases h))
      · intro listed vals a wq K hD hst hj haft hun hK
        obtain ⟨v37, h37, j37⟩ := hD.dep hj haft 6 37 rfl rfl
        replace j37 : v37 = (.bool ((nn == s1))) := j37
        subst j37
        have h17 := hD.out 17 rfl rfl
        clear hD hj haft hun
        rcases hE : ((nn == s1)) with _ | _
        · rw [hE] at h37
          have e17 := eval_of h17
          refine step_now (v := .int .i64 (now / 16)) (w' := wq) (wanted_on (t := 37) (u := false) rfl rfl rfl h37) ?_ (hK _ _ (Below.refl _ _) (fun _ => rfl))
          clear hK
          first | (go_simp; done) | (go_simp; rfl) | (go_simp; (try simp only [IntKind.wrap_u32]); omega)
        · rw [hE] at h37
          exact step_off (wanted_off (t := 37) (u := false) rfl rfl rfl h37) (hK _ _ (Below.refl _ _) (fun h => by rw [hE] at h; cases h))
      · intro listed vals a wq K hD hst hj haft hun hK
        obtain ⟨v41, h41, j41⟩ := hD.dep hj haft 10 41 rfl rfl
        replace j41 : ((nn == s1)) = false → v41 = (.int .i64 (now / 16)) := j41
        obtain ⟨v37, h37, j37⟩ := hD.dep hj haft 6 37 rfl rfl
        replace j37 : v37 = (.bool ((nn == s1))) := j37
        subst j37
        clear hD hj haft hun
        rcases hE : ((nn == s1)) with _ | _
        · rw [hE] at h37
          obtain rfl := j41 hE
          have e41 := eval_of h41
          refine step_now (v := .int .i64 wm) (w' := wq) (wanted_on (t := 37) (u := false) rfl rfl rfl h37) ?_ (hK _ _ (Below.refl _ _) (fun _ => rfl))
          clear hK
          first | (go_simp; done) | (go_simp; rfl) | (go_simp; (try simp only [IntKind.wrap_u32]); omega)
        · rw [hE] at h37
          exact step_off (wanted_off (t := 37) (u := false) rfl rfl rfl h37) (hK _ _ (Below.refl _ _) (fun h => by rw [hE] at h; cases h))
      · intro listed vals a wq K hD hst hj haft hun hK
        obtain ⟨v39, h39, j39⟩ := hD.dep hj haft 8 39 rfl rfl
        replace j39 : ((nn == s1)) = false → v39 = (.agg #[.int .u64 sa, .int .u64 sb]) := j39
        obtain ⟨v40, h40, j40⟩ := hD.dep hj haft 9 40 rfl rfl
        replace j40 : ((nn == s1)) = false → v40 = (.agg #[.int .i64 p, .int .u64 sh, .int .u64 sl, .int .u64 dh, .int .u64 dl, .int .i64 sp, .int .i64 dp]) := j40
        obtain ⟨v42, h42, j42⟩ := hD.dep hj haft 11 42 rfl rfl
        replace j42 : ((nn == s1)) = false → v42 = (.int .i64 wm) := j42
        obtain ⟨v37, h37, j37⟩ := hD.dep hj haft 6 37 rfl rfl
        replace j37 : v37 = (.bool ((nn == s1))) := j37
        subst j37
        clear hD hj haft hun
        rcases hE : ((nn == s1)) with _ | _
        · rw [hE] at h37
          obtain rfl := j39 hE
          obtain rfl := j40 hE
          obtain rfl := j42 hE
          have e39 := eval_of h39
          have e40 := eval_of h40
          have e42 := eval_of h42
          refine step_call (f := 14) (args := #[.agg #[.int .u64 sa, .int .u64 sb], .agg #[.int .i64 p, .int .u64 sh, .int .u64 sl, .int .u64 dh, .int .u64 dl, .int .i64 sp, .int .i64 dp], .int .i64 wm]) (wanted_on (t := 37) (u := false) rfl rfl rfl h37) ?_ (rcookie_w sa sb p sh sl dh dl sp dp wm s2 HS2.out wq) ?_
          · clear hK; first | (go_simp; done) | (go_simp; rfl)
          · rintro e w' ⟨he, hbq⟩; exact ⟨_, he, hK _ _ hbq (fun _ => rfl)⟩
        · rw [hE] at h37
          exact step_off (wanted_off (t := 37) (u := false) rfl rfl rfl h37) (hK _ _ (Below.refl _ _) (fun h => by rw [hE] at h; cases h))
      · intro listed vals a wq K hD hst hj haft hun hK
        obtain ⟨v38, h38, j38⟩ := hD.dep hj haft 7 38 rfl rfl
        replace j38 : ((nn == s1)) = false → v38 = (.int .u32 nn) := j38
        obtain ⟨v43, h43, j43⟩ := hD.dep hj haft 12 43 rfl rfl
        replace j43 : ((nn == s1)) = false → v43 = (.int .u32 s2) := j43
        obtain ⟨v37, h37, j37⟩ := hD.dep hj haft 6 37 rfl rfl
        replace j37 : v37 = (.bool ((nn == s1))) := j37
        subst j37
        clear hD hj haft hun
        rcases hE : ((nn == s1)) with _ | _
        · rw [hE] at h37
          obtain rfl := j38 hE
          obtain rfl := j43 hE
          have e38 := eval_of h38
          have e43 := eval_of h43
          refine step_now (v := .bool ((nn == s2))) (w' := wq) (wanted_on (t := 37) (u := false) rfl rfl rfl h37) ?_ (hK _ _ (Below.refl _ _) (fun _ => rfl))
          clear hK
          first | (go_simp; done) | (go_simp; rfl)
        · rw [hE] at h37
          exact step_off (wanted_off (t := 37) (u := false) rfl rfl rfl h37) (hK _ _ (Below.refl _ _) (fun h => by rw [hE] at h; cases h))
      · intro listed vals a wq K hD hst hj haft hun hK
        obtain ⟨v37, h37, j37⟩ := hD.dep hj haft 6 37 rfl rfl
        replace j37 : v37 = (.bool ((nn == s1))) := j37
        subst j37
        obtain ⟨v44, h44, j44⟩ := hD.dep hj haft 13 44 rfl rfl
        replace j44 : ((nn == s1)) = false → v44 = (.bool ((nn == s2))) := j44
        clear hD hj haft hun
        rcases hE : ((nn == s1)) with _ | _
        · rw [hE] at h37
          obtain rfl := j44 hE
          have e37 := eval_of h37
          have e44 := eval_of h44
          refine step_now (v := .bool (((nn == s1) || (nn == s2)))) (w' := wq) (wanted_free rfl) ?_ (hK _ _ (Below.refl _ _) rfl)
          rw [hE]
          clear hK
          first | (go_simp; done) | (go_simp; rfl) | (go_simp; (try simp only [IntKind.wrap_u32]); omega)
        · rw [hE] at h37
          have e37 := eval_of h37
          have e44 := eval_of h44
          refine step_now (v := .bool (((nn == s1) || (nn == s2)))) (w' := wq) (wanted_free rfl) ?_ (hK _ _ (Below.refl _ _) rfl)
          rw [hE]
          clear hK
          first | (go_simp; done) | (go_simp; rfl) | (go_simp; (try simp only [IntKind.wrap_u32]); omega)
      · intro listed vals a wq K hD hst hj haft hun hK
        obtain ⟨v45, h45, j45⟩ := hD.dep hj haft 14 45 rfl rfl
        replace j45 : v45 = (.bool (((nn == s1) || (nn == s2)))) := j45
        subst j45
        clear hD hj haft hun
        have e45 := eval_of h45
        refine step_now (v := .bool (((nn == s1) || (nn == s2)))) (w' := wq) (wanted_free rfl) ?_ (hK _ _ (Below.refl _ _) rfl)
        clear hK
        first | (go_simp; done) | (go_simp; rfl)
    intro vals wend hst hj
    have j0 : vals 0 = (.int .u32 nn) := hj 0 (by decide)
    have j1 : vals 1 = (.agg #[.int .u64 sa, .int .u64 sb]) := hj 1 (by decide)
    have j2 : vals 2 = (.agg #[.int .i64 p, .int .u64 sh, .int .u64 sl, .int .u64 dh, .int .u64 dl, .int .i64 sp, .int .i64 dp]) := hj 2 (by decide)
    have j3 : vals 3 = (.int .i64 (now / 16)) := hj 3 (by decide)
    have j4 : vals 4 = (.int .u32 s1) := hj 4 (by decide)
    have j5 : vals 5 = (.bool ((nn == s1))) := hj 5 (by decide)
    have j6 : vals 6 = (.bool ((nn == s1))) := hj 6 (by decide)
    have j14 : vals 14 = (.bool (((nn == s1) || (nn == s2)))) := hj 14 (by decide)
    have j15 : vals 15 = (.bool (((nn == s1) || (nn == s2)))) := hj 15 (by decide)
    replace hst : Below _ _ wend := hst
    clear hj
    rw [putAll_list]
    simp only [putL, Act.put, List.setIfInBounds_toArray, List.set_cons_zero, List.set_cons_succ, j0, j1, j2, j3, j4, j5, j6, j14, j15]
    clear j0 j1 j2 j3 j4 j5 j6 j14 j15
    generalize vals 7 = u38_
    generalize vals 8 = u39_
    generalize vals 9 = u40_
    generalize vals 10 = u41_
    generalize vals 11 = u42_
    generalize vals 12 = u43_
    generalize vals 13 = u44_
    have HB_8 := Aside0.mk (below_step HB_7.out hst)
    clear HB_7
    have Bg7_8 := Aside0.mk (blk_below Bg7_7.out hst)
    clear Bg7_7
    have Bg8_8 := Aside0.mk (blk_below Bg8_7.out hst)
    clear Bg8_7
    have Bg9_8 := Aside0.mk (blk_below Bg9_7.out hst)
    clear Bg9_7
    have Bgk_8 := Aside0.mk (blk_below Bgk_7.out hst)
    clear Bgk_7
    have Bgr_8 := Aside0.mk (blk_below Bgr_7.out hst)
    clear Bgr_7
    have Bg16_8 := Aside0.mk (blk_below Bg16_7.out hst)
    clear Bg16_7
    clear hst
    clear hwm htl
    go_upto_region 11 with fail
    refine wp_region_rg (by kernel_rfl) (fun x y => Below x.heap.size x y) (fun (i : Nat) (v : Value) (w1 : World) => match i with | 0 => v = (.pointer (some ⟨gk, 0, none⟩)) | 1 => v = (.agg #[.int .i64 p, .int .u64 sh, .int .u64 sl, .int .u64 dh, .int .u64 dl, .int .i64 sp, .int .i64 dp]) | 2 => v = (.int .i64 now) | 3 => v = (.int .u32 nn) | 4 => v = (.bool (((nn == s1) || (nn == s2)))) | 5 => v = (.bool (((nn == s1) || (nn == s2)))) | 6 => v = (.bool true) | 7 => v = (.bool true) | 8 => v = (.pointer (some ⟨gk, 0, none⟩)) | 9 => v = (.agg #[.int .i64 p, .int .u64 sh, .int .u64 sl, .int .u64 dh, .int .u64 dl, .int .i64 sp, .int .i64 dp]) | 10 => v = (.int .i64 now) | 11 => v = (.int .u32 s1) | 12 => v = (.agg #[.int .u64 sa, .int .u64 sb]) | 13 => v = (.agg #[.int .i64 p, .int .u64 sh, .int .u64 sl, .int .u64 dh, .int .u64 dl, .int .i64 sp, .int .i64 dp]) | 14 => v = (.int .i64 (now / 16)) | 15 => v = (.int .u32 s1) | 16 => v = (.bool true) | 17 => v = (.bool true) | 18 => v = (.bool true) | _ => True) (by kernel_rfl) (by kernel_rfl) below_tr (Below.refl _ _).drew ?hJst2 (obl_list ?hObl2) ?hEnd2
    case hJst2 =>
      intro i v wx wy hi hs0 hs1 hJi
      match i, hi with
      | 0, _ => exact hJi
      | 1, _ => exact hJi
      | 2, _ => exact hJi
      | 3, _ => exact hJi
      | 4, _ => exact hJi
      | 5, _ => exact hJi
      | 6, _ => exact hJi
      | 7, _ => exact hJi
      | 8, _ => exact hJi
      | 9, _ => exact hJi
      | 10, _ => exact hJi
      | 11, _ => exact hJi
      | 12, _ => exact hJi
      | 13, _ => exact hJi
      | 14, _ => exact hJi
      | 15, _ => exact hJi
      | 16, _ => exact hJi
      | 17, _ => exact hJi
      | 18, _ => exact hJi
      | _ + 19, hi => exact absurd hi (by simp)
    case hObl2 =>
      refine ⟨?_, ?_, ?_, ?_, ?_, ?_, ?_, ?_, ?_, ?_, ?_, ?_, ?_, ?_, ?_, ?_, ?_, ?_, ?_,  trivial⟩
      · intro listed vals a wq K hD hst hj haft hun hK
        have h15 := hD.out 15 rfl rfl
        clear hD hj haft hun
        have e15 := eval_of h15
        refine step_now (v := .pointer (some ⟨gk, 0, none⟩)) (w' := wq) (wanted_free rfl) ?_ (hK _ _ (Below.refl _ _) rfl)
        clear hK
        first | (go_simp; done) | (go_simp; rfl)
      · intro listed vals a wq K hD hst hj haft hun hK
        have h9 := hD.out 9 rfl rfl
        replace hst : Below _ _ wq := hst
        clear hD hj haft hun
        have e9 := eval_of h9
        exact step_now (v := .agg #[.int .i64 p, .int .u64 sh, .int .u64 sl, .int .u64 dh, .int .u64 dl, .int .i64 sp, .int .i64 dp]) (w' := wq) (wanted_free rfl) (rg_loadall rfl e9 (blk_below Bg9_8.out hst) Try.underlying29 rfl (by kernel_rfl)) (hK _ _ (Below.refl _ _) rfl)
      · intro listed vals a wq K hD hst hj haft hun hK
        have h4 := hD.out 4 rfl rfl
        clear hD hj haft hun
        have e4 := eval_of h4
        refine step_now (v := .int .i64 now) (w' := wq) (wanted_free rfl) ?_ (hK _ _ (Below.refl _ _) rfl)
        clear hK
        first | (go_simp; done) | (go_simp; rfl) | (go_simp; (try simp only [IntKind.wrap_u32]); omega)
      · intro listed vals a wq K hD hst hj haft hun hK
        have h5 := hD.out 5 rfl rfl
        clear hD hj haft hun
        have e5 := eval_of h5
        refine step_now (v := .int .u32 nn) (w' := wq) (wanted_free rfl) ?_ (hK _ _ (Below.refl _ _) rfl)
        clear hK
        first | (go_simp; done) | (go_simp; rfl) | (go_simp; (try simp only [IntKind.wrap_u32]); omega)
      · intro listed vals a wq K hD hst hj haft hun hK
        obtain ⟨v73, h73, j73⟩ := hD.dep hj haft 0 73 rfl rfl
        replace j73 : v73 = (.pointer (some ⟨gk, 0, none⟩)) := j73
        subst j73
        obtain ⟨v74, h74, j74⟩ := hD.dep hj haft 1 74 rfl rfl
        replace j74 : v74 = (.agg #[.int .i64 p, .int .u64 sh, .int .u64 sl, .int .u64 dh, .int .u64 dl, .int .i64 sp, .int .i64 dp]) := j74
        subst j74
        obtain ⟨v75, h75, j75⟩ := hD.dep hj haft 2 75 rfl rfl
        replace j75 : v75 = (.int .i64 now) := j75
        subst j75
        obtain ⟨v76, h76, j76⟩ := hD.dep hj haft 3 76 rfl rfl
        replace j76 : v76 = (.int .u32 nn) := j76
        subst j76
        replace hst : Below _ _ wq := hst
        clear hD hj haft hun
        have e73 := eval_of h73
        have e74 := eval_of h74
        have e75 := eval_of h75
        have e76 := eval_of h76
        refine step_call (f := 22) (args := #[.pointer (some ⟨gk, 0, none⟩), .agg #[.int .i64 p, .int .u64 sh, .int .u64 sl, .int .u64 dh, .int .u64 dl, .int .i64 sp, .int .i64 dp], .int .i64 now, .int .u32 nn]) (wanted_free rfl) ?_ (check1_w gk gr sa sb 0 p sh sl dh dl sp dp now nn (((nn == s1) || (nn == s2))) (by rw [HWM.out, HS1.out, HS2.out]; exact old1 _ _ _) wq (Keep.below ⟨Bgk_8.out, Bgr_8.out⟩ hst)) ?_
        · clear hK; first | (go_simp; done) | (go_simp; rfl)
        · rintro e w' ⟨he, hbq⟩; exact ⟨_, he, hK _ _ hbq rfl⟩
      · intro listed vals a wq K hD hst hj haft hun hK
        have h18 := hD.out 18 rfl rfl
        clear hD hj haft hun
        have e18 := eval_of h18
        refine step_now (v := .bool (((nn == s1) || (nn == s2)))) (w' := wq) (wanted_free rfl) ?_ (hK _ _ (Below.refl _ _) rfl)
        clear hK
        first | (go_simp; done) | (go_simp; rfl)
      · intro listed vals a wq K hD hst hj haft hun hK
        obtain ⟨v77, h77, j77⟩ := hD.dep hj haft 4 77 rfl rfl
        replace j77 : v77 = (.bool (((nn == s1) || (nn == s2)))) := j77
        subst j77
        obtain ⟨v78, h78, j78⟩ := hD.dep hj haft 5 78 rfl rfl
        replace j78 : v78 = (.bool (((nn == s1) || (nn == s2)))) := j78
        subst j78
        clear hD hj haft hun
        have e77 := eval_of h77
        have e78 := eval_of h78
        refine step_now (v := .bool true) (w' := wq) (wanted_free rfl) ?_ (hK _ _ (Below.refl _ _) rfl)
        clear hK
        first | (go_simp; done) | (go_simp; rfl)
      · intro listed vals a wq K hD hst hj haft hun hK
        obtain ⟨v79, h79, j79⟩ := hD.dep hj haft 6 79 rfl rfl
        replace j79 : v79 = (.bool true) := j79
        subst j79
        clear hD hj haft hun
        have e79 := eval_of h79
        refine step_now (v := .bool true) (w' := wq) (wanted_free rfl) ?_ (hK _ _ (Below.refl _ _) rfl)
        clear hK
        first | (go_simp; done) | (go_simp; rfl)
      · intro listed vals a wq K hD hst hj haft hun hK
        obtain ⟨v80, h80, j80⟩ := hD.dep hj haft 7 80 rfl rfl
        replace j80 : v80 = (.bool true) := j80
        subst j80
        have h15 := hD.out 15 rfl rfl
        clear hD hj haft hun
        have e15 := eval_of h15
        refine step_now (v := .pointer (some ⟨gk, 0, none⟩)) (w' := wq) (wanted_on (t := 80) (u := true) rfl rfl rfl h80) ?_ (hK _ _ (Below.refl _ _) rfl)
        clear hK
        first | (go_simp; done) | (go_simp; rfl)
      · intro listed vals a wq K hD hst hj haft hun hK
        obtain ⟨v80, h80, j80⟩ := hD.dep hj haft 7 80 rfl rfl
        replace j80 : v80 = (.bool true) := j80
        subst j80
        have h9 := hD.out 9 rfl rfl
        replace hst : Below _ _ wq := hst
        clear hD hj haft hun
        have e9 := eval_of h9
        exact step_now (v := .agg #[.int .i64 p, .int .u64 sh, .int .u64 sl, .int .u64 dh, .int .u64 dl, .int .i64 sp, .int .i64 dp]) (w' := wq) (wanted_on (t := 80) (u := true) rfl rfl rfl h80) (rg_loadall rfl e9 (blk_below Bg9_8.out hst) Try.underlying29 rfl (by kernel_rfl)) (hK _ _ (Below.refl _ _) rfl)
      · intro listed vals a wq K hD hst hj haft hun hK
        obtain ⟨v80, h80, j80⟩ := hD.dep hj haft 7 80 rfl rfl
        replace j80 : v80 = (.bool true) := j80
        subst j80
        have h4 := hD.out 4 rfl rfl
        clear hD hj haft hun
        have e4 := eval_of h4
        refine step_now (v := .int .i64 now) (w' := wq) (wanted_on (t := 80) (u := true) rfl rfl rfl h80) ?_ (hK _ _ (Below.refl _ _) rfl)
        clear hK
        first | (go_simp; done) | (go_simp; rfl) | (go_simp; (try simp only [IntKind.wrap_u32]); omega)
      · intro listed vals a wq K hD hst hj haft hun hK
        obtain ⟨v81, h81, j81⟩ := hD.dep hj haft 8 81 rfl rfl
        replace j81 : v81 = (.pointer (some ⟨gk, 0, none⟩)) := j81
        subst j81
        obtain ⟨v82, h82, j82⟩ := hD.dep hj haft 9 82 rfl rfl
        replace j82 : v82 = (.agg #[.int .i64 p, .int .u64 sh, .int .u64 sl, .int .u64 dh, .int .u64 dl, .int .i64 sp, .int .i64 dp]) := j82
        subst j82
        obtain ⟨v83, h83, j83⟩ := hD.dep hj haft 10 83 rfl rfl
        replace j83 : v83 = (.int .i64 now) := j83
        subst j83
        obtain ⟨v80, h80, j80⟩ := hD.dep hj haft 7 80 rfl rfl
        replace j80 : v80 = (.bool true) := j80
        subst j80
        replace hst : Below _ _ wq := hst
        clear hD hj haft hun
        have e81 := eval_of h81
        have e82 := eval_of h82
        have e83 := eval_of h83
        refine step_call (f := 23) (args := #[.pointer (some ⟨gk, 0, none⟩), .agg #[.int .i64 p, .int .u64 sh, .int .u64 sl, .int .u64 dh, .int .u64 dl, .int .i64 sp, .int .i64 dp], .int .i64 now]) (wanted_on (t := 80) (u := true) rfl rfl rfl h80) ?_ (make_any gk gr 1 (by decide) sa sb #[.int .u64 sa, .int .u64 sb] rfl 0 p sh sl dh dl sp dp now s1 HS1.out wq (Keep.below ⟨Bgk_8.out, Bgr_8.out⟩ hst)) ?_
        · clear hK; first | (go_simp; done) | (go_simp; rfl)
        · rintro e w' ⟨he, hbq⟩; exact ⟨_, he, hK _ _ hbq rfl⟩
      · intro listed vals a wq K hD hst hj haft hun hK
        obtain ⟨v80, h80, j80⟩ := hD.dep hj haft 7 80 rfl rfl
        replace j80 : v80 = (.bool true) := j80
        subst j80
        have h16 := hD.out 16 rfl rfl
        replace hst : Below _ _ wq := hst
        clear hD hj haft hun
        have e16 := eval_of h16
        exact step_now (v := .agg #[.int .u64 sa, .int .u64 sb]) (w' := wq) (wanted_on (t := 80) (u := true) rfl rfl rfl h80) (rg_loadall rfl e16 (blk_below Bg16_8.out hst) Try.underlying30 rfl (by kernel_rfl)) (hK _ _ (Below.refl _ _) rfl)
      · intro listed vals a wq K hD hst hj haft hun hK
        obtain ⟨v80, h80, j80⟩ := hD.dep hj haft 7 80 rfl rfl
        replace j80 : v80 = (.bool true) := j80
        subst j80
        have h9 := hD.out 9 rfl rfl
        replace hst : Below _ _ wq := hst
        clear hD hj haft hun
        have e9 := eval_of h9
        exact step_now (v := .agg #[.int .i64 p, .int .u64 sh, .int .u64 sl, .int .u64 dh, .int .u64 dl, .int .i64 sp, .int .i64 dp]) (w' := wq) (wanted_on (t := 80) (u := true) rfl rfl rfl h80) (rg_loadall rfl e9 (blk_below Bg9_8.out hst) Try.underlying29 rfl (by kernel_rfl)) (hK _ _ (Below.refl _ _) rfl)
      · intro listed vals a wq K hD hst hj haft hun hK
        obtain ⟨v80, h80, j80⟩ := hD.dep hj haft 7 80 rfl rfl
        replace j80 : v80 = (.bool true) := j80
        subst j80
        have h17 := hD.out 17 rfl rfl
        clear hD hj haft hun
        have e17 := eval_of h17
        refine step_now (v := .int .i64 (now / 16)) (w' := wq) (wanted_on (t := 80) (u := true) rfl rfl rfl h80) ?_ (hK _ _ (Below.refl _ _) rfl)
        clear hK
        first | (go_simp; done) | (go_simp; rfl) | (go_simp; (try simp only [IntKind.wrap_u32]); omega)
      · intro listed vals a wq K hD hst hj haft hun hK
        obtain ⟨v85, h85, j85⟩ := hD.dep hj haft 12 85 rfl rfl
        replace j85 : v85 = (.agg #[.int .u64 sa, .int .u64 sb]) := j85
        subst j85
        obtain ⟨v86, h86, j86⟩ := hD.dep hj haft 13 86 rfl rfl
        replace j86 : v86 = (.agg #[.int .i64 p, .int .u64 sh, .int .u64 sl, .int .u64 dh, .int .u64 dl, .int .i64 sp, .int .i64 dp]) := j86
        subst j86
        obtain ⟨v87, h87, j87⟩ := hD.dep hj haft 14 87 rfl rfl
        replace j87 : v87 = (.int .i64 (now / 16)) := j87
        subst j87
        obtain ⟨v80, h80, j80⟩ := hD.dep hj haft 7 80 rfl rfl
        replace j80 : v80 = (.bool true) := j80
        subst j80
        clear hD hj haft hun
        have e85 := eval_of h85
        have e86 := eval_of h86
        have e87 := eval_of h87
        refine step_call (f := 14) (args := #[.agg #[.int .u64 sa, .int .u64 sb], .agg #[.int .i64 p, .int .u64 sh, .int .u64 sl, .int .u64 dh, .int .u64 dl, .int .i64 sp, .int .i64 dp], .int .i64 (now / 16)]) (wanted_on (t := 80) (u := true) rfl rfl rfl h80) ?_ (rcookie_w sa sb p sh sl dh dl sp dp (now / 16) s1 HS1.out wq) ?_
        · clear hK; first | (go_simp; done) | (go_simp; rfl)
        · rintro e w' ⟨he, hbq⟩; exact ⟨_, he, hK _ _ hbq rfl⟩
      · intro listed vals a wq K hD hst hj haft hun hK
        obtain ⟨v84, h84, j84⟩ := hD.dep hj haft 11 84 rfl rfl
        replace j84 : v84 = (.int .u32 s1) := j84
        subst j84
        obtain ⟨v88, h88, j88⟩ := hD.dep hj haft 15 88 rfl rfl
        replace j88 : v88 = (.int .u32 s1) := j88
        subst j88
        obtain ⟨v80, h80, j80⟩ := hD.dep hj haft 7 80 rfl rfl
        replace j80 : v80 = (.bool true) := j80
        subst j80
        clear hD hj haft hun
        have e84 := eval_of h84
        have e88 := eval_of h88
        refine step_now (v := .bool true) (w' := wq) (wanted_on (t := 80) (u := true) rfl rfl rfl h80) ?_ (hK _ _ (Below.refl _ _) rfl)
        clear hK
        first | (go_simp; done) | (go_simp; rfl)
      · intro listed vals a wq K hD hst hj haft hun hK
        obtain ⟨v80, h80, j80⟩ := hD.dep hj haft 7 80 rfl rfl
        replace j80 : v80 = (.bool true) := j80
        subst j80
        obtain ⟨v89, h89, j89⟩ := hD.dep hj haft 16 89 rfl rfl
        replace j89 : v89 = (.bool true) := j89
        subst j89
        clear hD hj haft hun
        have e80 := eval_of h80
        have e89 := eval_of h89
        refine step_now (v := .bool true) (w' := wq) (wanted_free rfl) ?_ (hK _ _ (Below.refl _ _) rfl)
        clear hK
        first | (go_simp; done) | (go_simp; rfl)
      · intro listed vals a wq K hD hst hj haft hun hK
        obtain ⟨v90, h90, j90⟩ := hD.dep hj haft 17 90 rfl rfl
        replace j90 : v90 = (.bool true) := j90
        subst j90
        clear hD hj haft hun
        have e90 := eval_of h90
        refine step_now (v := .bool true) (w' := wq) (wanted_free rfl) ?_ (hK _ _ (Below.refl _ _) rfl)
        clear hK
        first | (go_simp; done) | (go_simp; rfl)
    intro vals wend hst hj
    have j0 : vals 0 = (.pointer (some ⟨gk, 0, none⟩)) := hj 0 (by decide)
    have j1 : vals 1 = (.agg #[.int .i64 p, .int .u64 sh, .int .u64 sl, .int .u64 dh, .int .u64 dl, .int .i64 sp, .int .i64 dp]) := hj 1 (by decide)
    have j2 : vals 2 = (.int .i64 now) := hj 2 (by decide)
    have j3 : vals 3 = (.int .u32 nn) := hj 3 (by decide)
    have j4 : vals 4 = (.bool (((nn == s1) || (nn == s2)))) := hj 4 (by decide)
    have j5 : vals 5 = (.bool (((nn == s1) || (nn == s2)))) := hj 5 (by decide)
    have j6 : vals 6 = (.bool true) := hj 6 (by decide)
    have j7 : vals 7 = (.bool true) := hj 7 (by decide)
    have j8 : vals 8 = (.pointer (some ⟨gk, 0, none⟩)) := hj 8 (by decide)
    have j9 : vals 9 = (.agg #[.int .i64 p, .int .u64 sh, .int .u64 sl, .int .u64 dh, .int .u64 dl, .int .i64 sp, .int .i64 dp]) := hj 9 (by decide)
    have j10 : vals 10 = (.int .i64 now) := hj 10 (by decide)
    have j11 : vals 11 = (.int .u32 s1) := hj 11 (by decide)
    have j12 : vals 12 = (.agg #[.int .u64 sa, .int .u64 sb]) := hj 12 (by decide)
    have j13 : vals 13 = (.agg #[.int .i64 p, .int .u64 sh, .int .u64 sl, .int .u64 dh, .int .u64 dl, .int .i64 sp, .int .i64 dp]) := hj 13 (by decide)
    have j14 : vals 14 = (.int .i64 (now / 16)) := hj 14 (by decide)
    have j15 : vals 15 = (.int .u32 s1) := hj 15 (by decide)
    have j16 : vals 16 = (.bool true) := hj 16 (by decide)
    have j17 : vals 17 = (.bool true) := hj 17 (by decide)
    have j18 : vals 18 = (.bool true) := hj 18 (by decide)
    replace hst : Below _ _ wend := hst
    clear hj
    rw [putAll_list]
    simp only [putL, Act.put, List.setIfInBounds_toArray, List.set_cons_zero, List.set_cons_succ, j0, j1, j2, j3, j4, j5, j6, j7, j8, j9, j10, j11, j12, j13, j14, j15, j16, j17, j18]
    clear j0 j1 j2 j3 j4 j5 j6 j7 j8 j9 j10 j11 j12 j13 j14 j15 j16 j17 j18
    have HBF := Aside0.mk (below_step HB_8.out hst)
    clear hst
    go_wp2
    go_ret
    exact ⟨rfl, HBF.out⟩
  go_upto_region 5 with (first | ((with_reducible refine gate_dst (N := 25) rfl ?_); refine load_event rfl 24 _ rfl g8 rfl _ _ _ Bg8_6.out Try.underlying24 rfl (by kernel_rfl) ?_) | (go_at_call 21; refine (rotate_any gk gr 1 (by decide) sa sb ta tb #[.int .u64 sa, .int .u64 sb] rfl 0 turned tl HTL.out _ ⟨Bgk_6.out, Bgr_6.out⟩).mono ?_; rintro e wr ⟨rfl, ⟨gr2, hk2⟩, hu⟩; have Bg7_r := Aside0.mk (Upd.blk hu Bg7_6.out (One.not Ng7gk.out)); have Bg8_r := Aside0.mk (Upd.blk hu Bg8_6.out (One.not Ng8gk.out)); have Bg9_r := Aside0.mk (Upd.blk hu Bg9_6.out (One.not Ng9gk.out)); have Bg16_r := Aside0.mk (Upd.blk hu Bg16_6.out (One.not (Ne.symm Ngkg16.out))); have Bgk_r := Aside0.mk hk2.1; have Bgr2_r := Aside0.mk hk2.2; have HB_r := Aside0.mk (below_upd HB_6.out hu (below_size HB_6.out) (fun k hk => by cases hk; exact Lgk.out)); skip; clear hk2 hu HB_6 Bg7_6 Bg8_6 Bg9_6 Bg16_6 Bgk_6 Bgr_6))
  have Ngr2g16 := Aside0.mk (show gr2 ≠ g16 by intro h; have h1 := Bgr2_r.out; rw [h, Bg16_r.out] at h1; simp at h1)
  go_upto_region 6 with (first | ((with_reducible refine gate_dst (N := 28) rfl ?_); refine load_event rfl 24 _ rfl g8 rfl _ _ _ Bg8_r.out Try.underlying24 rfl (by kernel_rfl) ?_) | ((with_reducible refine gate_store (t := 30) (p := 16) rfl ?_); refine store_event rfl 30 _ _ rfl g16 _ rfl rfl _ _ Bg16_r.out (by kernel_rfl) rfl rfl ?_; intro wx7 hst hu; have HB_7 := Aside0.mk (below_upd HB_r.out hu (below_size HB_r.out) (fun k hk => by cases hk; exact Lg16.out)); clear HB_r; have Bg7_7 := Aside0.mk (Upd.blk hu Bg7_r.out (One.not Ng7g16.out)); clear Bg7_r; have Bg8_7 := Aside0.mk (Upd.blk hu Bg8_r.out (One.not Ng8g16.out)); clear Bg8_r; have Bg9_7 := Aside0.mk (Upd.blk hu Bg9_r.out (One.not Ng9g16.out)); clear Bg9_r; have Bgk_7 := Aside0.mk (Upd.blk hu Bgk_r.out (One.not Ngkg16.out)); clear Bgk_r; have Bgr2_7 := Aside0.mk (Upd.blk hu Bgr2_r.out (One.not Ngr2g16.out)); clear Bgr2_r; have Bg16_7 := Aside0.mk hst; clear hst hu Bg16_r))
  go_upto_region 7 with (first | (go_at_call 16; refine (rwindow_any now _).mono ?_; rintro e wx8 ⟨rfl, hb⟩; have HB_8 := Aside0.mk (below_step HB_7.out hb); clear HB_7; have Bg7_8 := Aside0.mk (blk_below Bg7_7.out hb); clear Bg7_7; have Bg8_8 := Aside0.mk (blk_below Bg8_7.out hb); clear Bg8_7; have Bg9_8 := Aside0.mk (blk_below Bg9_7.out hb); clear Bg9_7; have Bgk_8 := Aside0.mk (blk_below Bgk_7.out hb); clear Bgk_7; have Bgr2_8 := Aside0.mk (blk_below Bgr2_7.out hb); clear Bgr2_7; have Bg16_8 := Aside0.mk (blk_below Bg16_7.out hb); clear Bg16_7; clear hb))
  go_upto_region 7 with (fail)
  refine wp_region_rg_seq (fun x y => Below x.heap.size x y) (fun (i : Nat) (v : Value) (w1 : World) => match i with | 0 => v = (.int .u32 nn) | 1 => v = (.agg #[.int .u64 ta, .int .u64 tb]) | 2 => v = (.agg #[.int .i64 p, .int .u64 sh, .int .u64 sl, .int .u64 dh, .int .u64 dl, .int .i64 sp, .int .i64 dp]) | 3 => v = (.int .i64 (now / 16)) | 4 => v = (.int .u32 t1) | 5 => v = (.bool ((nn == t1))) | 6 => v = (.bool ((nn == t1))) | 7 => ((nn == t1)) = false → v = (.int .u32 nn) | 8 => ((nn == t1)) = false → v = (.agg #[.int .u64 ta, .int .u64 tb]) | 9 => ((nn == t1)) = false → v = (.agg #[.int .i64 p, .int .u64 sh, .int .u64 sl, .int .u64 dh, .int .u64 dl, .int .i64 sp, .int .i64 dp]) | 10 => ((nn == t1)) = false → v = (.int .i64 (now / 16)) | 11 => ((nn == t1)) = false → v = (.int .i64 wm) | 12 => ((nn == t1)) = false → v = (.int .u32 t2) | 13 => ((nn == t1)) = false → v = (.bool ((nn == t2))) | 14 => v = (.bool (((nn == t1) || (nn == t2)))) | 15 => v = (.bool (((nn == t1) || (nn == t2)))) | _ => True) (by kernel_rfl) (by kernel_rfl) below_tr (Below.refl _ _) ?hJst3 ?hObl3 ?hEnd3
  case hJst3 =>
    intro i v wx wy hi hs0 hs1 hJi
    match i, hi with
    | 0, _ => exact hJi
    | 1, _ => exact hJi
    | 2, _ => exact hJi
    | 3, _ => exact hJi
    | 4, _ => exact hJi
    | 5, _ => exact hJi
    | 6, _ => exact hJi
    | 7, _ => exact hJi
    | 8, _ => exact hJi
    | 9, _ => exact hJi
    | 10, _ => exact hJi
    | 11, _ => exact hJi
    | 12, _ => exact hJi
    | 13, _ => exact hJi
    | 14, _ => exact hJi
    | 15, _ => exact hJi
    | _ + 16, hi => exact absurd hi (by simp)
  case hObl3 =>
    refine ⟨?_, ?_, ?_, ?_, ?_, ?_, ?_, ?_, ?_, ?_, ?_, ?_, ?_, ?_, ?_, ?_,  trivial⟩
    · intro listed vals a wq K hD hst hj haft hun hK
      have h5 := hD.out 5 rfl rfl
      clear hD hj haft hun
      have e5 := eval_of h5
      refine step_now (v := .int .u32 nn) (w' := wq) (wanted_free rfl) ?_ (hK _ _ (Below.refl _ _) rfl)
      clear hK
      first | (go_simp; done) | (go_simp; rfl) | (go_simp; (try simp only [IntKind.wrap_u32]); omega)
    · intro listed vals a wq K hD hst hj haft hun hK
      have h16 := hD.out 16 rfl rfl
      replace hst : Below _ _ wq := hst
      clear hD hj haft hun
      have e16 := eval_of h16
      exact step_now (v := .agg #[.int .u64 ta, .int .u64 tb]) (w' := wq) (wanted_free rfl) (rg_loadall rfl e16 (blk_below Bg16_8.out hst) Try.underlying30 rfl (by kernel_rfl)) (hK _ _ (Below.refl _ _) rfl)
    · intro listed vals a wq K hD hst hj haft hun hK
      have h9 := hD.out 9 rfl rfl
      replace hst : Below _ _ wq := hst
      clear hD hj haft hun
      have e9 := eval_of h9
      exact step_now (v := .agg #[.int .i64 p, .int .u64 sh, .int .u64 sl, .int .u64 dh, .int .u64 dl, .int .i64 sp, .int .i64 dp]) (w' := wq) (wanted_free rfl) (rg_loadall rfl e9 (blk_below Bg9_8.out hst) Try.underlying29 rfl (by kernel_rfl)) (hK _ _ (Below.refl _ _) rfl)
    · intro listed vals a wq K hD hst hj haft hun hK
      have h17 := hD.out 17 rfl rfl
      clear hD hj haft hun
      have e17 := eval_of h17
      refine step_now (v := .int .i64 (now / 16)) (w' := wq) (wanted_free rfl) ?_ (hK _ _ (Below.refl _ _) rfl)
      clear hK
      first | (go_simp; done) | (go_simp; rfl) | (go_simp; (try simp only [IntKind.wrap_u32]); omega)
    · intro listed vals a wq K hD hst hj haft hun hK
      obtain ⟨v32, h32, j32⟩ := hD.dep hj haft 1 32 rfl rfl
      replace j32 : v32 = (.agg #[.int .u64 ta, .int .u64 tb]) := j32
      subst j32
      obtain ⟨v33, h33, j33⟩ := hD.dep hj haft 2 33 rfl rfl
      replace j33 : v33 = (.agg #[.int .i64 p, .int .u64 sh, .int .u64 sl, .int .u64 dh, .int .u64 dl, .int .i64 sp, .int .i64 dp]) := j33
      subst j33
      obtain ⟨v34, h34, j34⟩ := hD.dep hj haft 3 34 rfl rfl
      replace j34 : v34 = (.int .i64 (now / 16)) := j34
      subst j34
      clear hD hj haft hun
      have e32 := eval_of h32
      have e33 := eval_of h33
      have e34 := eval_of h34
      refine step_call (f := 14) (args := #[.agg #[.int .u64 ta, .int .u64 tb], .agg #[.int .i64 p, .int .u64 sh, .int .u64 sl, .int .u64 dh, .int .u64 dl, .int .i64 sp, .int .i64 dp], .int .i64 (now / 16)]) (wanted_free rfl) ?_ (rcookie_w ta tb p sh sl dh dl sp dp (now / 16) t1 HT1.out wq) ?_
      · clear hK; first | (go_simp; done) | (go_simp; rfl)
      · rintro e w' ⟨he, hbq⟩; exact ⟨_, he, hK _ _ hbq rfl⟩
    · intro listed vals a wq K hD hst hj haft hun hK
      obtain ⟨v31, h31, j31⟩ := hD.dep hj haft 0 31 rfl rfl
      replace j31 : v31 = (.int .u32 nn) := j31
      subst j31
      obtain ⟨v35, h35, j35⟩ := hD.dep hj haft 4 35 rfl rfl
      replace j35 : v35 = (.int .u32 t1) := j35
      subst j35
      clear hD hj haft hun
      have e31 := eval_of h31
      have e35 := eval_of h35
      refine step_now (v := .bool ((nn == t1))) (w' := wq) (wanted_free rfl) ?_ (hK _ _ (Below.refl _ _) rfl)
      clear hK
      first | (go_simp; done) | (go_simp; rfl)
    · intro listed vals a wq K hD hst hj haft hun hK
      obtain ⟨v36, h36, j36⟩ := hD.dep hj haft 5 36 rfl rfl
      replace j36 : v36 = (.bool ((nn == t1))) := j36
      subst j36
      clear hD hj haft hun
      have e36 := eval_of h36
      refine step_now (v := .bool ((nn == t1))) (w' := wq) (wanted_free rfl) ?_ (hK _ _ (Below.refl _ _) rfl)
      clear hK
      first | (go_simp; done) | (go_simp; rfl)
    · intro listed vals a wq K hD hst hj haft hun hK
      obtain ⟨v37, h37, j37⟩ := hD.dep hj haft 6 37 rfl rfl
      replace j37 : v37 = (.bool ((nn == t1))) := j37
      subst j37
      have h5 := hD.out 5 rfl rfl
      clear hD hj haft hun
      rcases hE : ((nn == t1)) with _ | _
      · rw [hE] at h37
        have e5 := eval_of h5
        refine step_now (v := .int .u32 nn) (w' := wq) (wanted_on (t := 37) (u := false) rfl rfl rfl h37) ?_ (hK _ _ (Below.refl _ _) (fun _ => rfl))
        clear hK
        first | (go_simp; done) | (go_simp; rfl) | (go_simp; (try simp only [IntKind.wrap_u32]); omega)
      · rw [hE] at h37
        exact step_off (wanted_off (t := 37) (u := false) rfl rfl rfl h37) (hK _ _ (Below.refl _ _) (fun h => by rw [hE] at h; cases h))
    · intro listed vals a wq K hD hst hj haft hun hK
      obtain ⟨v37, h37, j37⟩ := hD.dep hj haft 6 37 rfl rfl
      replace j37 : v37 = (.bool ((nn == t1))) := j37
      subst j37
      have h16 := hD.out 16 rfl rfl
      replace hst : Below _ _ wq := hst
      clear hD hj haft hun
      rcases hE : ((nn == t1)) with _ | _
      · rw [hE] at h37
        have e16 := eval_of h16
        exact step_now (v := .agg #[.int .u64 ta, .int .u64 tb]) (w' := wq) (wanted_on (t := 37) (u := false) rfl rfl rfl h37) (rg_loadall rfl e16 (blk_below Bg16_8.out hst) Try.underlying30 rfl (by kernel_rfl)) (hK _ _ (Below.refl _ _) (fun _ => rfl))
      · rw [hE] at h37
        exact step_off (wanted_off (t := 37) (u := false) rfl rfl rfl h37) (hK _ _ (Below.refl _ _) (fun h => by rw [hE] at h; cases h))
    · intro listed vals a wq K hD hst hj haft hun hK
      obtain ⟨v37, h37, j37⟩ := hD.dep hj haft 6 37 rfl rfl
      replace j37 : v37 = (.bool ((nn == t1))) := j37
      subst j37
      have h9 := hD.out 9 rfl rfl
      replace hst : Below _ _ wq := hst
      clear hD hj haft hun
      rcases hE : ((nn == t1)) with _ | _
      · rw [hE] at h37
        have e9 := eval_of h9
        exact step_now (v := .agg #[.int .i64 p, .int .u64 sh, .int .u64 sl, .int .u64 dh, .int .u64 dl, .int .i64 sp, .int .i64 dp]) (w' := wq) (wanted_on (t := 37) (u := false) rfl rfl rfl h37) (rg_loadall rfl e9 (blk_below Bg9_8.out hst) Try.underlying29 rfl (by kernel_rfl)) (hK _ _ (Below.refl _ _) (fun _ => rfl))
      · rw [hE] at h37
        exact step_off (wanted_off (t := 37) (u := false) rfl rfl rfl h37) (hK _ _ (Below.refl _ _) (fun h => by rw [hE] at h; cases h))
    · intro listed vals a wq K hD hst hj haft hun hK
      obtain ⟨v37, h37, j37⟩ := hD.dep hj haft 6 37 rfl rfl
      replace j37 : v37 = (.bool ((nn == t1))) := j37
      subst j37
      have h17 := hD.out 17 rfl rfl
      clear hD hj haft hun
      rcases hE : ((nn == t1)) with _ | _
      · rw [hE] at h37
        have e17 := eval_of h17
        refine step_now (v := .int .i64 (now / 16)) (w' := wq) (wanted_on (t := 37) (u := false) rfl rfl rfl h37) ?_ (hK _ _ (Below.refl _ _) (fun _ => rfl))
        clear hK
        first | (go_simp; done) | (go_simp; rfl) | (go_simp; (try simp only [IntKind.wrap_u32]); omega)
      · rw [hE] at h37
        exact step_off (wanted_off (t := 37) (u := false) rfl rfl rfl h37) (hK _ _ (Below.refl _ _) (fun h => by rw [hE] at h; cases h))
    · intro listed vals a wq K hD hst hj haft hun hK
      obtain ⟨v41, h41, j41⟩ := hD.dep hj haft 10 41 rfl rfl
      replace j41 : ((nn == t1)) = false → v41 = (.int .i64 (now / 16)) := j41
      obtain ⟨v37, h37, j37⟩ := hD.dep hj haft 6 37 rfl rfl
      replace j37 : v37 = (.bool ((nn == t1))) := j37
      subst j37
      clear hD hj haft hun
      rcases hE : ((nn == t1)) with _ | _
      · rw [hE] at h37
        obtain rfl := j41 hE
        have e41 := eval_of h41
        refine step_now (v := .int .i64 wm) (w' := wq) (wanted_on (t := 37) (u := false) rfl rfl rfl h37) ?_ (hK _ _ (Below.refl _ _) (fun _ => rfl))
        clear hK
        first | (go_simp; done) | (go_simp; rfl) | (go_simp; (try simp only [IntKind.wrap_u32]); omega)
      · rw [hE] at h37
        exact step_off (wanted_off (t := 37) (u := false) rfl rfl rfl h37) (hK _ _ (Below.refl _ _) (fun h => by rw [hE] at h; cases h))
    · intro listed vals a wq K hD hst hj haft hun hK
      obtain ⟨v39, h39, j39⟩ := hD.dep hj haft 8 39 rfl rfl
      replace j39 : ((nn == t1)) = false → v39 = (.agg #[.int .u64 ta, .int .u64 tb]) := j39
      obtain ⟨v40, h40, j40⟩ := hD.dep hj haft 9 40 rfl rfl
      replace j40 : ((nn == t1)) = false → v40 = (.agg #[.int .i64 p, .int .u64 sh, .int .u64 sl, .int .u64 dh, .int .u64 dl, .int .i64 sp, .int .i64 dp]) := j40
      obtain ⟨v42, h42, j42⟩ := hD.dep hj haft 11 42 rfl rfl
      replace j42 : ((nn == t1)) = false → v42 = (.int .i64 wm) := j42
      obtain ⟨v37, h37, j37⟩ := hD.dep hj haft 6 37 rfl rfl
      replace j37 : v37 = (.bool ((nn == t1))) := j37
      subst j37
      clear hD hj haft hun
      rcases hE : ((nn == t1)) with _ | _
      · rw [hE] at h37
        obtain rfl := j39 hE
        obtain rfl := j40 hE
        obtain rfl := j42 hE
        have e39 := eval_of h39
        have e40 := eval_of h40
        have e42 := eval_of h42
        refine step_call (f := 14) (args := #[.agg #[.int .u64 ta, .int .u64 tb], .agg #[.int .i64 p, .int .u64 sh, .int .u64 sl, .int .u64 dh, .int .u64 dl, .int .i64 sp, .int .i64 dp], .int .i64 wm]) (wanted_on (t := 37) (u := false) rfl rfl rfl h37) ?_ (rcookie_w ta tb p sh sl dh dl sp dp wm t2 HT2.out wq) ?_
        · clear hK; first | (go_simp; done) | (go_simp; rfl)
        · rintro e w' ⟨he, hbq⟩; exact ⟨_, he, hK _ _ hbq (fun _ => rfl)⟩
      · rw [hE] at h37
        exact step_off (wanted_off (t := 37) (u := false) rfl rfl rfl h37) (hK _ _ (Below.refl _ _) (fun h => by rw [hE] at h; cases h))
    · intro listed vals a wq K hD hst hj haft hun hK
      obtain ⟨v38, h38, j38⟩ := hD.dep hj haft 7 38 rfl rfl
      replace j38 : ((nn == t1)) = false → v38 = (.int .u32 nn) := j38
      obtain ⟨v43, h43, j43⟩ := hD.dep hj haft 12 43 rfl rfl
      replace j43 : ((nn == t1)) = false → v43 = (.int .u32 t2) := j43
      obtain ⟨v37, h37, j37⟩ := hD.dep hj haft 6 37 rfl rfl
      replace j37 : v37 = (.bool ((nn == t1))) := j37
      subst j37
      clear hD hj haft hun
      rcases hE : ((nn == t1)) with _ | _
      · rw [hE] at h37
        obtain rfl := j38 hE
        obtain rfl := j43 hE
        have e38 := eval_of h38
        have e43 := eval_of h43
        refine step_now (v := .bool ((nn == t2))) (w' := wq) (wanted_on (t := 37) (u := false) rfl rfl rfl h37) ?_ (hK _ _ (Below.refl _ _) (fun _ => rfl))
        clear hK
        first | (go_simp; done) | (go_simp; rfl)
      · rw [hE] at h37
        exact step_off (wanted_off (t := 37) (u := false) rfl rfl rfl h37) (hK _ _ (Below.refl _ _) (fun h => by rw [hE] at h; cases h))
    · intro listed vals a wq K hD hst hj haft hun hK
      obtain ⟨v37, h37, j37⟩ := hD.dep hj haft 6 37 rfl rfl
      replace j37 : v37 = (.bool ((nn == t1))) := j37
      subst j37
      obtain ⟨v44, h44, j44⟩ := hD.dep hj haft 13 44 rfl rfl
      replace j44 : ((nn == t1)) = false → v44 = (.bool ((nn == t2))) := j44
      clear hD hj haft hun
      rcases hE : ((nn == t1)) with _ | _
      · rw [hE] at h37
        obtain rfl := j44 hE
        have e37 := eval_of h37
        have e44 := eval_of h44
        refine step_now (v := .bool (((nn == t1) || (nn == t2)))) (w' := wq) (wanted_free rfl) ?_ (hK _ _ (Below.refl _ _) rfl)
        rw [hE]
        clear hK
        first | (go_simp; done) | (go_simp; rfl) | (go_simp; (try simp only [IntKind.wrap_u32]); omega)
      · rw [hE] at h37
        have e37 := eval_of h37
        have e44 := eval_of h44
        refine step_now (v := .bool (((nn == t1) || (nn == t2)))) (w' := wq) (wanted_free rfl) ?_ (hK _ _ (Below.refl _ _) rfl)
        rw [hE]
        clear hK
        first | (go_simp; done) | (go_simp; rfl) | (go_simp; (try simp only [IntKind.wrap_u32]); omega)
    · intro listed vals a wq K hD hst hj haft hun hK
      obtain ⟨v45, h45, j45⟩ := hD.dep hj haft 14 45 rfl rfl
      replace j45 : v45 = (.bool (((nn == t1) || (nn == t2)))) := j45
      subst j45
      clear hD hj haft hun
      have e45 := eval_of h45
      refine step_now (v := .bool (((nn == t1) || (nn == t2)))) (w' := wq) (wanted_free rfl) ?_ (hK _ _ (Below.refl _ _) rfl)
      clear hK
      first | (go_simp; done) | (go_simp; rfl)
  intro vals wend hst hj
  have j0 : vals 0 = (.int .u32 nn) := hj 0 (by decide)
  have j1 : vals 1 = (.agg #[.int .u64 ta, .int .u64 tb]) := hj 1 (by decide)
  have j2 : vals 2 = (.agg #[.int .i64 p, .int .u64 sh, .int .u64 sl, .int .u64 dh, .int .u64 dl, .int .i64 sp, .int .i64 dp]) := hj 2 (by decide)
  have j3 : vals 3 = (.int .i64 (now / 16)) := hj 3 (by decide)
  have j4 : vals 4 = (.int .u32 t1) := hj 4 (by decide)
  have j5 : vals 5 = (.bool ((nn == t1))) := hj 5 (by decide)
  have j6 : vals 6 = (.bool ((nn == t1))) := hj 6 (by decide)
  have j14 : vals 14 = (.bool (((nn == t1) || (nn == t2)))) := hj 14 (by decide)
  have j15 : vals 15 = (.bool (((nn == t1) || (nn == t2)))) := hj 15 (by decide)
  replace hst : Below _ _ wend := hst
  clear hj
  rw [putAll_list]
  simp only [putL, Act.put, List.setIfInBounds_toArray, List.set_cons_zero, List.set_cons_succ, j0, j1, j2, j3, j4, j5, j6, j14, j15]
  clear j0 j1 j2 j3 j4 j5 j6 j14 j15
  generalize vals 7 = u38_
  generalize vals 8 = u39_
  generalize vals 9 = u40_
  generalize vals 10 = u41_
  generalize vals 11 = u42_
  generalize vals 12 = u43_
  generalize vals 13 = u44_
  have HB_9 := Aside0.mk (below_step HB_8.out hst)
  clear HB_8
  have Bg7_9 := Aside0.mk (blk_below Bg7_8.out hst)
  clear Bg7_8
  have Bg8_9 := Aside0.mk (blk_below Bg8_8.out hst)
  clear Bg8_8
  have Bg9_9 := Aside0.mk (blk_below Bg9_8.out hst)
  clear Bg9_8
  have Bgk_9 := Aside0.mk (blk_below Bgk_8.out hst)
  clear Bgk_8
  have Bgr2_9 := Aside0.mk (blk_below Bgr2_8.out hst)
  clear Bgr2_8
  have Bg16_9 := Aside0.mk (blk_below Bg16_8.out hst)
  clear Bg16_8
  clear hst
  clear hwm
  go_upto_if 53 with (first | (go_at_call 16; refine (rwindow_any turned _).mono ?_; rintro e wx10 ⟨rfl, hb⟩; have HB_10 := Aside0.mk (below_step HB_9.out hb); clear HB_9; have Bg7_10 := Aside0.mk (blk_below Bg7_9.out hb); clear Bg7_9; have Bg8_10 := Aside0.mk (blk_below Bg8_9.out hb); clear Bg8_9; have Bg9_10 := Aside0.mk (blk_below Bg9_9.out hb); clear Bg9_9; have Bgk_10 := Aside0.mk (blk_below Bgk_9.out hb); clear Bgk_9; have Bgr2_10 := Aside0.mk (blk_below Bgr2_9.out hb); clear Bgr2_9; have Bg16_10 := Aside0.mk (blk_below Bg16_9.out hb); clear Bg16_9; clear hb))
  rcases hW : (decide (now / 16 ≤ tl)) with _ | _
  · have HGT : Aside0 (decide (tl < now / 16) = true) := ⟨decide_eq_true (by simpa using hW)⟩
    clear htl
    go_upto_region 11 with fail
    clear hW
    refine wp_region_rg (by kernel_rfl) (fun x y => Below x.heap.size x y) (fun (i : Nat) (v : Value) (w1 : World) => match i with | 0 => v = (.pointer (some ⟨gk, 0, none⟩)) | 1 => v = (.agg #[.int .i64 p, .int .u64 sh, .int .u64 sl, .int .u64 dh, .int .u64 dl, .int .i64 sp, .int .i64 dp]) | 2 => v = (.int .i64 now) | 3 => v = (.int .u32 nn) | 4 => v = (.bool (((nn == t1) || (nn == t2)))) | 5 => v = (.bool (((nn == t1) || (nn == t2)))) | 6 => v = (.bool true) | 7 => v = (.bool true) | 8 => v = (.pointer (some ⟨gk, 0, none⟩)) | 9 => v = (.agg #[.int .i64 p, .int .u64 sh, .int .u64 sl, .int .u64 dh, .int .u64 dl, .int .i64 sp, .int .i64 dp]) | 10 => v = (.int .i64 now) | 11 => v = (.int .u32 t1) | 12 => v = (.agg #[.int .u64 ta, .int .u64 tb]) | 13 => v = (.agg #[.int .i64 p, .int .u64 sh, .int .u64 sl, .int .u64 dh, .int .u64 dl, .int .i64 sp, .int .i64 dp]) | 14 => v = (.int .i64 (now / 16)) | 15 => v = (.int .u32 t1) | 16 => v = (.bool true) | 17 => v = (.bool true) | 18 => v = (.bool true) | _ => True) (by kernel_rfl) (by kernel_rfl) below_tr (Below.refl _ _).drew ?hJst4 (obl_list ?hObl4) ?hEnd4
    case hJst4 =>
      intro i v wx wy hi hs0 hs1 hJi
      match i, hi with
      | 0, _ => exact hJi
      | 1, _ => exact hJi
      | 2, _ => exact hJi
      | 3, _ => exact hJi
      | 4, _ => exact hJi
      | 5, _ => exact hJi
      | 6, _ => exact hJi
      | 7, _ => exact hJi
      | 8, _ => exact hJi
      | 9, _ => exact hJi
      | 10, _ => exact hJi
      | 11, _ => exact hJi
      | 12, _ => exact hJi
      | 13, _ => exact hJi
      | 14, _ => exact hJi
      | 15, _ => exact hJi
      | 16, _ => exact hJi
      | 17, _ => exact hJi
      | 18, _ => exact hJi
      | _ + 19, hi => exact absurd hi (by simp)
    case hObl4 =>
      refine ⟨?_, ?_, ?_, ?_, ?_, ?_, ?_, ?_, ?_, ?_, ?_, ?_, ?_, ?_, ?_, ?_, ?_, ?_, ?_,  trivial⟩
      · intro listed vals a wq K hD hst hj haft hun hK
        have h15 := hD.out 15 rfl rfl
        clear hD hj haft hun
        have e15 := eval_of h15
        refine step_now (v := .pointer (some ⟨gk, 0, none⟩)) (w' := wq) (wanted_free rfl) ?_ (hK _ _ (Below.refl _ _) rfl)
        clear hK
        first | (go_simp; done) | (go_simp; rfl)
      · intro listed vals a wq K hD hst hj haft hun hK
        have h9 := hD.out 9 rfl rfl
        replace hst : Below _ _ wq := hst
        clear hD hj haft hun
        have e9 := eval_of h9
        exact step_now (v := .agg #[.int .i64 p, .int .u64 sh, .int .u64 sl, .int .u64 dh, .int .u64 dl, .int .i64 sp, .int .i64 dp]) (w' := wq) (wanted_free rfl) (rg_loadall rfl e9 (blk_below Bg9_10.out hst) Try.underlying29 rfl (by kernel_rfl)) (hK _ _ (Below.refl _ _) rfl)
      · intro listed vals a wq K hD hst hj haft hun hK
        have h4 := hD.out 4 rfl rfl
        clear hD hj haft hun
        have e4 := eval_of h4
        refine step_now (v := .int .i64 now) (w' := wq) (wanted_free rfl) ?_ (hK _ _ (Below.refl _ _) rfl)
        clear hK
        first | (go_simp; done) | (go_simp; rfl) | (go_simp; (try simp only [IntKind.wrap_u32]); omega)
      · intro listed vals a wq K hD hst hj haft hun hK
        have h5 := hD.out 5 rfl rfl
        clear hD hj haft hun
        have e5 := eval_of h5
        refine step_now (v := .int .u32 nn) (w' := wq) (wanted_free rfl) ?_ (hK _ _ (Below.refl _ _) rfl)
        clear hK
        first | (go_simp; done) | (go_simp; rfl) | (go_simp; (try simp only [IntKind.wrap_u32]); omega)
      · intro listed vals a wq K hD hst hj haft hun hK
        obtain ⟨v73, h73, j73⟩ := hD.dep hj haft 0 73 rfl rfl
        replace j73 : v73 = (.pointer (some ⟨gk, 0, none⟩)) := j73
        subst j73
        obtain ⟨v74, h74, j74⟩ := hD.dep hj haft 1 74 rfl rfl
        replace j74 : v74 = (.agg #[.int .i64 p, .int .u64 sh, .int .u64 sl, .int .u64 dh, .int .u64 dl, .int .i64 sp, .int .i64 dp]) := j74
        subst j74
        obtain ⟨v75, h75, j75⟩ := hD.dep hj haft 2 75 rfl rfl
        replace j75 : v75 = (.int .i64 now) := j75
        subst j75
        obtain ⟨v76, h76, j76⟩ := hD.dep hj haft 3 76 rfl rfl
        replace j76 : v76 = (.int .u32 nn) := j76
        subst j76
        replace hst : Below _ _ wq := hst
        clear hD hj haft hun
        have e73 := eval_of h73
        have e74 := eval_of h74
        have e75 := eval_of h75
        have e76 := eval_of h76
        refine step_call (f := 22) (args := #[.pointer (some ⟨gk, 0, none⟩), .agg #[.int .i64 p, .int .u64 sh, .int .u64 sl, .int .u64 dh, .int .u64 dl, .int .i64 sp, .int .i64 dp], .int .i64 now, .int .u32 nn]) (wanted_free rfl) ?_ (check2_w gk gr2 ta tb sa sb tl p sh sl dh dl sp dp now nn (((nn == t1) || (nn == t2))) (by rw [HWM.out, HT1.out, HT2.out, HS1.out, HS2.out]; exact old3 _ _ _ _ _ _ HGT.out) wq (Keep.below ⟨Bgk_10.out, Bgr2_10.out⟩ hst)) ?_
        · clear hK; first | (go_simp; done) | (go_simp; rfl)
        · rintro e w' ⟨he, hbq⟩; exact ⟨_, he, hK _ _ hbq rfl⟩
      · intro listed vals a wq K hD hst hj haft hun hK
        have h18 := hD.out 18 rfl rfl
        clear hD hj haft hun
        have e18 := eval_of h18
        refine step_now (v := .bool (((nn == t1) || (nn == t2)))) (w' := wq) (wanted_free rfl) ?_ (hK _ _ (Below.refl _ _) rfl)
        clear hK
        first | (go_simp; done) | (go_simp; rfl)
      · intro listed vals a wq K hD hst hj haft hun hK
        obtain ⟨v77, h77, j77⟩ := hD.dep hj haft 4 77 rfl rfl
        replace j77 : v77 = (.bool (((nn == t1) || (nn == t2)))) := j77
        subst j77
        obtain ⟨v78, h78, j78⟩ := hD.dep hj haft 5 78 rfl rfl
        replace j78 : v78 = (.bool (((nn == t1) || (nn == t2)))) := j78
        subst j78
        clear hD hj haft hun
        have e77 := eval_of h77
        have e78 := eval_of h78
        refine step_now (v := .bool true) (w' := wq) (wanted_free rfl) ?_ (hK _ _ (Below.refl _ _) rfl)
        clear hK
        first | (go_simp; done) | (go_simp; rfl)
      · intro listed vals a wq K hD hst hj haft hun hK
        obtain ⟨v79, h79, j79⟩ := hD.dep hj haft 6 79 rfl rfl
        replace j79 : v79 = (.bool true) := j79
        subst j79
        clear hD hj haft hun
        have e79 := eval_of h79
        refine step_now (v := .bool true) (w' := wq) (wanted_free rfl) ?_ (hK _ _ (Below.refl _ _) rfl)
        clear hK
        first | (go_simp; done) | (go_simp; rfl)
      · intro listed vals a wq K hD hst hj haft hun hK
        obtain ⟨v80, h80, j80⟩ := hD.dep hj haft 7 80 rfl rfl
        replace j80 : v80 = (.bool true) := j80
        subst j80
        have h15 := hD.out 15 rfl rfl
        clear hD hj haft hun
        have e15 := eval_of h15
        refine step_now (v := .pointer (some ⟨gk, 0, none⟩)) (w' := wq) (wanted_on (t := 80) (u := true) rfl rfl rfl h80) ?_ (hK _ _ (Below.refl _ _) rfl)
        clear hK
        first | (go_simp; done) | (go_simp; rfl)
      · intro listed vals a wq K hD hst hj haft hun hK
        obtain ⟨v80, h80, j80⟩ := hD.dep hj haft 7 80 rfl rfl
        replace j80 : v80 = (.bool true) := j80
        subst j80
        have h9 := hD.out 9 rfl rfl
        replace hst : Below _ _ wq := hst
        clear hD hj haft hun
        have e9 := eval_of h9
        exact step_now (v := .agg #[.int .i64 p, .int .u64 sh, .int .u64 sl, .int .u64 dh, .int .u64 dl, .int .i64 sp, .int .i64 dp]) (w' := wq) (wanted_on (t := 80) (u := true) rfl rfl rfl h80) (rg_loadall rfl e9 (blk_below Bg9_10.out hst) Try.underlying29 rfl (by kernel_rfl)) (hK _ _ (Below.refl _ _) rfl)
      · intro listed vals a wq K hD hst hj haft hun hK
        obtain ⟨v80, h80, j80⟩ := hD.dep hj haft 7 80 rfl rfl
        replace j80 : v80 = (.bool true) := j80
        subst j80
        have h4 := hD.out 4 rfl rfl
        clear hD hj haft hun
        have e4 := eval_of h4
        refine step_now (v := .int .i64 now) (w' := wq) (wanted_on (t := 80) (u := true) rfl rfl rfl h80) ?_ (hK _ _ (Below.refl _ _) rfl)
        clear hK
        first | (go_simp; done) | (go_simp; rfl) | (go_simp; (try simp only [IntKind.wrap_u32]); omega)
      · intro listed vals a wq K hD hst hj haft hun hK
        obtain ⟨v81, h81, j81⟩ := hD.dep hj haft 8 81 rfl rfl
        replace j81 : v81 = (.pointer (some ⟨gk, 0, none⟩)) := j81
        subst j81
        obtain ⟨v82, h82, j82⟩ := hD.dep hj haft 9 82 rfl rfl
        replace j82 : v82 = (.agg #[.int .i64 p, .int .u64 sh, .int .u64 sl, .int .u64 dh, .int .u64 dl, .int .i64 sp, .int .i64 dp]) := j82
        subst j82
        obtain ⟨v83, h83, j83⟩ := hD.dep hj haft 10 83 rfl rfl
        replace j83 : v83 = (.int .i64 now) := j83
        subst j83
        obtain ⟨v80, h80, j80⟩ := hD.dep hj haft 7 80 rfl rfl
        replace j80 : v80 = (.bool true) := j80
        subst j80
        replace hst : Below _ _ wq := hst
        clear hD hj haft hun
        have e81 := eval_of h81
        have e82 := eval_of h82
        have e83 := eval_of h83
        refine step_call (f := 23) (args := #[.pointer (some ⟨gk, 0, none⟩), .agg #[.int .i64 p, .int .u64 sh, .int .u64 sl, .int .u64 dh, .int .u64 dl, .int .i64 sp, .int .i64 dp], .int .i64 now]) (wanted_on (t := 80) (u := true) rfl rfl rfl h80) ?_ (make_any gk gr2 2 (by decide) ta tb #[.int .u64 ta, .int .u64 tb, .int .u64 sa, .int .u64 sb] rfl tl p sh sl dh dl sp dp now t1 HT1.out wq (Keep.below ⟨Bgk_10.out, Bgr2_10.out⟩ hst)) ?_
        · clear hK; first | (go_simp; done) | (go_simp; rfl)
        · rintro e w' ⟨he, hbq⟩; exact ⟨_, he, hK _ _ hbq rfl⟩
      · intro listed vals a wq K hD hst hj haft hun hK
        obtain ⟨v80, h80, j80⟩ := hD.dep hj haft 7 80 rfl rfl
        replace j80 : v80 = (.bool true) := j80
        subst j80
        have h16 := hD.out 16 rfl rfl
        replace hst : Below _ _ wq := hst
        clear hD hj haft hun
        have e16 := eval_of h16
        exact step_now (v := .agg #[.int .u64 ta, .int .u64 tb]) (w' := wq) (wanted_on (t := 80) (u := true) rfl rfl rfl h80) (rg_loadall rfl e16 (blk_below Bg16_10.out hst) Try.underlying30 rfl (by kernel_rfl)) (hK _ _ (Below.refl _ _) rfl)
      · intro listed vals a wq K hD hst hj haft hun hK
        obtain ⟨v80, h80, j80⟩ := hD.dep hj haft 7 80 rfl rfl
        replace j80 : v80 = (.bool true) := j80
        subst j80
        have h9 := hD.out 9 rfl rfl
        replace hst : Below _ _ wq := hst
        clear hD hj haft hun
        have e9 := eval_of h9
        exact step_now (v := .agg #[.int .i64 p, .int .u64 sh, .int .u64 sl, .int .u64 dh, .int .u64 dl, .int .i64 sp, .int .i64 dp]) (w' := wq) (wanted_on (t := 80) (u := true) rfl rfl rfl h80) (rg_loadall rfl e9 (blk_below Bg9_10.out hst) Try.underlying29 rfl (by kernel_rfl)) (hK _ _ (Below.refl _ _) rfl)
      · intro listed vals a wq K hD hst hj haft hun hK
        obtain ⟨v80, h80, j80⟩ := hD.dep hj haft 7 80 rfl rfl
        replace j80 : v80 = (.bool true) := j80
        subst j80
        have h17 := hD.out 17 rfl rfl
        clear hD hj haft hun
        have e17 := eval_of h17
        refine step_now (v := .int .i64 (now / 16)) (w' := wq) (wanted_on (t := 80) (u := true) rfl rfl rfl h80) ?_ (hK _ _ (Below.refl _ _) rfl)
        clear hK
        first | (go_simp; done) | (go_simp; rfl) | (go_simp; (try simp only [IntKind.wrap_u32]); omega)
      · intro listed vals a wq K hD hst hj haft hun hK
        obtain ⟨v85, h85, j85⟩ := hD.dep hj haft 12 85 rfl rfl
        replace j85 : v85 = (.agg #[.int .u64 ta, .int .u64 tb]) := j85
        subst j85
        obtain ⟨v86, h86, j86⟩ := hD.dep hj haft 13 86 rfl rfl
        replace j86 : v86 = (.agg #[.int .i64 p, .int .u64 sh, .int .u64 sl, .int .u64 dh, .int .u64 dl, .int .i64 sp, .int .i64 dp]) := j86
        subst j86
        obtain ⟨v87, h87, j87⟩ := hD.dep hj haft 14 87 rfl rfl
        replace j87 : v87 = (.int .i64 (now / 16)) := j87
        subst j87
        obtain ⟨v80, h80, j80⟩ := hD.dep hj haft 7 80 rfl rfl
        replace j80 : v80 = (.bool true) := j80
        subst j80
        clear hD hj haft hun
        have e85 := eval_of h85
        have e86 := eval_of h86
        have e87 := eval_of h87
        refine step_call (f := 14) (args := #[.agg #[.int .u64 ta, .int .u64 tb], .agg #[.int .i64 p, .int .u64 sh, .int .u64 sl, .int .u64 dh, .int .u64 dl, .int .i64 sp, .int .i64 dp], .int .i64 (now / 16)]) (wanted_on (t := 80) (u := true) rfl rfl rfl h80) ?_ (rcookie_w ta tb p sh sl dh dl sp dp (now / 16) t1 HT1.out wq) ?_
        · clear hK; first | (go_simp; done) | (go_simp; rfl)
        · rintro e w' ⟨he, hbq⟩; exact ⟨_, he, hK _ _ hbq rfl⟩
      · intro listed vals a wq K hD hst hj haft hun hK
        obtain ⟨v84, h84, j84⟩ := hD.dep hj haft 11 84 rfl rfl
        replace j84 : v84 = (.int .u32 t1) := j84
        subst j84
        obtain ⟨v88, h88, j88⟩ := hD.dep hj haft 15 88 rfl rfl
        replace j88 : v88 = (.int .u32 t1) := j88
        subst j88
        obtain ⟨v80, h80, j80⟩ := hD.dep hj haft 7 80 rfl rfl
        replace j80 : v80 = (.bool true) := j80
        subst j80
        clear hD hj haft hun
        have e84 := eval_of h84
        have e88 := eval_of h88
        refine step_now (v := .bool true) (w' := wq) (wanted_on (t := 80) (u := true) rfl rfl rfl h80) ?_ (hK _ _ (Below.refl _ _) rfl)
        clear hK
        first | (go_simp; done) | (go_simp; rfl)
      · intro listed vals a wq K hD hst hj haft hun hK
        obtain ⟨v80, h80, j80⟩ := hD.dep hj haft 7 80 rfl rfl
        replace j80 : v80 = (.bool true) := j80
        subst j80
        obtain ⟨v89, h89, j89⟩ := hD.dep hj haft 16 89 rfl rfl
        replace j89 : v89 = (.bool true) := j89
        subst j89
        clear hD hj haft hun
        have e80 := eval_of h80
        have e89 := eval_of h89
        refine step_now (v := .bool true) (w' := wq) (wanted_free rfl) ?_ (hK _ _ (Below.refl _ _) rfl)
        clear hK
        first | (go_simp; done) | (go_simp; rfl)
      · intro listed vals a wq K hD hst hj haft hun hK
        obtain ⟨v90, h90, j90⟩ := hD.dep hj haft 17 90 rfl rfl
        replace j90 : v90 = (.bool true) := j90
        subst j90
        clear hD hj haft hun
        have e90 := eval_of h90
        refine step_now (v := .bool true) (w' := wq) (wanted_free rfl) ?_ (hK _ _ (Below.refl _ _) rfl)
        clear hK
        first | (go_simp; done) | (go_simp; rfl)
    intro vals wend hst hj
    have j0 : vals 0 = (.pointer (some ⟨gk, 0, none⟩)) := hj 0 (by decide)
    have j1 : vals 1 = (.agg #[.int .i64 p, .int .u64 sh, .int .u64 sl, .int .u64 dh, .int .u64 dl, .int .i64 sp, .int .i64 dp]) := hj 1 (by decide)
    have j2 : vals 2 = (.int .i64 now) := hj 2 (by decide)
    have j3 : vals 3 = (.int .u32 nn) := hj 3 (by decide)
    have j4 : vals 4 = (.bool (((nn == t1) || (nn == t2)))) := hj 4 (by decide)
    have j5 : vals 5 = (.bool (((nn == t1) || (nn == t2)))) := hj 5 (by decide)
    have j6 : vals 6 = (.bool true) := hj 6 (by decide)
    have j7 : vals 7 = (.bool true) := hj 7 (by decide)
    have j8 : vals 8 = (.pointer (some ⟨gk, 0, none⟩)) := hj 8 (by decide)
    have j9 : vals 9 = (.agg #[.int .i64 p, .int .u64 sh, .int .u64 sl, .int .u64 dh, .int .u64 dl, .int .i64 sp, .int .i64 dp]) := hj 9 (by decide)
    have j10 : vals 10 = (.int .i64 now) := hj 10 (by decide)
    have j11 : vals 11 = (.int .u32 t1) := hj 11 (by decide)
    have j12 : vals 12 = (.agg #[.int .u64 ta, .int .u64 tb]) := hj 12 (by decide)
    have j13 : vals 13 = (.agg #[.int .i64 p, .int .u64 sh, .int .u64 sl, .int .u64 dh, .int .u64 dl, .int .i64 sp, .int .i64 dp]) := hj 13 (by decide)
    have j14 : vals 14 = (.int .i64 (now / 16)) := hj 14 (by decide)
    have j15 : vals 15 = (.int .u32 t1) := hj 15 (by decide)
    have j16 : vals 16 = (.bool true) := hj 16 (by decide)
    have j17 : vals 17 = (.bool true) := hj 17 (by decide)
    have j18 : vals 18 = (.bool true) := hj 18 (by decide)
    replace hst : Below _ _ wend := hst
    clear hj
    rw [putAll_list]
    simp only [putL, Act.put, List.setIfInBounds_toArray, List.set_cons_zero, List.set_cons_succ, j0, j1, j2, j3, j4, j5, j6, j7, j8, j9, j10, j11, j12, j13, j14, j15, j16, j17, j18]
    clear j0 j1 j2 j3 j4 j5 j6 j7 j8 j9 j10 j11 j12 j13 j14 j15 j16 j17 j18
    have HBF := Aside0.mk (below_step HB_10.out hst)
    clear hst
    go_wp2
    go_ret
    exact ⟨rfl, HBF.out⟩
  have HGT : Aside0 (decide (tl < now / 16) = false) := ⟨decide_eq_false (by have := of_decide_eq_true hW; omega)⟩
  clear htl
  go_upto_region 9 with fail
  clear hW
  go_upto_region 10 with (first | ((with_reducible refine gate_dst (N := 54) rfl ?_); refine load_event rfl 24 _ rfl g7 rfl _ _ _ Bg7_10.out Try.underlying24 rfl (by kernel_rfl) ?_) | ((with_reducible refine gate_dst (N := 19) rfl ?_); refine box_event ?hg (N := 19) ?hd (cs := #[.int .u64 0, .int .u64 0]) (t := 30) ?hr ?_; (case hd => rfl); (case hg => rfl); (case hr => first | (go_simp; done) | (go_simp; rfl)); intro g19 hgg wx11 hbox hb; have Ng7g19 := Aside0.mk (show g7 ≠ g19 by rw [hgg]; exact Nat.ne_of_lt (blk_lt Bg7_10.out)); have Ng8g19 := Aside0.mk (show g8 ≠ g19 by rw [hgg]; exact Nat.ne_of_lt (blk_lt Bg8_10.out)); have Ng9g19 := Aside0.mk (show g9 ≠ g19 by rw [hgg]; exact Nat.ne_of_lt (blk_lt Bg9_10.out)); have Ngkg19 := Aside0.mk (show gk ≠ g19 by rw [hgg]; exact Nat.ne_of_lt (blk_lt Bgk_10.out)); have Ngr2g19 := Aside0.mk (show gr2 ≠ g19 by rw [hgg]; exact Nat.ne_of_lt (blk_lt Bgr2_10.out)); have Ng16g19 := Aside0.mk (show g16 ≠ g19 by rw [hgg]; exact Nat.ne_of_lt (blk_lt Bg16_10.out)); have Lg19 := Aside0.mk (show w.heap.size ≤ g19 by rw [hgg]; exact below_size HB_10.out); have HB_11 := Aside0.mk (below_step HB_10.out hb); clear HB_10; have Bg7_11 := Aside0.mk (blk_below Bg7_10.out hb); clear Bg7_10; have Bg8_11 := Aside0.mk (blk_below Bg8_10.out hb); clear Bg8_10; have Bg9_11 := Aside0.mk (blk_below Bg9_10.out hb); clear Bg9_10; have Bgk_11 := Aside0.mk (blk_below Bgk_10.out hb); clear Bgk_10; have Bgr2_11 := Aside0.mk (blk_below Bgr2_10.out hb); clear Bgr2_10; have Bg16_11 := Aside0.mk (blk_below Bg16_10.out hb); clear Bg16_10; have Bg19_11 := Aside0.mk hbox; clear hbox hb hgg) | ((with_reducible refine gate_store (t := 30) (p := 19) rfl ?_); refine store_event rfl 30 _ _ rfl g19 _ rfl rfl _ _ Bg19_11.out (by kernel_rfl) rfl rfl ?_; intro wx12 hst hu; have HB_12 := Aside0.mk (below_upd HB_11.out hu (below_size HB_11.out) (fun k hk => by cases hk; exact Lg19.out)); clear HB_11; have Bg7_12 := Aside0.mk (Upd.blk hu Bg7_11.out (One.not Ng7g19.out)); clear Bg7_11; have Bg8_12 := Aside0.mk (Upd.blk hu Bg8_11.out (One.not Ng8g19.out)); clear Bg8_11; have Bg9_12 := Aside0.mk (Upd.blk hu Bg9_11.out (One.not Ng9g19.out)); clear Bg9_11; have Bgk_12 := Aside0.mk (Upd.blk hu Bgk_11.out (One.not Ngkg19.out)); clear Bgk_11; have Bgr2_12 := Aside0.mk (Upd.blk hu Bgr2_11.out (One.not Ngr2g19.out)); clear Bgr2_11; have Bg16_12 := Aside0.mk (Upd.blk hu Bg16_11.out (One.not Ng16g19.out)); clear Bg16_11; have Bg19_12 := Aside0.mk hst; clear hst hu Bg19_11))
  have hwm := HWM.out
  rcases hq7 : (((nn == t1) || (nn == t2))) with _ | _
  · rcases hq1 : ((nn == s1)) with _ | _
    · have HQhq7 := Aside0.mk hq7
      have HQhq1 := Aside0.mk hq1
      clear hq7
      go_upto_region 11 with (first | ((with_reducible refine gate_dst (N := 58) rfl ?_); (refine gate_guard (by rfl) ?_; dsimp only); refine load_event rfl 30 _ rfl g19 rfl _ _ _ Bg19_12.out Try.underlying30 rfl (by kernel_rfl) ?_) | ((with_reducible refine gate_dst (N := 59) rfl ?_); (refine gate_guard (by rfl) ?_; dsimp only); refine load_event rfl 29 _ rfl g9 rfl _ _ _ Bg9_12.out Try.underlying29 rfl (by kernel_rfl) ?_) | (go_at_call 14; with_reducible refine (rcookie_w sa sb p sh sl dh dl sp dp (now / 16) s1 HS1.out _).mono ?_; rintro e wx13 ⟨rfl, hb⟩; have HB_13 := Aside0.mk (below_step HB_12.out hb); clear HB_12; have Bg7_13 := Aside0.mk (blk_below Bg7_12.out hb); clear Bg7_12; have Bg8_13 := Aside0.mk (blk_below Bg8_12.out hb); clear Bg8_12; have Bg9_13 := Aside0.mk (blk_below Bg9_12.out hb); clear Bg9_12; have Bgk_13 := Aside0.mk (blk_below Bgk_12.out hb); clear Bgk_12; have Bgr2_13 := Aside0.mk (blk_below Bgr2_12.out hb); clear Bgr2_12; have Bg16_13 := Aside0.mk (blk_below Bg16_12.out hb); clear Bg16_12; have Bg19_13 := Aside0.mk (blk_below Bg19_12.out hb); clear Bg19_12; clear hb) | ((with_reducible refine gate_dst (N := 66) rfl ?_); (refine gate_guard (by rfl) ?_; dsimp only); refine load_event rfl 30 _ rfl g19 rfl _ _ _ Bg19_13.out Try.underlying30 rfl (by kernel_rfl) ?_) | ((with_reducible refine gate_dst (N := 67) rfl ?_); (refine gate_guard (by rfl) ?_; dsimp only); refine load_event rfl 29 _ rfl g9 rfl _ _ _ Bg9_13.out Try.underlying29 rfl (by kernel_rfl) ?_) | (go_at_call 14; with_reducible refine (rcookie_w sa sb p sh sl dh dl sp dp wm s2 HS2.out _).mono ?_; rintro e wx14 ⟨rfl, hb⟩; have HB_14 := Aside0.mk (below_step HB_13.out hb); clear HB_13; have Bg7_14 := Aside0.mk (blk_below Bg7_13.out hb); clear Bg7_13; have Bg8_14 := Aside0.mk (blk_below Bg8_13.out hb); clear Bg8_13; have Bg9_14 := Aside0.mk (blk_below Bg9_13.out hb); clear Bg9_13; have Bgk_14 := Aside0.mk (blk_below Bgk_13.out hb); clear Bgk_13; have Bgr2_14 := Aside0.mk (blk_below Bgr2_13.out hb); clear Bgr2_13; have Bg16_14 := Aside0.mk (blk_below Bg16_13.out hb); clear Bg16_13; have Bg19_14 := Aside0.mk (blk_below Bg19_13.out hb); clear Bg19_13; clear hb))
      clear hq1
      clear hwm
      refine wp_region_rg (by kernel_rfl) (fun x y => Below x.heap.size x y) (fun (i : Nat) (v : Value) (w1 : World) => match i with | 0 => v = (.pointer (some ⟨gk, 0, none⟩)) | 1 => v = (.agg #[.int .i64 p, .int .u64 sh, .int .u64 sl, .int .u64 dh, .int .u64 dl, .int .i64 sp, .int .i64 dp]) | 2 => v = (.int .i64 now) | 3 => v = (.int .u32 nn) | 4 => v = (.bool ((nn == s2))) | 5 => v = (.bool ((nn == s2))) | 6 => v = (.bool true) | 7 => v = (.bool true) | 8 => v = (.pointer (some ⟨gk, 0, none⟩)) | 9 => v = (.agg #[.int .i64 p, .int .u64 sh, .int .u64 sl, .int .u64 dh, .int .u64 dl, .int .i64 sp, .int .i64 dp]) | 10 => v = (.int .i64 now) | 11 => v = (.int .u32 t1) | 12 => v = (.agg #[.int .u64 ta, .int .u64 tb]) | 13 => v = (.agg #[.int .i64 p, .int .u64 sh, .int .u64 sl, .int .u64 dh, .int .u64 dl, .int .i64 sp, .int .i64 dp]) | 14 => v = (.int .i64 (now / 16)) | 15 => v = (.int .u32 t1) | 16 => v = (.bool true) | 17 => v = (.bool true) | 18 => v = (.bool true) | _ => True) (by kernel_rfl) (by kernel_rfl) below_tr (Below.refl _ _).drew ?hJst5 (obl_list ?hObl5) ?hEnd5
      case hJst5 =>
        intro i v wx wy hi hs0 hs1 hJi
        match i, hi with
        | 0, _ => exact hJi
        | 1, _ => exact hJi
        | 2, _ => exact hJi
        | 3, _ => exact hJi
        | 4, _ => exact hJi
        | 5, _ => exact hJi
        | 6, _ => exact hJi
        | 7, _ => exact hJi
        | 8, _ => exact hJi
        | 9, _ => exact hJi
        | 10, _ => exact hJi
        | 11, _ => exact hJi
        | 12, _ => exact hJi
        | 13, _ => exact hJi
        | 14, _ => exact hJi
        | 15, _ => exact hJi
        | 16, _ => exact hJi
        | 17, _ => exact hJi
        | 18, _ => exact hJi
        | _ + 19, hi => exact absurd hi (by simp)
      case hObl5 =>
        refine ⟨?_, ?_, ?_, ?_, ?_, ?_, ?_, ?_, ?_, ?_, ?_, ?_, ?_, ?_, ?_, ?_, ?_, ?_, ?_,  trivial⟩
        · intro listed vals a wq K hD hst hj haft hun hK
          have h15 := hD.out 15 rfl rfl
          clear hD hj haft hun
          have e15 := eval_of h15
          refine step_now (v := .pointer (some ⟨gk, 0, none⟩)) (w' := wq) (wanted_free rfl) ?_ (hK _ _ (Below.refl _ _) rfl)
          clear hK
          first | (go_simp; done) | (go_simp; rfl)
        · intro listed vals a wq K hD hst hj haft hun hK
          have h9 := hD.out 9 rfl rfl
          replace hst : Below _ _ wq := hst
          clear hD hj haft hun
          have e9 := eval_of h9
          exact step_now (v := .agg #[.int .i64 p, .int .u64 sh, .int .u64 sl, .int .u64 dh, .int .u64 dl, .int .i64 sp, .int .i64 dp]) (w' := wq) (wanted_free rfl) (rg_loadall rfl e9 (blk_below Bg9_14.out hst) Try.underlying29 rfl (by kernel_rfl)) (hK _ _ (Below.refl _ _) rfl)
        · intro listed vals a wq K hD hst hj haft hun hK
          have h4 := hD.out 4 rfl rfl
          clear hD hj haft hun
          have e4 := eval_of h4
          refine step_now (v := .int .i64 now) (w' := wq) (wanted_free rfl) ?_ (hK _ _ (Below.refl _ _) rfl)
          clear hK
          first | (go_simp; done) | (go_simp; rfl) | (go_simp; (try simp only [IntKind.wrap_u32]); omega)
        · intro listed vals a wq K hD hst hj haft hun hK
          have h5 := hD.out 5 rfl rfl
          clear hD hj haft hun
          have e5 := eval_of h5
          refine step_now (v := .int .u32 nn) (w' := wq) (wanted_free rfl) ?_ (hK _ _ (Below.refl _ _) rfl)
          clear hK
          first | (go_simp; done) | (go_simp; rfl) | (go_simp; (try simp only [IntKind.wrap_u32]); omega)
        · intro listed vals a wq K hD hst hj haft hun hK
          obtain ⟨v73, h73, j73⟩ := hD.dep hj haft 0 73 rfl rfl
          replace j73 : v73 = (.pointer (some ⟨gk, 0, none⟩)) := j73
          subst j73
          obtain ⟨v74, h74, j74⟩ := hD.dep hj haft 1 74 rfl rfl
          replace j74 : v74 = (.agg #[.int .i64 p, .int .u64 sh, .int .u64 sl, .int .u64 dh, .int .u64 dl, .int .i64 sp, .int .i64 dp]) := j74
          subst j74
          obtain ⟨v75, h75, j75⟩ := hD.dep hj haft 2 75 rfl rfl
          replace j75 : v75 = (.int .i64 now) := j75
          subst j75
          obtain ⟨v76, h76, j76⟩ := hD.dep hj haft 3 76 rfl rfl
          replace j76 : v76 = (.int .u32 nn) := j76
          subst j76
          replace hst : Below _ _ wq := hst
          clear hD hj haft hun
          have e73 := eval_of h73
          have e74 := eval_of h74
          have e75 := eval_of h75
          have e76 := eval_of h76
          refine step_call (f := 22) (args := #[.pointer (some ⟨gk, 0, none⟩), .agg #[.int .i64 p, .int .u64 sh, .int .u64 sl, .int .u64 dh, .int .u64 dl, .int .i64 sp, .int .i64 dp], .int .i64 now, .int .u32 nn]) (wanted_free rfl) ?_ (check2_w gk gr2 ta tb sa sb tl p sh sl dh dl sp dp now nn ((nn == s2)) (by rw [HWM.out, HT1.out, HT2.out, HS1.out, HS2.out]; exact ((old2 _ _ _ _ _ _ HGT.out).trans (by rw [HQhq7.out, HQhq1.out]; rfl))) wq (Keep.below ⟨Bgk_14.out, Bgr2_14.out⟩ hst)) ?_
          · clear hK; first | (go_simp; done) | (go_simp; rfl)
          · rintro e w' ⟨he, hbq⟩; exact ⟨_, he, hK _ _ hbq rfl⟩
        · intro listed vals a wq K hD hst hj haft hun hK
          have h18 := hD.out 18 rfl rfl
          clear hD hj haft hun
          have e18 := eval_of h18
          refine step_now (v := .bool ((nn == s2))) (w' := wq) (wanted_free rfl) ?_ (hK _ _ (Below.refl _ _) rfl)
          clear hK
          first | (go_simp; done) | (go_simp; rfl)
        · intro listed vals a wq K hD hst hj haft hun hK
          obtain ⟨v77, h77, j77⟩ := hD.dep hj haft 4 77 rfl rfl
          replace j77 : v77 = (.bool ((nn == s2))) := j77
          subst j77
          obtain ⟨v78, h78, j78⟩ := hD.dep hj haft 5 78 rfl rfl
          replace j78 : v78 = (.bool ((nn == s2))) := j78
          subst j78
          clear hD hj haft hun
          have e77 := eval_of h77
          have e78 := eval_of h78
          refine step_now (v := .bool true) (w' := wq) (wanted_free rfl) ?_ (hK _ _ (Below.refl _ _) rfl)
          clear hK
          first | (go_simp; done) | (go_simp; rfl)
        · intro listed vals a wq K hD hst hj haft hun hK
          obtain ⟨v79, h79, j79⟩ := hD.dep hj haft 6 79 rfl rfl
          replace j79 : v79 = (.bool true) := j79
          subst j79
          clear hD hj haft hun
          have e79 := eval_of h79
          refine step_now (v := .bool true) (w' := wq) (wanted_free rfl) ?_ (hK _ _ (Below.refl _ _) rfl)
          clear hK
          first | (go_simp; done) | (go_simp; rfl)
        · intro listed vals a wq K hD hst hj haft hun hK
          obtain ⟨v80, h80, j80⟩ := hD.dep hj haft 7 80 rfl rfl
          replace j80 : v80 = (.bool true) := j80
          subst j80
          have h15 := hD.out 15 rfl rfl
          clear hD hj haft hun
          have e15 := eval_of h15
          refine step_now (v := .pointer (some ⟨gk, 0, none⟩)) (w' := wq) (wanted_on (t := 80) (u := true) rfl rfl rfl h80) ?_ (hK _ _ (Below.refl _ _) rfl)
          clear hK
          first | (go_simp; done) | (go_simp; rfl)
        · intro listed vals a wq K hD hst hj haft hun hK
          obtain ⟨v80, h80, j80⟩ := hD.dep hj haft 7 80 rfl rfl
          replace j80 : v80 = (.bool true) := j80
          subst j80
          have h9 := hD.out 9 rfl rfl
          replace hst : Below _ _ wq := hst
          clear hD hj haft hun
          have e9 := eval_of h9
          exact step_now (v := .agg #[.int .i64 p, .int .u64 sh, .int .u64 sl, .int .u64 dh, .int .u64 dl, .int .i64 sp, .int .i64 dp]) (w' := wq) (wanted_on (t := 80) (u := true) rfl rfl rfl h80) (rg_loadall rfl e9 (blk_below Bg9_14.out hst) Try.underlying29 rfl (by kernel_rfl)) (hK _ _ (Below.refl _ _) rfl)
        · intro listed vals a wq K hD hst hj haft hun hK
          obtain ⟨v80, h80, j80⟩ := hD.dep hj haft 7 80 rfl rfl
          replace j80 : v80 = (.bool true) := j80
          subst j80
          have h4 := hD.out 4 rfl rfl
          clear hD hj haft hun
          have e4 := eval_of h4
          refine step_now (v := .int .i64 now) (w' := wq) (wanted_on (t := 80) (u := true) rfl rfl rfl h80) ?_ (hK _ _ (Below.refl _ _) rfl)
          clear hK
          first | (go_simp; done) | (go_simp; rfl) | (go_simp; (try simp only [IntKind.wrap_u32]); omega)
        · intro listed vals a wq K hD hst hj haft hun hK
          obtain ⟨v81, h81, j81⟩ := hD.dep hj haft 8 81 rfl rfl
          replace j81 : v81 = (.pointer (some ⟨gk, 0, none⟩)) := j81
          subst j81
          obtain ⟨v82, h82, j82⟩ := hD.dep hj haft 9 82 rfl rfl
          replace j82 : v82 = (.agg #[.int .i64 p, .int .u64 sh, .int .u64 sl, .int .u64 dh, .int .u64 dl, .int .i64 sp, .int .i64 dp]) := j82
          subst j82
          obtain ⟨v83, h83, j83⟩ := hD.dep hj haft 10 83 rfl rfl
          replace j83 : v83 = (.int .i64 now) := j83
          subst j83
          obtain ⟨v80, h80, j80⟩ := hD.dep hj haft 7 80 rfl rfl
          replace j80 : v80 = (.bool true) := j80
          subst j80
          replace hst : Below _ _ wq := hst
          clear hD hj haft hun
          have e81 := eval_of h81
          have e82 := eval_of h82
          have e83 := eval_of h83
          refine step_call (f := 23) (args := #[.pointer (some ⟨gk, 0, none⟩), .agg #[.int .i64 p, .int .u64 sh, .int .u64 sl, .int .u64 dh, .int .u64 dl, .int .i64 sp, .int .i64 dp], .int .i64 now]) (wanted_on (t := 80) (u := true) rfl rfl rfl h80) ?_ (make_any gk gr2 2 (by decide) ta tb #[.int .u64 ta, .int .u64 tb, .int .u64 sa, .int .u64 sb] rfl tl p sh sl dh dl sp dp now t1 HT1.out wq (Keep.below ⟨Bgk_14.out, Bgr2_14.out⟩ hst)) ?_
          · clear hK; first | (go_simp; done) | (go_simp; rfl)
          · rintro e w' ⟨he, hbq⟩; exact ⟨_, he, hK _ _ hbq rfl⟩
        · intro listed vals a wq K hD hst hj haft hun hK
          obtain ⟨v80, h80, j80⟩ := hD.dep hj haft 7 80 rfl rfl
          replace j80 : v80 = (.bool true) := j80
          subst j80
          have h16 := hD.out 16 rfl rfl
          replace hst : Below _ _ wq := hst
          clear hD hj haft hun
          have e16 := eval_of h16
          exact step_now (v := .agg #[.int .u64 ta, .int .u64 tb]) (w' := wq) (wanted_on (t := 80) (u := true) rfl rfl rfl h80) (rg_loadall rfl e16 (blk_below Bg16_14.out hst) Try.underlying30 rfl (by kernel_rfl)) (hK _ _ (Below.refl _ _) rfl)
        · intro listed vals a wq K hD hst hj haft hun hK
          obtain ⟨v80, h80, j80⟩ := hD.dep hj haft 7 80 rfl rfl
          replace j80 : v80 = (.bool true) := j80
          subst j80
          have h9 := hD.out 9 rfl rfl
          replace hst : Below _ _ wq := hst
          clear hD hj haft hun
          have e9 := eval_of h9
          exact step_now (v := .agg #[.int .i64 p, .int .u64 sh, .int .u64 sl, .int .u64 dh, .int .u64 dl, .int .i64 sp, .int .i64 dp]) (w' := wq) (wanted_on (t := 80) (u := true) rfl rfl rfl h80) (rg_loadall rfl e9 (blk_below Bg9_14.out hst) Try.underlying29 rfl (by kernel_rfl)) (hK _ _ (Below.refl _ _) rfl)
        · intro listed vals a wq K hD hst hj haft hun hK
          obtain ⟨v80, h80, j80⟩ := hD.dep hj haft 7 80 rfl rfl
          replace j80 : v80 = (.bool true) := j80
          subst j80
          have h17 := hD.out 17 rfl rfl
          clear hD hj haft hun
          have e17 := eval_of h17
          refine step_now (v := .int .i64 (now / 16)) (w' := wq) (wanted_on (t := 80) (u := true) rfl rfl rfl h80) ?_ (hK _ _ (Below.refl _ _) rfl)
          clear hK
          first | (go_simp; done) | (go_simp; rfl) | (go_simp; (try simp only [IntKind.wrap_u32]); omega)
        · intro listed vals a wq K hD hst hj haft hun hK
          obtain ⟨v85, h85, j85⟩ := hD.dep hj haft 12 85 rfl rfl
          replace j85 : v85 = (.agg #[.int .u64 ta, .int .u64 tb]) := j85
          subst j85
          obtain ⟨v86, h86, j86⟩ := hD.dep hj haft 13 86 rfl rfl
          replace j86 : v86 = (.agg #[.int .i64 p, .int .u64 sh, .int .u64 sl, .int .u64 dh, .int .u64 dl, .int .i64 sp, .int .i64 dp]) := j86
          subst j86
          obtain ⟨v87, h87, j87⟩ := hD.dep hj haft 14 87 rfl rfl
          replace j87 : v87 = (.int .i64 (now / 16)) := j87
          subst j87
          obtain ⟨v80, h80, j80⟩ := hD.dep hj haft 7 80 rfl rfl
          replace j80 : v80 = (.bool true) := j80
          subst j80
          clear hD hj haft hun
          have e85 := eval_of h85
          have e86 := eval_of h86
          have e87 := eval_of h87
          refine step_call (f := 14) (args := #[.agg #[.int .u64 ta, .int .u64 tb], .agg #[.int .i64 p, .int .u64 sh, .int .u64 sl, .int .u64 dh, .int .u64 dl, .int .i64 sp, .int .i64 dp], .int .i64 (now / 16)]) (wanted_on (t := 80) (u := true) rfl rfl rfl h80) ?_ (rcookie_w ta tb p sh sl dh dl sp dp (now / 16) t1 HT1.out wq) ?_
          · clear hK; first | (go_simp; done) | (go_simp; rfl)
          · rintro e w' ⟨he, hbq⟩; exact ⟨_, he, hK _ _ hbq rfl⟩
        · intro listed vals a wq K hD hst hj haft hun hK
          obtain ⟨v84, h84, j84⟩ := hD.dep hj haft 11 84 rfl rfl
          replace j84 : v84 = (.int .u32 t1) := j84
          subst j84
          obtain ⟨v88, h88, j88⟩ := hD.dep hj haft 15 88 rfl rfl
          replace j88 : v88 = (.int .u32 t1) := j88
          subst j88
          obtain ⟨v80, h80, j80⟩ := hD.dep hj haft 7 80 rfl rfl
          replace j80 : v80 = (.bool true) := j80
          subst j80
          clear hD hj haft hun
          have e84 := eval_of h84
          have e88 := eval_of h88
          refine step_now (v := .bool true) (w' := wq) (wanted_on (t := 80) (u := true) rfl rfl rfl h80) ?_ (hK _ _ (Below.refl _ _) rfl)
          clear hK
          first | (go_simp; done) | (go_simp; rfl)
        · intro listed vals a wq K hD hst hj haft hun hK
          obtain ⟨v80, h80, j80⟩ := hD.dep hj haft 7 80 rfl rfl
          replace j80 : v80 = (.bool true) := j80
          subst j80
          obtain ⟨v89, h89, j89⟩ := hD.dep hj haft 16 89 rfl rfl
          replace j89 : v89 = (.bool true) := j89
          subst j89
          clear hD hj haft hun
          have e80 := eval_of h80
          have e89 := eval_of h89
          refine step_now (v := .bool true) (w' := wq) (wanted_free rfl) ?_ (hK _ _ (Below.refl _ _) rfl)
          clear hK
          first | (go_simp; done) | (go_simp; rfl)
        · intro listed vals a wq K hD hst hj haft hun hK
          obtain ⟨v90, h90, j90⟩ := hD.dep hj haft 17 90 rfl rfl
          replace j90 : v90 = (.bool true) := j90
          subst j90
          clear hD hj haft hun
          have e90 := eval_of h90
          refine step_now (v := .bool true) (w' := wq) (wanted_free rfl) ?_ (hK _ _ (Below.refl _ _) rfl)
          clear hK
          first | (go_simp; done) | (go_simp; rfl)
      intro vals wend hst hj
      have j0 : vals 0 = (.pointer (some ⟨gk, 0, none⟩)) := hj 0 (by decide)
      have j1 : vals 1 = (.agg #[.int .i64 p, .int .u64 sh, .int .u64 sl, .int .u64 dh, .int .u64 dl, .int .i64 sp, .int .i64 dp]) := hj 1 (by decide)
      have j2 : vals 2 = (.int .i64 now) := hj 2 (by decide)
      have j3 : vals 3 = (.int .u32 nn) := hj 3 (by decide)
      have j4 : vals 4 = (.bool ((nn == s2))) := hj 4 (by decide)
      have j5 : vals 5 = (.bool ((nn == s2))) := hj 5 (by decide)
      have j6 : vals 6 = (.bool true) := hj 6 (by decide)
      have j7 : vals 7 = (.bool true) := hj 7 (by decide)
      have j8 : vals 8 = (.pointer (some ⟨gk, 0, none⟩)) := hj 8 (by decide)
      have j9 : vals 9 = (.agg #[.int .i64 p, .int .u64 sh, .int .u64 sl, .int .u64 dh, .int .u64 dl, .int .i64 sp, .int .i64 dp]) := hj 9 (by decide)
      have j10 : vals 10 = (.int .i64 now) := hj 10 (by decide)
      have j11 : vals 11 = (.int .u32 t1) := hj 11 (by decide)
      have j12 : vals 12 = (.agg #[.int .u64 ta, .int .u64 tb]) := hj 12 (by decide)
      have j13 : vals 13 = (.agg #[.int .i64 p, .int .u64 sh, .int .u64 sl, .int .u64 dh, .int .u64 dl, .int .i64 sp, .int .i64 dp]) := hj 13 (by decide)
      have j14 : vals 14 = (.int .i64 (now / 16)) := hj 14 (by decide)
      have j15 : vals 15 = (.int .u32 t1) := hj 15 (by decide)
      have j16 : vals 16 = (.bool true) := hj 16 (by decide)
      have j17 : vals 17 = (.bool true) := hj 17 (by decide)
      have j18 : vals 18 = (.bool true) := hj 18 (by decide)
      replace hst : Below _ _ wend := hst
      clear hj
      rw [putAll_list]
      simp only [putL, Act.put, List.setIfInBounds_toArray, List.set_cons_zero, List.set_cons_succ, j0, j1, j2, j3, j4, j5, j6, j7, j8, j9, j10, j11, j12, j13, j14, j15, j16, j17, j18]
      clear j0 j1 j2 j3 j4 j5 j6 j7 j8 j9 j10 j11 j12 j13 j14 j15 j16 j17 j18
      have HBF := Aside0.mk (below_step HB_14.out hst)
      clear hst
      go_wp2
      go_ret
      exact ⟨rfl, HBF.out⟩
    have HQhq7 := Aside0.mk hq7
    have HQhq1 := Aside0.mk hq1
    clear hq7
    go_upto_region 11 with (first | ((with_reducible refine gate_dst (N := 58) rfl ?_); (refine gate_guard (by rfl) ?_; dsimp only); refine load_event rfl 30 _ rfl g19 rfl _ _ _ Bg19_12.out Try.underlying30 rfl (by kernel_rfl) ?_) | ((with_reducible refine gate_dst (N := 59) rfl ?_); (refine gate_guard (by rfl) ?_; dsimp only); refine load_event rfl 29 _ rfl g9 rfl _ _ _ Bg9_12.out Try.underlying29 rfl (by kernel_rfl) ?_) | (go_at_call 14; with_reducible refine (rcookie_w sa sb p sh sl dh dl sp dp (now / 16) s1 HS1.out _).mono ?_; rintro e wx13 ⟨rfl, hb⟩; have HB_13 := Aside0.mk (below_step HB_12.out hb); clear HB_12; have Bg7_13 := Aside0.mk (blk_below Bg7_12.out hb); clear Bg7_12; have Bg8_13 := Aside0.mk (blk_below Bg8_12.out hb); clear Bg8_12; have Bg9_13 := Aside0.mk (blk_below Bg9_12.out hb); clear Bg9_12; have Bgk_13 := Aside0.mk (blk_below Bgk_12.out hb); clear Bgk_12; have Bgr2_13 := Aside0.mk (blk_below Bgr2_12.out hb); clear Bgr2_12; have Bg16_13 := Aside0.mk (blk_below Bg16_12.out hb); clear Bg16_12; have Bg19_13 := Aside0.mk (blk_below Bg19_12.out hb); clear Bg19_12; clear hb))
    clear hq1
    clear hwm
    refine wp_region_rg (by kernel_rfl) (fun x y => Below x.heap.size x y) (fun (i : Nat) (v : Value) (w1 : World) => match i with | 0 => v = (.pointer (some ⟨gk, 0, none⟩)) | 1 => v = (.agg #[.int .i64 p, .int .u64 sh, .int .u64 sl, .int .u64 dh, .int .u64 dl, .int .i64 sp, .int .i64 dp]) | 2 => v = (.int .i64 now) | 3 => v = (.int .u32 nn) | 4 => v = (.bool (true)) | 5 => v = (.bool (true)) | 6 => v = (.bool true) | 7 => v = (.bool true) | 8 => v = (.pointer (some ⟨gk, 0, none⟩)) | 9 => v = (.agg #[.int .i64 p, .int .u64 sh, .int .u64 sl, .int .u64 dh, .int .u64 dl, .int .i64 sp, .int .i64 dp]) | 10 => v = (.int .i64 now) | 11 => v = (.int .u32 t1) | 12 => v = (.agg #[.int .u64 ta, .int .u64 tb]) | 13 => v = (.agg #[.int .i64 p, .int .u64 sh, .int .u64 sl, .int .u64 dh, .int .u64 dl, .int .i64 sp, .int .i64 dp]) | 14 => v = (.int .i64 (now / 16)) | 15 => v = (.int .u32 t1) | 16 => v = (.bool true) | 17 => v = (.bool true) | 18 => v = (.bool true) | _ => True) (by kernel_rfl) (by kernel_rfl) below_tr (Below.refl _ _).drew ?hJst6 (obl_list ?hObl6) ?hEnd6
    case hJst6 =>
      intro i v wx wy hi hs0 hs1 hJi
      match i, hi with
      | 0, _ => exact hJi
      | 1, _ => exact hJi
      | 2, _ => exact hJi
      | 3, _ => exact hJi
      | 4, _ => exact hJi
      | 5, _ => exact hJi
      | 6, _ => exact hJi
      | 7, _ => exact hJi
      | 8, _ => exact hJi
      | 9, _ => exact hJi
      | 10, _ => exact hJi
      | 11, _ => exact hJi
      | 12, _ => exact hJi
      | 13, _ => exact hJi
      | 14, _ => exact hJi
      | 15, _ => exact hJi
      | 16, _ => exact hJi
      | 17, _ => exact hJi
      | 18, _ => exact hJi
      | _ + 19, hi => exact absurd hi (by simp)
    case hObl6 =>
      refine ⟨?_, ?_, ?_, ?_, ?_, ?_, ?_, ?_, ?_, ?_, ?_, ?_, ?_, ?_, ?_, ?_, ?_, ?_, ?_,  trivial⟩
      · intro listed vals a wq K hD hst hj haft hun hK
        have h15 := hD.out 15 rfl rfl
        clear hD hj haft hun
        have e15 := eval_of h15
        refine step_now (v := .pointer (some ⟨gk, 0, none⟩)) (w' := wq) (wanted_free rfl) ?_ (hK _ _ (Below.refl _ _) rfl)
        clear hK
        first | (go_simp; done) | (go_simp; rfl)
      · intro listed vals a wq K hD hst hj haft hun hK
        have h9 := hD.out 9 rfl rfl
        replace hst : Below _ _ wq := hst
        clear hD hj haft hun
        have e9 := eval_of h9
        exact step_now (v := .agg #[.int .i64 p, .int .u64 sh, .int .u64 sl, .int .u64 dh, .int .u64 dl, .int .i64 sp, .int .i64 dp]) (w' := wq) (wanted_free rfl) (rg_loadall rfl e9 (blk_below Bg9_13.out hst) Try.underlying29 rfl (by kernel_rfl)) (hK _ _ (Below.refl _ _) rfl)
      · intro listed vals a wq K hD hst hj haft hun hK
        have h4 := hD.out 4 rfl rfl
        clear hD hj haft hun
        have e4 := eval_of h4
        refine step_now (v := .int .i64 now) (w' := wq) (wanted_free rfl) ?_ (hK _ _ (Below.refl _ _) rfl)
        clear hK
        first | (go_simp; done) | (go_simp; rfl) | (go_simp; (try simp only [IntKind.wrap_u32]); omega)
      · intro listed vals a wq K hD hst hj haft hun hK
        have h5 := hD.out 5 rfl rfl
        clear hD hj haft hun
        have e5 := eval_of h5
        refine step_now (v := .int .u32 nn) (w' := wq) (wanted_free rfl) ?_ (hK _ _ (Below.refl _ _) rfl)
        clear hK
        first | (go_simp; done) | (go_simp; rfl) | (go_simp; (try simp only [IntKind.wrap_u32]); omega)
      · intro listed vals a wq K hD hst hj haft hun hK
        obtain ⟨v73, h73, j73⟩ := hD.dep hj haft 0 73 rfl rfl
        replace j73 : v73 = (.pointer (some ⟨gk, 0, none⟩)) := j73
        subst j73
        obtain ⟨v74, h74, j74⟩ := hD.dep hj haft 1 74 rfl rfl
        replace j74 : v74 = (.agg #[.int .i64 p, .int .u64 sh, .int .u64 sl, .int .u64 dh, .int .u64 dl, .int .i64 sp, .int .i64 dp]) := j74
        subst j74
        obtain ⟨v75, h75, j75⟩ := hD.dep hj haft 2 75 rfl rfl
        replace j75 : v75 = (.int .i64 now) := j75
        subst j75
        obtain ⟨v76, h76, j76⟩ := hD.dep hj haft 3 76 rfl rfl
        replace j76 : v76 = (.int .u32 nn) := j76
        subst j76
        replace hst : Below _ _ wq := hst
        clear hD hj haft hun
        have e73 := eval_of h73
        have e74 := eval_of h74
        have e75 := eval_of h75
        have e76 := eval_of h76
        refine step_call (f := 22) (args := #[.pointer (some ⟨gk, 0, none⟩), .agg #[.int .i64 p, .int .u64 sh, .int .u64 sl, .int .u64 dh, .int .u64 dl, .int .i64 sp, .int .i64 dp], .int .i64 now, .int .u32 nn]) (wanted_free rfl) ?_ (check2_w gk gr2 ta tb sa sb tl p sh sl dh dl sp dp now nn (true) (by rw [HWM.out, HT1.out, HT2.out, HS1.out, HS2.out]; exact ((old2 _ _ _ _ _ _ HGT.out).trans (by rw [HQhq7.out, HQhq1.out]; rfl))) wq (Keep.below ⟨Bgk_13.out, Bgr2_13.out⟩ hst)) ?_
        · clear hK; first | (go_simp; done) | (go_simp; rfl)
        · rintro e w' ⟨he, hbq⟩; exact ⟨_, he, hK _ _ hbq rfl⟩
      · intro listed vals a wq K hD hst hj haft hun hK
        have h18 := hD.out 18 rfl rfl
        clear hD hj haft hun
        have e18 := eval_of h18
        refine step_now (v := .bool (true)) (w' := wq) (wanted_free rfl) ?_ (hK _ _ (Below.refl _ _) rfl)
        clear hK
        first | (go_simp; done) | (go_simp; rfl)
      · intro listed vals a wq K hD hst hj haft hun hK
        obtain ⟨v77, h77, j77⟩ := hD.dep hj haft 4 77 rfl rfl
        replace j77 : v77 = (.bool (true)) := j77
        subst j77
        obtain ⟨v78, h78, j78⟩ := hD.dep hj haft 5 78 rfl rfl
        replace j78 : v78 = (.bool (true)) := j78
        subst j78
        clear hD hj haft hun
        have e77 := eval_of h77
        have e78 := eval_of h78
        refine step_now (v := .bool true) (w' := wq) (wanted_free rfl) ?_ (hK _ _ (Below.refl _ _) rfl)
        clear hK
        first | (go_simp; done) | (go_simp; rfl)
      · intro listed vals a wq K hD hst hj haft hun hK
        obtain ⟨v79, h79, j79⟩ := hD.dep hj haft 6 79 rfl rfl
        replace j79 : v79 = (.bool true) := j79
        subst j79
        clear hD hj haft hun
        have e79 := eval_of h79
        refine step_now (v := .bool true) (w' := wq) (wanted_free rfl) ?_ (hK _ _ (Below.refl _ _) rfl)
        clear hK
        first | (go_simp; done) | (go_simp; rfl)
      · intro listed vals a wq K hD hst hj haft hun hK
        obtain ⟨v80, h80, j80⟩ := hD.dep hj haft 7 80 rfl rfl
        replace j80 : v80 = (.bool true) := j80
        subst j80
        have h15 := hD.out 15 rfl rfl
        clear hD hj haft hun
        have e15 := eval_of h15
        refine step_now (v := .pointer (some ⟨gk, 0, none⟩)) (w' := wq) (wanted_on (t := 80) (u := true) rfl rfl rfl h80) ?_ (hK _ _ (Below.refl _ _) rfl)
        clear hK
        first | (go_simp; done) | (go_simp; rfl)
      · intro listed vals a wq K hD hst hj haft hun hK
        obtain ⟨v80, h80, j80⟩ := hD.dep hj haft 7 80 rfl rfl
        replace j80 : v80 = (.bool true) := j80
        subst j80
        have h9 := hD.out 9 rfl rfl
        replace hst : Below _ _ wq := hst
        clear hD hj haft hun
        have e9 := eval_of h9
        exact step_now (v := .agg #[.int .i64 p, .int .u64 sh, .int .u64 sl, .int .u64 dh, .int .u64 dl, .int .i64 sp, .int .i64 dp]) (w' := wq) (wanted_on (t := 80) (u := true) rfl rfl rfl h80) (rg_loadall rfl e9 (blk_below Bg9_13.out hst) Try.underlying29 rfl (by kernel_rfl)) (hK _ _ (Below.refl _ _) rfl)
      · intro listed vals a wq K hD hst hj haft hun hK
        obtain ⟨v80, h80, j80⟩ := hD.dep hj haft 7 80 rfl rfl
        replace j80 : v80 = (.bool true) := j80
        subst j80
        have h4 := hD.out 4 rfl rfl
        clear hD hj haft hun
        have e4 := eval_of h4
        refine step_now (v := .int .i64 now) (w' := wq) (wanted_on (t := 80) (u := true) rfl rfl rfl h80) ?_ (hK _ _ (Below.refl _ _) rfl)
        clear hK
        first | (go_simp; done) | (go_simp; rfl) | (go_simp; (try simp only [IntKind.wrap_u32]); omega)
      · intro listed vals a wq K hD hst hj haft hun hK
        obtain ⟨v81, h81, j81⟩ := hD.dep hj haft 8 81 rfl rfl
        replace j81 : v81 = (.pointer (some ⟨gk, 0, none⟩)) := j81
        subst j81
        obtain ⟨v82, h82, j82⟩ := hD.dep hj haft 9 82 rfl rfl
        replace j82 : v82 = (.agg #[.int .i64 p, .int .u64 sh, .int .u64 sl, .int .u64 dh, .int .u64 dl, .int .i64 sp, .int .i64 dp]) := j82
        subst j82
        obtain ⟨v83, h83, j83⟩ := hD.dep hj haft 10 83 rfl rfl
        replace j83 : v83 = (.int .i64 now) := j83
        subst j83
        obtain ⟨v80, h80, j80⟩ := hD.dep hj haft 7 80 rfl rfl
        replace j80 : v80 = (.bool true) := j80
        subst j80
        replace hst : Below _ _ wq := hst
        clear hD hj haft hun
        have e81 := eval_of h81
        have e82 := eval_of h82
        have e83 := eval_of h83
        refine step_call (f := 23) (args := #[.pointer (some ⟨gk, 0, none⟩), .agg #[.int .i64 p, .int .u64 sh, .int .u64 sl, .int .u64 dh, .int .u64 dl, .int .i64 sp, .int .i64 dp], .int .i64 now]) (wanted_on (t := 80) (u := true) rfl rfl rfl h80) ?_ (make_any gk gr2 2 (by decide) ta tb #[.int .u64 ta, .int .u64 tb, .int .u64 sa, .int .u64 sb] rfl tl p sh sl dh dl sp dp now t1 HT1.out wq (Keep.below ⟨Bgk_13.out, Bgr2_13.out⟩ hst)) ?_
        · clear hK; first | (go_simp; done) | (go_simp; rfl)
        · rintro e w' ⟨he, hbq⟩; exact ⟨_, he, hK _ _ hbq rfl⟩
      · intro listed vals a wq K hD hst hj haft hun hK
        obtain ⟨v80, h80, j80⟩ := hD.dep hj haft 7 80 rfl rfl
        replace j80 : v80 = (.bool true) := j80
        subst j80
        have h16 := hD.out 16 rfl rfl
        replace hst : Below _ _ wq := hst
        clear hD hj haft hun
        have e16 := eval_of h16
        exact step_now (v := .agg #[.int .u64 ta, .int .u64 tb]) (w' := wq) (wanted_on (t := 80) (u := true) rfl rfl rfl h80) (rg_loadall rfl e16 (blk_below Bg16_13.out hst) Try.underlying30 rfl (by kernel_rfl)) (hK _ _ (Below.refl _ _) rfl)
      · intro listed vals a wq K hD hst hj haft hun hK
        obtain ⟨v80, h80, j80⟩ := hD.dep hj haft 7 80 rfl rfl
        replace j80 : v80 = (.bool true) := j80
        subst j80
        have h9 := hD.out 9 rfl rfl
        replace hst : Below _ _ wq := hst
        clear hD hj haft hun
        have e9 := eval_of h9
        exact step_now (v := .agg #[.int .i64 p, .int .u64 sh, .int .u64 sl, .int .u64 dh, .int .u64 dl, .int .i64 sp, .int .i64 dp]) (w' := wq) (wanted_on (t := 80) (u := true) rfl rfl rfl h80) (rg_loadall rfl e9 (blk_below Bg9_13.out hst) Try.underlying29 rfl (by kernel_rfl)) (hK _ _ (Below.refl _ _) rfl)
      · intro listed vals a wq K hD hst hj haft hun hK
        obtain ⟨v80, h80, j80⟩ := hD.dep hj haft 7 80 rfl rfl
        replace j80 : v80 = (.bool true) := j80
        subst j80
        have h17 := hD.out 17 rfl rfl
        clear hD hj haft hun
        have e17 := eval_of h17
        refine step_now (v := .int .i64 (now / 16)) (w' := wq) (wanted_on (t := 80) (u := true) rfl rfl rfl h80) ?_ (hK _ _ (Below.refl _ _) rfl)
        clear hK
        first | (go_simp; done) | (go_simp; rfl) | (go_simp; (try simp only [IntKind.wrap_u32]); omega)
      · intro listed vals a wq K hD hst hj haft hun hK
        obtain ⟨v85, h85, j85⟩ := hD.dep hj haft 12 85 rfl rfl
        replace j85 : v85 = (.agg #[.int .u64 ta, .int .u64 tb]) := j85
        subst j85
        obtain ⟨v86, h86, j86⟩ := hD.dep hj haft 13 86 rfl rfl
        replace j86 : v86 = (.agg #[.int .i64 p, .int .u64 sh, .int .u64 sl, .int .u64 dh, .int .u64 dl, .int .i64 sp, .int .i64 dp]) := j86
        subst j86
        obtain ⟨v87, h87, j87⟩ := hD.dep hj haft 14 87 rfl rfl
        replace j87 : v87 = (.int .i64 (now / 16)) := j87
        subst j87
        obtain ⟨v80, h80, j80⟩ := hD.dep hj haft 7 80 rfl rfl
        replace j80 : v80 = (.bool true) := j80
        subst j80
        clear hD hj haft hun
        have e85 := eval_of h85
        have e86 := eval_of h86
        have e87 := eval_of h87
        refine step_call (f := 14) (args := #[.agg #[.int .u64 ta, .int .u64 tb], .agg #[.int .i64 p, .int .u64 sh, .int .u64 sl, .int .u64 dh, .int .u64 dl, .int .i64 sp, .int .i64 dp], .int .i64 (now / 16)]) (wanted_on (t := 80) (u := true) rfl rfl rfl h80) ?_ (rcookie_w ta tb p sh sl dh dl sp dp (now / 16) t1 HT1.out wq) ?_
        · clear hK; first | (go_simp; done) | (go_simp; rfl)
        · rintro e w' ⟨he, hbq⟩; exact ⟨_, he, hK _ _ hbq rfl⟩
      · intro listed vals a wq K hD hst hj haft hun hK
        obtain ⟨v84, h84, j84⟩ := hD.dep hj haft 11 84 rfl rfl
        replace j84 : v84 = (.int .u32 t1) := j84
        subst j84
        obtain ⟨v88, h88, j88⟩ := hD.dep hj haft 15 88 rfl rfl
        replace j88 : v88 = (.int .u32 t1) := j88
        subst j88
        obtain ⟨v80, h80, j80⟩ := hD.dep hj haft 7 80 rfl rfl
        replace j80 : v80 = (.bool true) := j80
        subst j80
        clear hD hj haft hun
        have e84 := eval_of h84
        have e88 := eval_of h88
        refine step_now (v := .bool true) (w' := wq) (wanted_on (t := 80) (u := true) rfl rfl rfl h80) ?_ (hK _ _ (Below.refl _ _) rfl)
        clear hK
        first | (go_simp; done) | (go_simp; rfl)
      · intro listed vals a wq K hD hst hj haft hun hK
        obtain ⟨v80, h80, j80⟩ := hD.dep hj haft 7 80 rfl rfl
        replace j80 : v80 = (.bool true) := j80
        subst j80
        obtain ⟨v89, h89, j89⟩ := hD.dep hj haft 16 89 rfl rfl
        replace j89 : v89 = (.bool true) := j89
        subst j89
        clear hD hj haft hun
        have e80 := eval_of h80
        have e89 := eval_of h89
        refine step_now (v := .bool true) (w' := wq) (wanted_free rfl) ?_ (hK _ _ (Below.refl _ _) rfl)
        clear hK
        first | (go_simp; done) | (go_simp; rfl)
      · intro listed vals a wq K hD hst hj haft hun hK
        obtain ⟨v90, h90, j90⟩ := hD.dep hj haft 17 90 rfl rfl
        replace j90 : v90 = (.bool true) := j90
        subst j90
        clear hD hj haft hun
        have e90 := eval_of h90
        refine step_now (v := .bool true) (w' := wq) (wanted_free rfl) ?_ (hK _ _ (Below.refl _ _) rfl)
        clear hK
        first | (go_simp; done) | (go_simp; rfl)
    intro vals wend hst hj
    have j0 : vals 0 = (.pointer (some ⟨gk, 0, none⟩)) := hj 0 (by decide)
    have j1 : vals 1 = (.agg #[.int .i64 p, .int .u64 sh, .int .u64 sl, .int .u64 dh, .int .u64 dl, .int .i64 sp, .int .i64 dp]) := hj 1 (by decide)
    have j2 : vals 2 = (.int .i64 now) := hj 2 (by decide)
    have j3 : vals 3 = (.int .u32 nn) := hj 3 (by decide)
    have j4 : vals 4 = (.bool (true)) := hj 4 (by decide)
    have j5 : vals 5 = (.bool (true)) := hj 5 (by decide)
    have j6 : vals 6 = (.bool true) := hj 6 (by decide)
    have j7 : vals 7 = (.bool true) := hj 7 (by decide)
    have j8 : vals 8 = (.pointer (some ⟨gk, 0, none⟩)) := hj 8 (by decide)
    have j9 : vals 9 = (.agg #[.int .i64 p, .int .u64 sh, .int .u64 sl, .int .u64 dh, .int .u64 dl, .int .i64 sp, .int .i64 dp]) := hj 9 (by decide)
    have j10 : vals 10 = (.int .i64 now) := hj 10 (by decide)
    have j11 : vals 11 = (.int .u32 t1) := hj 11 (by decide)
    have j12 : vals 12 = (.agg #[.int .u64 ta, .int .u64 tb]) := hj 12 (by decide)
    have j13 : vals 13 = (.agg #[.int .i64 p, .int .u64 sh, .int .u64 sl, .int .u64 dh, .int .u64 dl, .int .i64 sp, .int .i64 dp]) := hj 13 (by decide)
    have j14 : vals 14 = (.int .i64 (now / 16)) := hj 14 (by decide)
    have j15 : vals 15 = (.int .u32 t1) := hj 15 (by decide)
    have j16 : vals 16 = (.bool true) := hj 16 (by decide)
    have j17 : vals 17 = (.bool true) := hj 17 (by decide)
    have j18 : vals 18 = (.bool true) := hj 18 (by decide)
    replace hst : Below _ _ wend := hst
    clear hj
    rw [putAll_list]
    simp only [putL, Act.put, List.setIfInBounds_toArray, List.set_cons_zero, List.set_cons_succ, j0, j1, j2, j3, j4, j5, j6, j7, j8, j9, j10, j11, j12, j13, j14, j15, j16, j17, j18]
    clear j0 j1 j2 j3 j4 j5 j6 j7 j8 j9 j10 j11 j12 j13 j14 j15 j16 j17 j18
    have HBF := Aside0.mk (below_step HB_13.out hst)
    clear hst
    go_wp2
    go_ret
    exact ⟨rfl, HBF.out⟩
  have HQhq7 := Aside0.mk hq7
  clear hq7
  go_upto_region 11 with (fail)
  clear hwm
  refine wp_region_rg (by kernel_rfl) (fun x y => Below x.heap.size x y) (fun (i : Nat) (v : Value) (w1 : World) => match i with | 0 => v = (.pointer (some ⟨gk, 0, none⟩)) | 1 => v = (.agg #[.int .i64 p, .int .u64 sh, .int .u64 sl, .int .u64 dh, .int .u64 dl, .int .i64 sp, .int .i64 dp]) | 2 => v = (.int .i64 now) | 3 => v = (.int .u32 nn) | 4 => v = (.bool (true)) | 5 => v = (.bool (true)) | 6 => v = (.bool true) | 7 => v = (.bool true) | 8 => v = (.pointer (some ⟨gk, 0, none⟩)) | 9 => v = (.agg #[.int .i64 p, .int .u64 sh, .int .u64 sl, .int .u64 dh, .int .u64 dl, .int .i64 sp, .int .i64 dp]) | 10 => v = (.int .i64 now) | 11 => v = (.int .u32 t1) | 12 => v = (.agg #[.int .u64 ta, .int .u64 tb]) | 13 => v = (.agg #[.int .i64 p, .int .u64 sh, .int .u64 sl, .int .u64 dh, .int .u64 dl, .int .i64 sp, .int .i64 dp]) | 14 => v = (.int .i64 (now / 16)) | 15 => v = (.int .u32 t1) | 16 => v = (.bool true) | 17 => v = (.bool true) | 18 => v = (.bool true) | _ => True) (by kernel_rfl) (by kernel_rfl) below_tr (Below.refl _ _).drew ?hJst7 (obl_list ?hObl7) ?hEnd7
  case hJst7 =>
    intro i v wx wy hi hs0 hs1 hJi
    match i, hi with
    | 0, _ => exact hJi
    | 1, _ => exact hJi
    | 2, _ => exact hJi
    | 3, _ => exact hJi
    | 4, _ => exact hJi
    | 5, _ => exact hJi
    | 6, _ => exact hJi
    | 7, _ => exact hJi
    | 8, _ => exact hJi
    | 9, _ => exact hJi
    | 10, _ => exact hJi
    | 11, _ => exact hJi
    | 12, _ => exact hJi
    | 13, _ => exact hJi
    | 14, _ => exact hJi
    | 15, _ => exact hJi
    | 16, _ => exact hJi
    | 17, _ => exact hJi
    | 18, _ => exact hJi
    | _ + 19, hi => exact absurd hi (by simp)
  case hObl7 =>
    refine ⟨?_, ?_, ?_, ?_, ?_, ?_, ?_, ?_, ?_, ?_, ?_, ?_, ?_, ?_, ?_, ?_, ?_, ?_, ?_,  trivial⟩
    · intro listed vals a wq K hD hst hj haft hun hK
      have h15 := hD.out 15 rfl rfl
      clear hD hj haft hun
      have e15 := eval_of h15
      refine step_now (v := .pointer (some ⟨gk, 0, none⟩)) (w' := wq) (wanted_free rfl) ?_ (hK _ _ (Below.refl _ _) rfl)
      clear hK
      first | (go_simp; done) | (go_simp; rfl)
    · intro listed vals a wq K hD hst hj haft hun hK
      have h9 := hD.out 9 rfl rfl
      replace hst : Below _ _ wq := hst
      clear hD hj haft hun
      have e9 := eval_of h9
      exact step_now (v := .agg #[.int .i64 p, .int .u64 sh, .int .u64 sl, .int .u64 dh, .int .u64 dl, .int .i64 sp, .int .i64 dp]) (w' := wq) (wanted_free rfl) (rg_loadall rfl e9 (blk_below Bg9_12.out hst) Try.underlying29 rfl (by kernel_rfl)) (hK _ _ (Below.refl _ _) rfl)
    · intro listed vals a wq K hD hst hj haft hun hK
      have h4 := hD.out 4 rfl rfl
      clear hD hj haft hun
      have e4 := eval_of h4
      refine step_now (v := .int .i64 now) (w' := wq) (wanted_free rfl) ?_ (hK _ _ (Below.refl _ _) rfl)
      clear hK
      first | (go_simp; done) | (go_simp; rfl) | (go_simp; (try simp only [IntKind.wrap_u32]); omega)
    · intro listed vals a wq K hD hst hj haft hun hK
      have h5 := hD.out 5 rfl rfl
      clear hD hj haft hun
      have e5 := eval_of h5
      refine step_now (v := .int .u32 nn) (w' := wq) (wanted_free rfl) ?_ (hK _ _ (Below.refl _ _) rfl)
      clear hK
      first | (go_simp; done) | (go_simp; rfl) | (go_simp; (try simp only [IntKind.wrap_u32]); omega)
    · intro listed vals a wq K hD hst hj haft hun hK
      obtain ⟨v73, h73, j73⟩ := hD.dep hj haft 0 73 rfl rfl
      replace j73 : v73 = (.pointer (some ⟨gk, 0, none⟩)) := j73
      subst j73
      obtain ⟨v74, h74, j74⟩ := hD.dep hj haft 1 74 rfl rfl
      replace j74 : v74 = (.agg #[.int .i64 p, .int .u64 sh, .int .u64 sl, .int .u64 dh, .int .u64 dl, .int .i64 sp, .int .i64 dp]) := j74
      subst j74
      obtain ⟨v75, h75, j75⟩ := hD.dep hj haft 2 75 rfl rfl
      replace j75 : v75 = (.int .i64 now) := j75
      subst j75
      obtain ⟨v76, h76, j76⟩ := hD.dep hj haft 3 76 rfl rfl
      replace j76 : v76 = (.int .u32 nn) := j76
      subst j76
      replace hst : Below _ _ wq := hst
      clear hD hj haft hun
      have e73 := eval_of h73
      have e74 := eval_of h74
      have e75 := eval_of h75
      have e76 := eval_of h76
      refine step_call (f := 22) (args := #[.pointer (some ⟨gk, 0, none⟩), .agg #[.int .i64 p, .int .u64 sh, .int .u64 sl, .int .u64 dh, .int .u64 dl, .int .i64 sp, .int .i64 dp], .int .i64 now, .int .u32 nn]) (wanted_free rfl) ?_ (check2_w gk gr2 ta tb sa sb tl p sh sl dh dl sp dp now nn (true) (by rw [HWM.out, HT1.out, HT2.out, HS1.out, HS2.out]; exact ((old2 _ _ _ _ _ _ HGT.out).trans (by rw [HQhq7.out]; rfl))) wq (Keep.below ⟨Bgk_12.out, Bgr2_12.out⟩ hst)) ?_
      · clear hK; first | (go_simp; done) | (go_simp; rfl)
      · rintro e w' ⟨he, hbq⟩; exact ⟨_, he, hK _ _ hbq rfl⟩
    · intro listed vals a wq K hD hst hj haft hun hK
      have h18 := hD.out 18 rfl rfl
      clear hD hj haft hun
      have e18 := eval_of h18
      refine step_now (v := .bool (true)) (w' := wq) (wanted_free rfl) ?_ (hK _ _ (Below.refl _ _) rfl)
      clear hK
      first | (go_simp; done) | (go_simp; rfl)
    · intro listed vals a wq K hD hst hj haft hun hK
      obtain ⟨v77, h77, j77⟩ := hD.dep hj haft 4 77 rfl rfl
      replace j77 : v77 = (.bool (true)) := j77
      subst j77
      obtain ⟨v78, h78, j78⟩ := hD.dep hj haft 5 78 rfl rfl
      replace j78 : v78 = (.bool (true)) := j78
      subst j78
      clear hD hj haft hun
      have e77 := eval_of h77
      have e78 := eval_of h78
      refine step_now (v := .bool true) (w' := wq) (wanted_free rfl) ?_ (hK _ _ (Below.refl _ _) rfl)
      clear hK
      first | (go_simp; done) | (go_simp; rfl)
    · intro listed vals a wq K hD hst hj haft hun hK
      obtain ⟨v79, h79, j79⟩ := hD.dep hj haft 6 79 rfl rfl
      replace j79 : v79 = (.bool true) := j79
      subst j79
      clear hD hj haft hun
      have e79 := eval_of h79
      refine step_now (v := .bool true) (w' := wq) (wanted_free rfl) ?_ (hK _ _ (Below.refl _ _) rfl)
      clear hK
      first | (go_simp; done) | (go_simp; rfl)
    · intro listed vals a wq K hD hst hj haft hun hK
      obtain ⟨v80, h80, j80⟩ := hD.dep hj haft 7 80 rfl rfl
      replace j80 : v80 = (.bool true) := j80
      subst j80
      have h15 := hD.out 15 rfl rfl
      clear hD hj haft hun
      have e15 := eval_of h15
      refine step_now (v := .pointer (some ⟨gk, 0, none⟩)) (w' := wq) (wanted_on (t := 80) (u := true) rfl rfl rfl h80) ?_ (hK _ _ (Below.refl _ _) rfl)
      clear hK
      first | (go_simp; done) | (go_simp; rfl)
    · intro listed vals a wq K hD hst hj haft hun hK
      obtain ⟨v80, h80, j80⟩ := hD.dep hj haft 7 80 rfl rfl
      replace j80 : v80 = (.bool true) := j80
      subst j80
      have h9 := hD.out 9 rfl rfl
      replace hst : Below _ _ wq := hst
      clear hD hj haft hun
      have e9 := eval_of h9
      exact step_now (v := .agg #[.int .i64 p, .int .u64 sh, .int .u64 sl, .int .u64 dh, .int .u64 dl, .int .i64 sp, .int .i64 dp]) (w' := wq) (wanted_on (t := 80) (u := true) rfl rfl rfl h80) (rg_loadall rfl e9 (blk_below Bg9_12.out hst) Try.underlying29 rfl (by kernel_rfl)) (hK _ _ (Below.refl _ _) rfl)
    · intro listed vals a wq K hD hst hj haft hun hK
      obtain ⟨v80, h80, j80⟩ := hD.dep hj haft 7 80 rfl rfl
      replace j80 : v80 = (.bool true) := j80
      subst j80
      have h4 := hD.out 4 rfl rfl
      clear hD hj haft hun
      have e4 := eval_of h4
      refine step_now (v := .int .i64 now) (w' := wq) (wanted_on (t := 80) (u := true) rfl rfl rfl h80) ?_ (hK _ _ (Below.refl _ _) rfl)
      clear hK
      first | (go_simp; done) | (go_simp; rfl) | (go_simp; (try simp only [IntKind.wrap_u32]); omega)
    · intro listed vals a wq K hD hst hj haft hun hK
      obtain ⟨v81, h81, j81⟩ := hD.dep hj haft 8 81 rfl rfl
      replace j81 : v81 = (.pointer (some ⟨gk, 0, none⟩)) := j81
      subst j81
      obtain ⟨v82, h82, j82⟩ := hD.dep hj haft 9 82 rfl rfl
      replace j82 : v82 = (.agg #[.int .i64 p, .int .u64 sh, .int .u64 sl, .int .u64 dh, .int .u64 dl, .int .i64 sp, .int .i64 dp]) := j82
      subst j82
      obtain ⟨v83, h83, j83⟩ := hD.dep hj haft 10 83 rfl rfl
      replace j83 : v83 = (.int .i64 now) := j83
      subst j83
      obtain ⟨v80, h80, j80⟩ := hD.dep hj haft 7 80 rfl rfl
      replace j80 : v80 = (.bool true) := j80
      subst j80
      replace hst : Below _ _ wq := hst
      clear hD hj haft hun
      have e81 := eval_of h81
      have e82 := eval_of h82
      have e83 := eval_of h83
      refine step_call (f := 23) (args := #[.pointer (some ⟨gk, 0, none⟩), .agg #[.int .i64 p, .int .u64 sh, .int .u64 sl, .int .u64 dh, .int .u64 dl, .int .i64 sp, .int .i64 dp], .int .i64 now]) (wanted_on (t := 80) (u := true) rfl rfl rfl h80) ?_ (make_any gk gr2 2 (by decide) ta tb #[.int .u64 ta, .int .u64 tb, .int .u64 sa, .int .u64 sb] rfl tl p sh sl dh dl sp dp now t1 HT1.out wq (Keep.below ⟨Bgk_12.out, Bgr2_12.out⟩ hst)) ?_
      · clear hK; first | (go_simp; done) | (go_simp; rfl)
      · rintro e w' ⟨he, hbq⟩; exact ⟨_, he, hK _ _ hbq rfl⟩
    · intro listed vals a wq K hD hst hj haft hun hK
      obtain ⟨v80, h80, j80⟩ := hD.dep hj haft 7 80 rfl rfl
      replace j80 : v80 = (.bool true) := j80
      subst j80
      have h16 := hD.out 16 rfl rfl
      replace hst : Below _ _ wq := hst
      clear hD hj haft hun
      have e16 := eval_of h16
      exact step_now (v := .agg #[.int .u64 ta, .int .u64 tb]) (w' := wq) (wanted_on (t := 80) (u := true) rfl rfl rfl h80) (rg_loadall rfl e16 (blk_below Bg16_12.out hst) Try.underlying30 rfl (by kernel_rfl)) (hK _ _ (Below.refl _ _) rfl)
    · intro listed vals a wq K hD hst hj haft hun hK
      obtain ⟨v80, h80, j80⟩ := hD.dep hj haft 7 80 rfl rfl
      replace j80 : v80 = (.bool true) := j80
      subst j80
      have h9 := hD.out 9 rfl rfl
      replace hst : Below _ _ wq := hst
      clear hD hj haft hun
      have e9 := eval_of h9
      exact step_now (v := .agg #[.int .i64 p, .int .u64 sh, .int .u64 sl, .int .u64 dh, .int .u64 dl, .int .i64 sp, .int .i64 dp]) (w' := wq) (wanted_on (t := 80) (u := true) rfl rfl rfl h80) (rg_loadall rfl e9 (blk_below Bg9_12.out hst) Try.underlying29 rfl (by kernel_rfl)) (hK _ _ (Below.refl _ _) rfl)
    · intro listed vals a wq K hD hst hj haft hun hK
      obtain ⟨v80, h80, j80⟩ := hD.dep hj haft 7 80 rfl rfl
      replace j80 : v80 = (.bool true) := j80
      subst j80
      have h17 := hD.out 17 rfl rfl
      clear hD hj haft hun
      have e17 := eval_of h17
      refine step_now (v := .int .i64 (now / 16)) (w' := wq) (wanted_on (t := 80) (u := true) rfl rfl rfl h80) ?_ (hK _ _ (Below.refl _ _) rfl)
      clear hK
      first | (go_simp; done) | (go_simp; rfl) | (go_simp; (try simp only [IntKind.wrap_u32]); omega)
    · intro listed vals a wq K hD hst hj haft hun hK
      obtain ⟨v85, h85, j85⟩ := hD.dep hj haft 12 85 rfl rfl
      replace j85 : v85 = (.agg #[.int .u64 ta, .int .u64 tb]) := j85
      subst j85
      obtain ⟨v86, h86, j86⟩ := hD.dep hj haft 13 86 rfl rfl
      replace j86 : v86 = (.agg #[.int .i64 p, .int .u64 sh, .int .u64 sl, .int .u64 dh, .int .u64 dl, .int .i64 sp, .int .i64 dp]) := j86
      subst j86
      obtain ⟨v87, h87, j87⟩ := hD.dep hj haft 14 87 rfl rfl
      replace j87 : v87 = (.int .i64 (now / 16)) := j87
      subst j87
      obtain ⟨v80, h80, j80⟩ := hD.dep hj haft 7 80 rfl rfl
      replace j80 : v80 = (.bool true) := j80
      subst j80
      clear hD hj haft hun
      have e85 := eval_of h85
      have e86 := eval_of h86
      have e87 := eval_of h87
      refine step_call (f := 14) (args := #[.agg #[.int .u64 ta, .int .u64 tb], .agg #[.int .i64 p, .int .u64 sh, .int .u64 sl, .int .u64 dh, .int .u64 dl, .int .i64 sp, .int .i64 dp], .int .i64 (now / 16)]) (wanted_on (t := 80) (u := true) rfl rfl rfl h80) ?_ (rcookie_w ta tb p sh sl dh dl sp dp (now / 16) t1 HT1.out wq) ?_
      · clear hK; first | (go_simp; done) | (go_simp; rfl)
      · rintro e w' ⟨he, hbq⟩; exact ⟨_, he, hK _ _ hbq rfl⟩
    · intro listed vals a wq K hD hst hj haft hun hK
      obtain ⟨v84, h84, j84⟩ := hD.dep hj haft 11 84 rfl rfl
      replace j84 : v84 = (.int .u32 t1) := j84
      subst j84
      obtain ⟨v88, h88, j88⟩ := hD.dep hj haft 15 88 rfl rfl
      replace j88 : v88 = (.int .u32 t1) := j88
      subst j88
      obtain ⟨v80, h80, j80⟩ := hD.dep hj haft 7 80 rfl rfl
      replace j80 : v80 = (.bool true) := j80
      subst j80
      clear hD hj haft hun
      have e84 := eval_of h84
      have e88 := eval_of h88
      refine step_now (v := .bool true) (w' := wq) (wanted_on (t := 80) (u := true) rfl rfl rfl h80) ?_ (hK _ _ (Below.refl _ _) rfl)
      clear hK
      first | (go_simp; done) | (go_simp; rfl)
    · intro listed vals a wq K hD hst hj haft hun hK
      obtain ⟨v80, h80, j80⟩ := hD.dep hj haft 7 80 rfl rfl
      replace j80 : v80 = (.bool true) := j80
      subst j80
      obtain ⟨v89, h89, j89⟩ := hD.dep hj haft 16 89 rfl rfl
      replace j89 : v89 = (.bool true) := j89
      subst j89
      clear hD hj haft hun
      have e80 := eval_of h80
      have e89 := eval_of h89
      refine step_now (v := .bool true) (w' := wq) (wanted_free rfl) ?_ (hK _ _ (Below.refl _ _) rfl)
      clear hK
      first | (go_simp; done) | (go_simp; rfl)
    · intro listed vals a wq K hD hst hj haft hun hK
      obtain ⟨v90, h90, j90⟩ := hD.dep hj haft 17 90 rfl rfl
      replace j90 : v90 = (.bool true) := j90
      subst j90
      clear hD hj haft hun
      have e90 := eval_of h90
      refine step_now (v := .bool true) (w' := wq) (wanted_free rfl) ?_ (hK _ _ (Below.refl _ _) rfl)
      clear hK
      first | (go_simp; done) | (go_simp; rfl)
  intro vals wend hst hj
  have j0 : vals 0 = (.pointer (some ⟨gk, 0, none⟩)) := hj 0 (by decide)
  have j1 : vals 1 = (.agg #[.int .i64 p, .int .u64 sh, .int .u64 sl, .int .u64 dh, .int .u64 dl, .int .i64 sp, .int .i64 dp]) := hj 1 (by decide)
  have j2 : vals 2 = (.int .i64 now) := hj 2 (by decide)
  have j3 : vals 3 = (.int .u32 nn) := hj 3 (by decide)
  have j4 : vals 4 = (.bool (true)) := hj 4 (by decide)
  have j5 : vals 5 = (.bool (true)) := hj 5 (by decide)
  have j6 : vals 6 = (.bool true) := hj 6 (by decide)
  have j7 : vals 7 = (.bool true) := hj 7 (by decide)
  have j8 : vals 8 = (.pointer (some ⟨gk, 0, none⟩)) := hj 8 (by decide)
  have j9 : vals 9 = (.agg #[.int .i64 p, .int .u64 sh, .int .u64 sl, .int .u64 dh, .int .u64 dl, .int .i64 sp, .int .i64 dp]) := hj 9 (by decide)
  have j10 : vals 10 = (.int .i64 now) := hj 10 (by decide)
  have j11 : vals 11 = (.int .u32 t1) := hj 11 (by decide)
  have j12 : vals 12 = (.agg #[.int .u64 ta, .int .u64 tb]) := hj 12 (by decide)
  have j13 : vals 13 = (.agg #[.int .i64 p, .int .u64 sh, .int .u64 sl, .int .u64 dh, .int .u64 dl, .int .i64 sp, .int .i64 dp]) := hj 13 (by decide)
  have j14 : vals 14 = (.int .i64 (now / 16)) := hj 14 (by decide)
  have j15 : vals 15 = (.int .u32 t1) := hj 15 (by decide)
  have j16 : vals 16 = (.bool true) := hj 16 (by decide)
  have j17 : vals 17 = (.bool true) := hj 17 (by decide)
  have j18 : vals 18 = (.bool true) := hj 18 (by decide)
  replace hst : Below _ _ wend := hst
  clear hj
  rw [putAll_list]
  simp only [putL, Act.put, List.setIfInBounds_toArray, List.set_cons_zero, List.set_cons_succ, j0, j1, j2, j3, j4, j5, j6, j7, j8, j9, j10, j11, j12, j13, j14, j15, j16, j17, j18]
  clear j0 j1 j2 j3 j4 j5 j6 j7 j8 j9 j10 j11 j12 j13 j14 j15 j16 j17 j18
  have HBF := Aside0.mk (below_step HB_12.out hst)
  clear hst
  go_wp2
  go_ret
  exact ⟨rfl, HBF.out⟩
theorem walk_row (sa sb ta tb p sh sl dh dl sp dp turned now nn : Int) (rot : Bool) (w : World) (_ : True) (_ : True) (_ : True) (_ : (Lit.int .i64 turned).wf = true) (_ : (Lit.int .i64 now).wf = true) (_ : (Lit.int .u32 nn).wf = true) :
    Calls Try.prog 5 #[.agg #[.int .u64 sa, .int .u64 sb], .agg #[.int .u64 ta, .int .u64 tb], .agg #[.int .i64 p, .int .u64 sh, .int .u64 sl, .int .u64 dh, .int .u64 dl, .int .i64 sp, .int .i64 dp], .int .i64 turned, .int .i64 now, .int .u32 nn, .bool rot] w fun e w' => e = .returned (.bool true) ∧ Below w.heap.size w w' := walk sa sb ta tb p sh sl dh dl sp dp turned now nn rot w
end Go.Proofs.Ytainkpgplmkiaaa.CookieOldWalk
