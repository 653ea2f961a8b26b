/- The walk of CookieBack: what was made is checked in the same window, and in the next one, also if the secret was rotated once in between: the call returns true and leaves all memory that was there as it was. No condition. -/
import Derived.Test.YtainkpgplmkiaaaRotate
import Derived.Test.YtainkpgplmkiaaaMArgs
namespace Go.Proofs.Ytainkpgplmkiaaa.CookieBackWalk
open Go Go.RowKit Go.Deep Go.Proofs.YtainkpgplmkiaaaW.PrintWords Go.Proofs.YtainkpgplmkiaaaW.PrintLast Go.Proofs.YtainkpgplmkiaaaW.PrintMore Go.Proofs.Ytainkpgplmkiaaa.MWorld Go.Proofs.Ytainkpgplmkiaaa.MArgs Go.Proofs.Ytainkpgplmkiaaa.Ev Go.Proofs.Ytainkpgplmkiaaa.Rg Go.Proofs.Ytainkpgplmkiaaa.Cook Go.Proofs.Ytainkpgplmkiaaa.HashDef Go.Proofs.Ytainkpgplmkiaaa.CookCookie Go.Proofs.Ytainkpgplmkiaaa.RefCook Go.Proofs.Ytainkpgplmkiaaa.CookWin Go.Proofs.Ytainkpgplmkiaaa.Keeper Go.Proofs.Ytainkpgplmkiaaa.Rotate
set_option linter.unusedVariables false
set_option linter.unusedSimpArgs false
theorem check1_w (gk gr : Nat) (a1 b1 till p sh sl dh dl sp dp now nn : Int) (b : Bool) (hb : ((ck a1 b1 p sh sl dh dl sp dp (now / 16) == nn) || (ck a1 b1 p sh sl dh dl sp dp (IntKind.i64.wrap (now / 16 - 1)) == nn)) = b) (w : World) (hk : Keep gk gr 1 #[.int .u64 a1, .int .u64 b1] till w) : Calls Try.prog 22 #[.pointer (some ⟨gk, 0, none⟩), .agg #[.int .i64 p, .int .u64 sh, .int .u64 sl, .int .u64 dh, .int .u64 dl, .int .i64 sp, .int .i64 dp], .int .i64 now, .int .u32 nn] w fun e w' => e = .returned (.bool b) ∧ Below w.heap.size w w' := by
  subst hb; exact check1 gk gr a1 b1 till p sh sl dh dl sp dp now nn _ _ ⟨rfl⟩ ⟨rfl⟩ w hk
theorem check2_w (gk gr : Nat) (a1 b1 a2 b2 till p sh sl dh dl sp dp now nn : Int) (b : Bool) (hb : (((ck a1 b1 p sh sl dh dl sp dp (now / 16) == nn) || (ck a1 b1 p sh sl dh dl sp dp (IntKind.i64.wrap (now / 16 - 1)) == nn)) || (!(decide (till < now / 16)) && ((ck a2 b2 p sh sl dh dl sp dp (now / 16) == nn) || (ck a2 b2 p sh sl dh dl sp dp (IntKind.i64.wrap (now / 16 - 1)) == nn)))) = b) (w : World) (hk : Keep gk gr 2 #[.int .u64 a1, .int .u64 b1, .int .u64 a2, .int .u64 b2] till w) : Calls Try.prog 22 #[.pointer (some ⟨gk, 0, none⟩), .agg #[.int .i64 p, .int .u64 sh, .int .u64 sl, .int .u64 dh, .int .u64 dl, .int .i64 sp, .int .i64 dp], .int .i64 now, .int .u32 nn] w fun e w' => e = .returned (.bool b) ∧ Below w.heap.size w w' := by
  subst hb; exact check2 gk gr a1 b1 a2 b2 till p sh sl dh dl sp dp now nn _ _ _ _ ⟨rfl⟩ ⟨rfl⟩ ⟨rfl⟩ ⟨rfl⟩ w hk
theorem back1 (sa sb p sh sl dh dl sp dp now lt kv : Int) (hkv : ck sa sb p sh sl dh dl sp dp (now / 16) = kv) (h0 : -1152921504606846976 ≤ now) (h1 : now ≤ 1152921504606846976) (h2 : now ≤ lt) (h3 : lt < now + 16) : ((ck sa sb p sh sl dh dl sp dp (lt / 16) == kv) || (ck sa sb p sh sl dh dl sp dp (IntKind.i64.wrap (lt / 16 - 1)) == kv)) = true := by
  by_cases h : lt / 16 = now / 16
  · rw [h, hkv]; simp
  · have e : IntKind.i64.wrap (lt / 16 - 1) = now / 16 := by rw [IntKind.wrap_i64]; omega
    rw [e, hkv]; simp
theorem back2 (sa sb ta tb p sh sl dh dl sp dp now lt kv tl : Int) (hkv : ck sa sb p sh sl dh dl sp dp (now / 16) = kv) (htl : IntKind.i64.wrap (now / 16 + 1) = tl) (h0 : -1152921504606846976 ≤ now) (h1 : now ≤ 1152921504606846976) (h2 : now ≤ lt) (h3 : lt < now + 16) : (((ck ta tb p sh sl dh dl sp dp (lt / 16) == kv) || (ck ta tb p sh sl dh dl sp dp (IntKind.i64.wrap (lt / 16 - 1)) == kv)) || (!(decide (tl < lt / 16)) && ((ck sa sb p sh sl dh dl sp dp (lt / 16) == kv) || (ck sa sb p sh sl dh dl sp dp (IntKind.i64.wrap (lt / 16 - 1)) == kv)))) = true := by
  rw [back1 sa sb p sh sl dh dl sp dp now lt kv hkv h0 h1 h2 h3]
  have e : decide (tl < lt / 16) = false := decide_eq_false (by rw [← htl, IntKind.wrap_i64]; omega)
  rw [e]; simp
set_option maxRecDepth 100000 in
set_option maxHeartbeats 16000000 in
theorem walk (sa sb ta tb p sh sl dh dl sp dp now gap : Int) (rot : Bool) (w : World) (hnow : (Lit.int .i64 now).wf = true) (hgap : (Lit.int .u8 gap).wf = true) :
    Calls Try.prog 7 #[.agg #[.int .u64 sa, .int .u64 sb], .agg #[.int .u64 ta, .int .u64 tb], .agg #[.int .i64 p, .int .u64 sh, .int .u64 sl, .int .u64 dh, .int .u64 dl, .int .i64 sp, .int .i64 dp], .int .i64 now, .int .u8 gap, .bool rot] w fun e w' => e = .returned (.bool true) ∧ Below w.heap.size w w' := by
  have hg := bounds_u8 hgap
  clear hnow hgap
  by_cases hb1 : 1152921504606846976 < now
  · have hb2 : decide ((1152921504606846976 : Int) < now) = true := decide_eq_true hb1
    go_enter Try.func7, Try.ntmps7
    go_wp2
    go_ret
    exact ⟨rfl, below_alloc (below_alloc (below_alloc (Below.refl _ _) _) _) _⟩
  by_cases hb3 : now < -1152921504606846976
  · have hb2 : decide ((1152921504606846976 : Int) < now) = false := decide_eq_false hb1
    have hb4 : decide (now < (-1152921504606846976 : Int)) = true := decide_eq_true hb3
    go_enter Try.func7, Try.ntmps7
    go_wp2
    go_ret
    exact ⟨rfl, below_alloc (below_alloc (below_alloc (Below.refl _ _) _) _) _⟩
  have hb2 : decide ((1152921504606846976 : Int) < now) = false := decide_eq_false hb1
  have hb4 : decide (now < (-1152921504606846976 : Int)) = false := decide_eq_false hb3
  obtain ⟨kv, hkv⟩ : ∃ k : Int, ck sa sb p sh sl dh dl sp dp (now / 16) = k := ⟨_, rfl⟩
  obtain ⟨tl, htl⟩ : ∃ k : Int, IntKind.i64.wrap (now / 16 + 1) = k := ⟨_, rfl⟩
  obtain ⟨gm, hgm⟩ : ∃ k : Int, Int.tmod gap 16 = k := ⟨_, rfl⟩
  have hgm2 : 0 ≤ gm ∧ gm < 16 := by rw [← hgm, Int.tmod_eq_emod_of_nonneg (by omega)]; omega
  obtain ⟨lt, hlt⟩ : ∃ k : Int, IntKind.i64.wrap (now + gm) = k := ⟨_, rfl⟩
  have hlt2 : now ≤ lt ∧ lt < now + 16 := by rw [← hlt, IntKind.wrap_i64]; omega
  have hgw : IntKind.i64.wrap gm = gm := by rw [IntKind.wrap_i64]; omega
  have HB1 : Aside0 (-1152921504606846976 ≤ now ∧ now ≤ 1152921504606846976 ∧ now ≤ lt ∧ lt < now + 16) := ⟨by omega⟩
  have HKV := Aside0.mk hkv
  have HTL := Aside0.mk htl
  clear hb1 hb3 hkv htl hgm2 hlt2 hg
  go_enter Try.func7, Try.ntmps7
  go_upto_region 3 with (first | ((with_reducible refine gate_dst (N := 6) rfl ?_); refine box_event ?hg (N := 6) ?hd (cs := #[.int .u64 sa, .int .u64 sb]) (t := 24) ?hr ?_; (case hd => rfl); (case hg => rfl); (case hr => first | (go_simp; done) | (go_simp; rfl)); intro g6 hgg wx1 hbox hb; have Lg6 := Aside0.mk (show w.heap.size ≤ g6 by rw [hgg]; exact Nat.le_refl _); have HB_1 := Aside0.mk (hb); have Bg6_1 := Aside0.mk hbox; clear hbox hb hgg) | ((with_reducible refine gate_dst (N := 7) rfl ?_); refine box_event ?hg (N := 7) ?hd (cs := #[.int .u64 ta, .int .u64 tb]) (t := 24) ?hr ?_; (case hd => rfl); (case hg => rfl); (case hr => first | (go_simp; done) | (go_simp; rfl)); intro g7 hgg wx2 hbox hb; have Ng6g7 := Aside0.mk (show g6 ≠ g7 by rw [hgg]; exact Nat.ne_of_lt (blk_lt Bg6_1.out)); have Lg7 := Aside0.mk (show w.heap.size ≤ g7 by rw [hgg]; exact below_size HB_1.out); have HB_2 := Aside0.mk (below_step HB_1.out hb); clear HB_1; have Bg6_2 := Aside0.mk (blk_below Bg6_1.out hb); clear Bg6_1; have Bg7_2 := Aside0.mk hbox; clear hbox hb hgg) | ((with_reducible refine gate_dst (N := 8) rfl ?_); refine box_event ?hg (N := 8) ?hd (cs := #[.int .i64 p, .int .u64 sh, .int .u64 sl, .int .u64 dh, .int .u64 dl, .int .i64 sp, .int .i64 dp]) (t := 29) ?hr ?_; (case hd => rfl); (case hg => rfl); (case hr => first | (go_simp; done) | (go_simp; rfl)); intro g8 hgg wx3 hbox hb; have Ng6g8 := Aside0.mk (show g6 ≠ g8 by rw [hgg]; exact Nat.ne_of_lt (blk_lt Bg6_2.out)); have Ng7g8 := Aside0.mk (show g7 ≠ g8 by rw [hgg]; exact Nat.ne_of_lt (blk_lt Bg7_2.out)); have Lg8 := Aside0.mk (show w.heap.size ≤ g8 by rw [hgg]; exact below_size HB_2.out); have HB_3 := Aside0.mk (below_step HB_2.out hb); clear HB_2; have Bg6_3 := Aside0.mk (blk_below Bg6_2.out hb); clear Bg6_2; have Bg7_3 := Aside0.mk (blk_below Bg7_2.out hb); clear Bg7_2; have Bg8_3 := Aside0.mk hbox; clear hbox hb hgg))
  go_upto_region 4 with (first | ((with_reducible refine gate_dst (N := 22) rfl ?_); refine load_event rfl 24 _ rfl g6 rfl _ _ _ Bg6_3.out Try.underlying24 rfl (by kernel_rfl) ?_) | (go_at_call 20; refine (new_any sa sb _).mono ?_; rintro e wk4 ⟨gk, gr, rfl, hgk, hgr, hne, hkeep, hb⟩; have Ng6gk := Aside0.mk (show g6 ≠ gk by have h := blk_lt Bg6_3.out; omega); have Ng7gk := Aside0.mk (show g7 ≠ gk by have h := blk_lt Bg7_3.out; omega); have Ng8gk := Aside0.mk (show g8 ≠ gk by have h := blk_lt Bg8_3.out; omega); have Lgk := Aside0.mk (Nat.le_trans (below_size HB_3.out) hgk); have Bg6_k4 := Aside0.mk (blk_below Bg6_3.out hb); clear Bg6_3; have Bg7_k4 := Aside0.mk (blk_below Bg7_3.out hb); clear Bg7_3; have Bg8_k4 := Aside0.mk (blk_below Bg8_3.out hb); clear Bg8_3; have HK := Aside0.mk hkeep; have HB_k4 := Aside0.mk (below_step HB_3.out hb); clear hgk hgr hne hkeep hb HB_3))
  go_upto_region 5 with (first | ((with_reducible refine gate_dst (N := 25) rfl ?_); refine load_event rfl 29 _ rfl g8 rfl _ _ _ Bg8_k4.out Try.underlying29 rfl (by kernel_rfl) ?_) | (go_at_call 23; refine (make_any gk gr 1 (by decide) sa sb #[.int .u64 sa, .int .u64 sb] rfl 0 p sh sl dh dl sp dp now kv HKV.out _ HK.out).mono ?_; rintro e wk5 ⟨rfl, hb⟩; have Bg6_k5 := Aside0.mk (blk_below Bg6_k4.out hb); clear Bg6_k4; have Bg7_k5 := Aside0.mk (blk_below Bg7_k4.out hb); clear Bg7_k4; have Bg8_k5 := Aside0.mk (blk_below Bg8_k4.out hb); clear Bg8_k4; have HK5 := Aside0.mk (Keep.below HK.out hb); have HB_k5 := Aside0.mk (below_step HB_k4.out hb); clear hb HK HB_k4))
  refine wp_region_rg (by kernel_rfl) (fun x y => Below x.heap.size x y) (fun (i : Nat) (v : Value) (w1 : World) => match i with | 0 => v = (.int .u32 kv) | 1 => v = (.agg #[.int .u64 sa, .int .u64 sb]) | 2 => v = (.agg #[.int .i64 p, .int .u64 sh, .int .u64 sl, .int .u64 dh, .int .u64 dl, .int .i64 sp, .int .i64 dp]) | 3 => v = (.int .i64 now) | 4 => v = (.int .i64 (now / 16)) | 5 => v = (.int .u32 kv) | 6 => v = (.bool false) | _ => True) (by kernel_rfl) (by kernel_rfl) below_tr (Below.refl _ _).drew ?hJst1 (obl_list ?hObl1) ?hEnd1
  case hJst1 =>
    intro i v wx wy hi hs0 hs1 hJi
    match i, hi with
    | 0, _ => exact hJi
    | 1, _ => exact hJi
    | 2, _ => exact hJi
    | 3, _ => exact hJi
    | 4, _ => exact hJi
    | 5, _ => exact hJi
    | 6, _ => exact hJi
    | _ + 7, hi => exact absurd hi (by simp)
  case hObl1 =>
    refine ⟨?_, ?_, ?_, ?_, ?_, ?_, ?_,  trivial⟩
    · intro listed vals a wq K hD hst hj haft hun hK
      have h14 := hD.out 14 rfl rfl
      clear hD hj haft hun
      have e14 := eval_of h14
      refine step_now (v := .int .u32 kv) (w' := wq) (wanted_free rfl) ?_ (hK _ _ (Below.refl _ _) rfl)
      clear hK
      first | (go_simp; done) | (go_simp; rfl) | (go_simp; (try simp only [IntKind.wrap_u32]); omega)
    · intro listed vals a wq K hD hst hj haft hun hK
      have h6 := hD.out 6 rfl rfl
      replace hst : Below _ _ wq := hst
      clear hD hj haft hun
      have e6 := eval_of h6
      exact step_now (v := .agg #[.int .u64 sa, .int .u64 sb]) (w' := wq) (wanted_free rfl) (rg_loadall rfl e6 (blk_below Bg6_k5.out hst) Try.underlying24 rfl (by kernel_rfl)) (hK _ _ (Below.refl _ _) rfl)
    · intro listed vals a wq K hD hst hj haft hun hK
      have h8 := hD.out 8 rfl rfl
      replace hst : Below _ _ wq := hst
      clear hD hj haft hun
      have e8 := eval_of h8
      exact step_now (v := .agg #[.int .i64 p, .int .u64 sh, .int .u64 sl, .int .u64 dh, .int .u64 dl, .int .i64 sp, .int .i64 dp]) (w' := wq) (wanted_free rfl) (rg_loadall rfl e8 (blk_below Bg8_k5.out hst) Try.underlying29 rfl (by kernel_rfl)) (hK _ _ (Below.refl _ _) rfl)
    · intro listed vals a wq K hD hst hj haft hun hK
      have h3 := hD.out 3 rfl rfl
      clear hD hj haft hun
      have e3 := eval_of h3
      refine step_now (v := .int .i64 now) (w' := wq) (wanted_free rfl) ?_ (hK _ _ (Below.refl _ _) rfl)
      clear hK
      first | (go_simp; done) | (go_simp; rfl) | (go_simp; (try simp only [IntKind.wrap_u32]); omega)
    · intro listed vals a wq K hD hst hj haft hun hK
      obtain ⟨v31, h31, j31⟩ := hD.dep hj haft 3 31 rfl rfl
      replace j31 : v31 = (.int .i64 now) := j31
      subst j31
      clear hD hj haft hun
      have e31 := eval_of h31
      refine step_call (f := 16) (args := #[.int .i64 now]) (wanted_free rfl) ?_ (rwindow_any now wq) ?_
      · clear hK; first | (go_simp; done) | (go_simp; rfl)
      · rintro e w' ⟨he, hbq⟩; exact ⟨_, he, hK _ _ hbq rfl⟩
    · intro listed vals a wq K hD hst hj haft hun hK
      obtain ⟨v29, h29, j29⟩ := hD.dep hj haft 1 29 rfl rfl
      replace j29 : v29 = (.agg #[.int .u64 sa, .int .u64 sb]) := j29
      subst j29
      obtain ⟨v30, h30, j30⟩ := hD.dep hj haft 2 30 rfl rfl
      replace j30 : v30 = (.agg #[.int .i64 p, .int .u64 sh, .int .u64 sl, .int .u64 dh, .int .u64 dl, .int .i64 sp, .int .i64 dp]) := j30
      subst j30
      obtain ⟨v32, h32, j32⟩ := hD.dep hj haft 4 32 rfl rfl
      replace j32 : v32 = (.int .i64 (now / 16)) := j32
      subst j32
      clear hD hj haft hun
      have e29 := eval_of h29
      have e30 := eval_of h30
      have e32 := eval_of h32
      refine step_call (f := 14) (args := #[.agg #[.int .u64 sa, .int .u64 sb], .agg #[.int .i64 p, .int .u64 sh, .int .u64 sl, .int .u64 dh, .int .u64 dl, .int .i64 sp, .int .i64 dp], .int .i64 (now / 16)]) (wanted_free rfl) ?_ (rcookie_w sa sb p sh sl dh dl sp dp (now / 16) kv HKV.out wq) ?_
      · clear hK; first | (go_simp; done) | (go_simp; rfl)
      · rintro e w' ⟨he, hbq⟩; exact ⟨_, he, hK _ _ hbq rfl⟩
    · intro listed vals a wq K hD hst hj haft hun hK
      obtain ⟨v28, h28, j28⟩ := hD.dep hj haft 0 28 rfl rfl
      replace j28 : v28 = (.int .u32 kv) := j28
      subst j28
      obtain ⟨v33, h33, j33⟩ := hD.dep hj haft 5 33 rfl rfl
      replace j33 : v33 = (.int .u32 kv) := j33
      subst j33
      clear hD hj haft hun
      have e28 := eval_of h28
      have e33 := eval_of h33
      refine step_now (v := .bool false) (w' := wq) (wanted_free rfl) ?_ (hK _ _ (Below.refl _ _) rfl)
      clear hK
      first | (go_simp; done) | (go_simp; rfl)
  intro vals wend hst hj
  have j0 : vals 0 = (.int .u32 kv) := hj 0 (by decide)
  have j1 : vals 1 = (.agg #[.int .u64 sa, .int .u64 sb]) := hj 1 (by decide)
  have j2 : vals 2 = (.agg #[.int .i64 p, .int .u64 sh, .int .u64 sl, .int .u64 dh, .int .u64 dl, .int .i64 sp, .int .i64 dp]) := hj 2 (by decide)
  have j3 : vals 3 = (.int .i64 now) := hj 3 (by decide)
  have j4 : vals 4 = (.int .i64 (now / 16)) := hj 4 (by decide)
  have j5 : vals 5 = (.int .u32 kv) := hj 5 (by decide)
  have j6 : vals 6 = (.bool false) := hj 6 (by decide)
  replace hst : Below _ _ wend := hst
  clear hj
  rw [putAll_list]
  simp only [putL, Act.put, List.setIfInBounds_toArray, List.set_cons_zero, List.set_cons_succ, j0, j1, j2, j3, j4, j5, j6]
  clear j0 j1 j2 j3 j4 j5 j6
  have Bg6_k6 := Aside0.mk (blk_below Bg6_k5.out hst)
  clear Bg6_k5
  have Bg7_k6 := Aside0.mk (blk_below Bg7_k5.out hst)
  clear Bg7_k5
  have Bg8_k6 := Aside0.mk (blk_below Bg8_k5.out hst)
  clear Bg8_k5
  have HKr := Aside0.mk (Keep.below HK5.out hst)
  have HBr := Aside0.mk (below_step HB_k5.out hst)
  clear hst HK5 HB_k5
  go_upto_region 8 with fail
  clear hgm hlt hgw hb2 hb4
  cases rot
  · go_upto_region 10 with fail
    go_upto_region 10 with (fail)
    refine wp_region_rg_seq (fun x y => Below x.heap.size x y) (fun (i : Nat) (v : Value) (w1 : World) => match i with | 0 => v = (.pointer (some ⟨gk, 0, none⟩)) | 1 => v = (.agg #[.int .i64 p, .int .u64 sh, .int .u64 sl, .int .u64 dh, .int .u64 dl, .int .i64 sp, .int .i64 dp]) | 2 => v = (.int .i64 lt) | 3 => v = (.int .u32 kv) | 4 => v = (.bool true) | 5 => v = (.bool true) | 6 => v = (.pointer (some ⟨gk, 0, none⟩)) | 7 => v = (.agg #[.int .i64 p, .int .u64 sh, .int .u64 sl, .int .u64 dh, .int .u64 dl, .int .i64 sp, .int .i64 dp]) | 8 => v = (.int .i64 now) | 9 => v = (.int .u32 kv) | 10 => v = (.bool true) | 11 => v = (.bool true) | 12 => v = (.bool true) | _ => True) (by kernel_rfl) (by kernel_rfl) below_tr (Below.refl _ _) ?hJst2 ?hObl2 ?hEnd2
    case hJst2 =>
      intro i v wx wy hi hs0 hs1 hJi
      match i, hi with
      | 0, _ => exact hJi
      | 1, _ => exact hJi
      | 2, _ => exact hJi
      | 3, _ => exact hJi
      | 4, _ => exact hJi
      | 5, _ => exact hJi
      | 6, _ => exact hJi
      | 7, _ => exact hJi
      | 8, _ => exact hJi
      | 9, _ => exact hJi
      | 10, _ => exact hJi
      | 11, _ => exact hJi
      | 12, _ => exact hJi
      | _ + 13, hi => exact absurd hi (by simp)
    case hObl2 =>
      refine ⟨?_, ?_, ?_, ?_, ?_, ?_, ?_, ?_, ?_, ?_, ?_, ?_, ?_,  trivial⟩
      · intro listed vals a wq K hD hst hj haft hun hK
        have h13 := hD.out 13 rfl rfl
        clear hD hj haft hun
        have e13 := eval_of h13
        refine step_now (v := .pointer (some ⟨gk, 0, none⟩)) (w' := wq) (wanted_free rfl) ?_ (hK _ _ (Below.refl _ _) rfl)
        clear hK
        first | (go_simp; done) | (go_simp; rfl)
      · intro listed vals a wq K hD hst hj haft hun hK
        have h8 := hD.out 8 rfl rfl
        replace hst : Below _ _ wq := hst
        clear hD hj haft hun
        have e8 := eval_of h8
        exact step_now (v := .agg #[.int .i64 p, .int .u64 sh, .int .u64 sl, .int .u64 dh, .int .u64 dl, .int .i64 sp, .int .i64 dp]) (w' := wq) (wanted_free rfl) (rg_loadall rfl e8 (blk_below Bg8_k6.out hst) Try.underlying29 rfl (by kernel_rfl)) (hK _ _ (Below.refl _ _) rfl)
      · intro listed vals a wq K hD hst hj haft hun hK
        have h15 := hD.out 15 rfl rfl
        clear hD hj haft hun
        have e15 := eval_of h15
        refine step_now (v := .int .i64 lt) (w' := wq) (wanted_free rfl) ?_ (hK _ _ (Below.refl _ _) rfl)
        clear hK
        first | (go_simp; done) | (go_simp; rfl) | (go_simp; (try simp only [IntKind.wrap_u32]); omega)
      · intro listed vals a wq K hD hst hj haft hun hK
        have h14 := hD.out 14 rfl rfl
        clear hD hj haft hun
        have e14 := eval_of h14
        refine step_now (v := .int .u32 kv) (w' := wq) (wanted_free rfl) ?_ (hK _ _ (Below.refl _ _) rfl)
        clear hK
        first | (go_simp; done) | (go_simp; rfl) | (go_simp; (try simp only [IntKind.wrap_u32]); omega)
      · intro listed vals a wq K hD hst hj haft hun hK
        obtain ⟨v45, h45, j45⟩ := hD.dep hj haft 0 45 rfl rfl
        replace j45 : v45 = (.pointer (some ⟨gk, 0, none⟩)) := j45
        subst j45
        obtain ⟨v46, h46, j46⟩ := hD.dep hj haft 1 46 rfl rfl
        replace j46 : v46 = (.agg #[.int .i64 p, .int .u64 sh, .int .u64 sl, .int .u64 dh, .int .u64 dl, .int .i64 sp, .int .i64 dp]) := j46
        subst j46
        obtain ⟨v47, h47, j47⟩ := hD.dep hj haft 2 47 rfl rfl
        replace j47 : v47 = (.int .i64 lt) := j47
        subst j47
        obtain ⟨v48, h48, j48⟩ := hD.dep hj haft 3 48 rfl rfl
        replace j48 : v48 = (.int .u32 kv) := j48
        subst j48
        replace hst : Below _ _ wq := hst
        clear hD hj haft hun
        have e45 := eval_of h45
        have e46 := eval_of h46
        have e47 := eval_of h47
        have e48 := eval_of h48
        refine step_call (f := 22) (args := #[.pointer (some ⟨gk, 0, none⟩), .agg #[.int .i64 p, .int .u64 sh, .int .u64 sl, .int .u64 dh, .int .u64 dl, .int .i64 sp, .int .i64 dp], .int .i64 lt, .int .u32 kv]) (wanted_free rfl) ?_ (check1_w gk gr sa sb 0 p sh sl dh dl sp dp lt kv true (back1 sa sb p sh sl dh dl sp dp now lt kv HKV.out HB1.out.1 HB1.out.2.1 HB1.out.2.2.1 HB1.out.2.2.2) wq (Keep.below HKr.out hst)) ?_
        · clear hK; first | (go_simp; done) | (go_simp; rfl)
        · rintro e w' ⟨he, hbq⟩; exact ⟨_, he, hK _ _ hbq rfl⟩
      · intro listed vals a wq K hD hst hj haft hun hK
        obtain ⟨v49, h49, j49⟩ := hD.dep hj haft 4 49 rfl rfl
        replace j49 : v49 = (.bool true) := j49
        subst j49
        clear hD hj haft hun
        have e49 := eval_of h49
        refine step_now (v := .bool true) (w' := wq) (wanted_free rfl) ?_ (hK _ _ (Below.refl _ _) rfl)
        clear hK
        first | (go_simp; done) | (go_simp; rfl)
      · intro listed vals a wq K hD hst hj haft hun hK
        obtain ⟨v50, h50, j50⟩ := hD.dep hj haft 5 50 rfl rfl
        replace j50 : v50 = (.bool true) := j50
        subst j50
        have h13 := hD.out 13 rfl rfl
        clear hD hj haft hun
        have e13 := eval_of h13
        refine step_now (v := .pointer (some ⟨gk, 0, none⟩)) (w' := wq) (wanted_on (t := 50) (u := true) rfl rfl rfl h50) ?_ (hK _ _ (Below.refl _ _) rfl)
        clear hK
        first | (go_simp; done) | (go_simp; rfl)
      · intro listed vals a wq K hD hst hj haft hun hK
        obtain ⟨v50, h50, j50⟩ := hD.dep hj haft 5 50 rfl rfl
        replace j50 : v50 = (.bool true) := j50
        subst j50
        have h8 := hD.out 8 rfl rfl
        replace hst : Below _ _ wq := hst
        clear hD hj haft hun
        have e8 := eval_of h8
        exact step_now (v := .agg #[.int .i64 p, .int .u64 sh, .int .u64 sl, .int .u64 dh, .int .u64 dl, .int .i64 sp, .int .i64 dp]) (w' := wq) (wanted_on (t := 50) (u := true) rfl rfl rfl h50) (rg_loadall rfl e8 (blk_below Bg8_k6.out hst) Try.underlying29 rfl (by kernel_rfl)) (hK _ _ (Below.refl _ _) rfl)
      · intro listed vals a wq K hD hst hj haft hun hK
        obtain ⟨v50, h50, j50⟩ := hD.dep hj haft 5 50 rfl rfl
        replace j50 : v50 = (.bool true) := j50
        subst j50
        have h3 := hD.out 3 rfl rfl
        clear hD hj haft hun
        have e3 := eval_of h3
        refine step_now (v := .int .i64 now) (w' := wq) (wanted_on (t := 50) (u := true) rfl rfl rfl h50) ?_ (hK _ _ (Below.refl _ _) rfl)
        clear hK
        first | (go_simp; done) | (go_simp; rfl) | (go_simp; (try simp only [IntKind.wrap_u32]); omega)
      · intro listed vals a wq K hD hst hj haft hun hK
        obtain ⟨v50, h50, j50⟩ := hD.dep hj haft 5 50 rfl rfl
        replace j50 : v50 = (.bool true) := j50
        subst j50
        have h14 := hD.out 14 rfl rfl
        clear hD hj haft hun
        have e14 := eval_of h14
        refine step_now (v := .int .u32 kv) (w' := wq) (wanted_on (t := 50) (u := true) rfl rfl rfl h50) ?_ (hK _ _ (Below.refl _ _) rfl)
        clear hK
        first | (go_simp; done) | (go_simp; rfl) | (go_simp; (try simp only [IntKind.wrap_u32]); omega)
      · intro listed vals a wq K hD hst hj haft hun hK
        obtain ⟨v51, h51, j51⟩ := hD.dep hj haft 6 51 rfl rfl
        replace j51 : v51 = (.pointer (some ⟨gk, 0, none⟩)) := j51
        subst j51
        obtain ⟨v52, h52, j52⟩ := hD.dep hj haft 7 52 rfl rfl
        replace j52 : v52 = (.agg #[.int .i64 p, .int .u64 sh, .int .u64 sl, .int .u64 dh, .int .u64 dl, .int .i64 sp, .int .i64 dp]) := j52
        subst j52
        obtain ⟨v53, h53, j53⟩ := hD.dep hj haft 8 53 rfl rfl
        replace j53 : v53 = (.int .i64 now) := j53
        subst j53
        obtain ⟨v54, h54, j54⟩ := hD.dep hj haft 9 54 rfl rfl
        replace j54 : v54 = (.int .u32 kv) := j54
        subst j54
        obtain ⟨v50, h50, j50⟩ := hD.dep hj haft 5 50 rfl rfl
        replace j50 : v50 = (.bool true) := j50
        subst j50
        replace hst : Below _ _ wq := hst
        clear hD hj haft hun
        have e51 := eval_of h51
        have e52 := eval_of h52
        have e53 := eval_of h53
        have e54 := eval_of h54
        refine step_call (f := 22) (args := #[.pointer (some ⟨gk, 0, none⟩), .agg #[.int .i64 p, .int .u64 sh, .int .u64 sl, .int .u64 dh, .int .u64 dl, .int .i64 sp, .int .i64 dp], .int .i64 now, .int .u32 kv]) (wanted_on (t := 50) (u := true) rfl rfl rfl h50) ?_ (check1_w gk gr sa sb 0 p sh sl dh dl sp dp now kv true (back1 sa sb p sh sl dh dl sp dp now now kv HKV.out HB1.out.1 HB1.out.2.1 (Int.le_refl _) (by omega)) wq (Keep.below HKr.out hst)) ?_
        · clear hK; first | (go_simp; done) | (go_simp; rfl)
        · rintro e w' ⟨he, hbq⟩; exact ⟨_, he, hK _ _ hbq rfl⟩
      · intro listed vals a wq K hD hst hj haft hun hK
        obtain ⟨v50, h50, j50⟩ := hD.dep hj haft 5 50 rfl rfl
        replace j50 : v50 = (.bool true) := j50
        subst j50
        obtain ⟨v55, h55, j55⟩ := hD.dep hj haft 10 55 rfl rfl
        replace j55 : v55 = (.bool true) := j55
        subst j55
        clear hD hj haft hun
        have e50 := eval_of h50
        have e55 := eval_of h55
        refine step_now (v := .bool true) (w' := wq) (wanted_free rfl) ?_ (hK _ _ (Below.refl _ _) rfl)
        clear hK
        first | (go_simp; done) | (go_simp; rfl)
      · intro listed vals a wq K hD hst hj haft hun hK
        obtain ⟨v56, h56, j56⟩ := hD.dep hj haft 11 56 rfl rfl
        replace j56 : v56 = (.bool true) := j56
        subst j56
        clear hD hj haft hun
        have e56 := eval_of h56
        refine step_now (v := .bool true) (w' := wq) (wanted_free rfl) ?_ (hK _ _ (Below.refl _ _) rfl)
        clear hK
        first | (go_simp; done) | (go_simp; rfl)
    intro vals wend hst hj
    have j0 : vals 0 = (.pointer (some ⟨gk, 0, none⟩)) := hj 0 (by decide)
    have j1 : vals 1 = (.agg #[.int .i64 p, .int .u64 sh, .int .u64 sl, .int .u64 dh, .int .u64 dl, .int .i64 sp, .int .i64 dp]) := hj 1 (by decide)
    have j2 : vals 2 = (.int .i64 lt) := hj 2 (by decide)
    have j3 : vals 3 = (.int .u32 kv) := hj 3 (by decide)
    have j4 : vals 4 = (.bool true) := hj 4 (by decide)
    have j5 : vals 5 = (.bool true) := hj 5 (by decide)
    have j6 : vals 6 = (.pointer (some ⟨gk, 0, none⟩)) := hj 6 (by decide)
    have j7 : vals 7 = (.agg #[.int .i64 p, .int .u64 sh, .int .u64 sl, .int .u64 dh, .int .u64 dl, .int .i64 sp, .int .i64 dp]) := hj 7 (by decide)
    have j8 : vals 8 = (.int .i64 now) := hj 8 (by decide)
    have j9 : vals 9 = (.int .u32 kv) := hj 9 (by decide)
    have j10 : vals 10 = (.bool true) := hj 10 (by decide)
    have j11 : vals 11 = (.bool true) := hj 11 (by decide)
    have j12 : vals 12 = (.bool true) := hj 12 (by decide)
    replace hst : Below _ _ wend := hst
    clear hj
    rw [putAll_list]
    simp only [putL, Act.put, List.setIfInBounds_toArray, List.set_cons_zero, List.set_cons_succ, j0, j1, j2, j3, j4, j5, j6, j7, j8, j9, j10, j11, j12]
    clear j0 j1 j2 j3 j4 j5 j6 j7 j8 j9 j10 j11 j12
    have HB_7 := Aside0.mk (below_step HBr.out hst)
    clear HBr
    have Bg8_7 := Aside0.mk (blk_below Bg8_k6.out hst)
    clear Bg8_k6
    clear hst
    go_wp2
    go_ret
    exact ⟨rfl, HB_7.out⟩
  go_upto_region 10 with (first | ((with_reducible refine gate_dst (N := 42) rfl ?_); refine load_event rfl 24 _ rfl g7 rfl _ _ _ Bg7_k6.out Try.underlying24 rfl (by kernel_rfl) ?_) | (go_at_call 21; refine (rotate_any gk gr 1 (by decide) sa sb ta tb #[.int .u64 sa, .int .u64 sb] rfl 0 now tl HTL.out _ HKr.out).mono ?_; rintro e wr ⟨rfl, ⟨gr2, hk2⟩, hu⟩; have HK2 := Aside0.mk hk2; have B8r := Aside0.mk (Upd.blk hu Bg8_k6.out (One.not Ng8gk.out)); have HBu := Aside0.mk (below_upd HBr.out hu (below_size HBr.out) (fun k hk => by cases hk; exact Lgk.out)); clear hk2 hu HKr HBr Bg8_k6))
  go_upto_region 10 with (fail)
  refine wp_region_rg_seq (fun x y => Below x.heap.size x y) (fun (i : Nat) (v : Value) (w1 : World) => match i with | 0 => v = (.pointer (some ⟨gk, 0, none⟩)) | 1 => v = (.agg #[.int .i64 p, .int .u64 sh, .int .u64 sl, .int .u64 dh, .int .u64 dl, .int .i64 sp, .int .i64 dp]) | 2 => v = (.int .i64 lt) | 3 => v = (.int .u32 kv) | 4 => v = (.bool true) | 5 => v = (.bool true) | 6 => v = (.pointer (some ⟨gk, 0, none⟩)) | 7 => v = (.agg #[.int .i64 p, .int .u64 sh, .int .u64 sl, .int .u64 dh, .int .u64 dl, .int .i64 sp, .int .i64 dp]) | 8 => v = (.int .i64 now) | 9 => v = (.int .u32 kv) | 10 => v = (.bool true) | 11 => v = (.bool true) | 12 => v = (.bool true) | _ => True) (by kernel_rfl) (by kernel_rfl) below_tr (Below.refl _ _) ?hJst3 ?hObl3 ?hEnd3
  case hJst3 =>
    intro i v wx wy hi hs0 hs1 hJi
    match i, hi with
    | 0, _ => exact hJi
    | 1, _ => exact hJi
    | 2, _ => exact hJi
    | 3, _ => exact hJi
    | 4, _ => exact hJi
    | 5, _ => exact hJi
    | 6, _ => exact hJi
    | 7, _ => exact hJi
    | 8, _ => exact hJi
    | 9, _ => exact hJi
    | 10, _ => exact hJi
    | 11, _ => exact hJi
    | 12, _ => exact hJi
    | _ + 13, hi => exact absurd hi (by simp)
  case hObl3 =>
    refine ⟨?_, ?_, ?_, ?_, ?_, ?_, ?_, ?_, ?_, ?_, ?_, ?_, ?_,  trivial⟩
    · intro listed vals a wq K hD hst hj haft hun hK
      have h13 := hD.out 13 rfl rfl
      clear hD hj haft hun
      have e13 := eval_of h13
      refine step_now (v := .pointer (some ⟨gk, 0, none⟩)) (w' := wq) (wanted_free rfl) ?_ (hK _ _ (Below.refl _ _) rfl)
      clear hK
      first | (go_simp; done) | (go_simp; rfl)
    · intro listed vals a wq K hD hst hj haft hun hK
      have h8 := hD.out 8 rfl rfl
      replace hst : Below _ _ wq := hst
      clear hD hj haft hun
      have e8 := eval_of h8
      exact step_now (v := .agg #[.int .i64 p, .int .u64 sh, .int .u64 sl, .int .u64 dh, .int .u64 dl, .int .i64 sp, .int .i64 dp]) (w' := wq) (wanted_free rfl) (rg_loadall rfl e8 (blk_below B8r.out hst) Try.underlying29 rfl (by kernel_rfl)) (hK _ _ (Below.refl _ _) rfl)
    · intro listed vals a wq K hD hst hj haft hun hK
      have h15 := hD.out 15 rfl rfl
      clear hD hj haft hun
      have e15 := eval_of h15
      refine step_now (v := .int .i64 lt) (w' := wq) (wanted_free rfl) ?_ (hK _ _ (Below.refl _ _) rfl)
      clear hK
      first | (go_simp; done) | (go_simp; rfl) | (go_simp; (try simp only [IntKind.wrap_u32]); omega)
    · intro listed vals a wq K hD hst hj haft hun hK
      have h14 := hD.out 14 rfl rfl
      clear hD hj haft hun
      have e14 := eval_of h14
      refine step_now (v := .int .u32 kv) (w' := wq) (wanted_free rfl) ?_ (hK _ _ (Below.refl _ _) rfl)
      clear hK
      first | (go_simp; done) | (go_simp; rfl) | (go_simp; (try simp only [IntKind.wrap_u32]); omega)
    · intro listed vals a wq K hD hst hj haft hun hK
      obtain ⟨v45, h45, j45⟩ := hD.dep hj haft 0 45 rfl rfl
      replace j45 : v45 = (.pointer (some ⟨gk, 0, none⟩)) := j45
      subst j45
      obtain ⟨v46, h46, j46⟩ := hD.dep hj haft 1 46 rfl rfl
      replace j46 : v46 = (.agg #[.int .i64 p, .int .u64 sh, .int .u64 sl, .int .u64 dh, .int .u64 dl, .int .i64 sp, .int .i64 dp]) := j46
      subst j46
      obtain ⟨v47, h47, j47⟩ := hD.dep hj haft 2 47 rfl rfl
      replace j47 : v47 = (.int .i64 lt) := j47
      subst j47
      obtain ⟨v48, h48, j48⟩ := hD.dep hj haft 3 48 rfl rfl
      replace j48 : v48 = (.int .u32 kv) := j48
      subst j48
      replace hst : Below _ _ wq := hst
      clear hD hj haft hun
      have e45 := eval_of h45
      have e46 := eval_of h46
      have e47 := eval_of h47
      have e48 := eval_of h48
      refine step_call (f := 22) (args := #[.pointer (some ⟨gk, 0, none⟩), .agg #[.int .i64 p, .int .u64 sh, .int .u64 sl, .int .u64 dh, .int .u64 dl, .int .i64 sp, .int .i64 dp], .int .i64 lt, .int .u32 kv]) (wanted_free rfl) ?_ (check2_w gk gr2 ta tb sa sb tl p sh sl dh dl sp dp lt kv true (back2 sa sb ta tb p sh sl dh dl sp dp now lt kv tl HKV.out HTL.out HB1.out.1 HB1.out.2.1 HB1.out.2.2.1 HB1.out.2.2.2) wq (Keep.below HK2.out hst)) ?_
      · clear hK; first | (go_simp; done) | (go_simp; rfl)
      · rintro e w' ⟨he, hbq⟩; exact ⟨_, he, hK _ _ hbq rfl⟩
    · intro listed vals a wq K hD hst hj haft hun hK
      obtain ⟨v49, h49, j49⟩ := hD.dep hj haft 4 49 rfl rfl
      replace j49 : v49 = (.bool true) := j49
      subst j49
      clear hD hj haft hun
      have e49 := eval_of h49
      refine step_now (v := .bool true) (w' := wq) (wanted_free rfl) ?_ (hK _ _ (Below.refl _ _) rfl)
      clear hK
      first | (go_simp; done) | (go_simp; rfl)
    · intro listed vals a wq K hD hst hj haft hun hK
      obtain ⟨v50, h50, j50⟩ := hD.dep hj haft 5 50 rfl rfl
      replace j50 : v50 = (.bool true) := j50
      subst j50
      have h13 := hD.out 13 rfl rfl
      clear hD hj haft hun
      have e13 := eval_of h13
      refine step_now (v := .pointer (some ⟨gk, 0, none⟩)) (w' := wq) (wanted_on (t := 50) (u := true) rfl rfl rfl h50) ?_ (hK _ _ (Below.refl _ _) rfl)
      clear hK
      first | (go_simp; done) | (go_simp; rfl)
    · intro listed vals a wq K hD hst hj haft hun hK
      obtain ⟨v50, h50, j50⟩ := hD.dep hj haft 5 50 rfl rfl
      replace j50 : v50 = (.bool true) := j50
      subst j50
      have h8 := hD.out 8 rfl rfl
      replace hst : Below _ _ wq := hst
      clear hD hj haft hun
      have e8 := eval_of h8
      exact step_now (v := .agg #[.int .i64 p, .int .u64 sh, .int .u64 sl, .int .u64 dh, .int .u64 dl, .int .i64 sp, .int .i64 dp]) (w' := wq) (wanted_on (t := 50) (u := true) rfl rfl rfl h50) (rg_loadall rfl e8 (blk_below B8r.out hst) Try.underlying29 rfl (by kernel_rfl)) (hK _ _ (Below.refl _ _) rfl)
    · intro listed vals a wq K hD hst hj haft hun hK
      obtain ⟨v50, h50, j50⟩ := hD.dep hj haft 5 50 rfl rfl
      replace j50 : v50 = (.bool true) := j50
      subst j50
      have h3 := hD.out 3 rfl rfl
      clear hD hj haft hun
      have e3 := eval_of h3
      refine step_now (v := .int .i64 now) (w' := wq) (wanted_on (t := 50) (u := true) rfl rfl rfl h50) ?_ (hK _ _ (Below.refl _ _) rfl)
      clear hK
      first | (go_simp; done) | (go_simp; rfl) | (go_simp; (try simp only [IntKind.wrap_u32]); omega)
    · intro listed vals a wq K hD hst hj haft hun hK
      obtain ⟨v50, h50, j50⟩ := hD.dep hj haft 5 50 rfl rfl
      replace j50 : v50 = (.bool true) := j50
      subst j50
      have h14 := hD.out 14 rfl rfl
      clear hD hj haft hun
      have e14 := eval_of h14
      refine step_now (v := .int .u32 kv) (w' := wq) (wanted_on (t := 50) (u := true) rfl rfl rfl h50) ?_ (hK _ _ (Below.refl _ _) rfl)
      clear hK
      first | (go_simp; done) | (go_simp; rfl) | (go_simp; (try simp only [IntKind.wrap_u32]); omega)
    · intro listed vals a wq K hD hst hj haft hun hK
      obtain ⟨v51, h51, j51⟩ := hD.dep hj haft 6 51 rfl rfl
      replace j51 : v51 = (.pointer (some ⟨gk, 0, none⟩)) := j51
      subst j51
      obtain ⟨v52, h52, j52⟩ := hD.dep hj haft 7 52 rfl rfl
      replace j52 : v52 = (.agg #[.int .i64 p, .int .u64 sh, .int .u64 sl, .int .u64 dh, .int .u64 dl, .int .i64 sp, .int .i64 dp]) := j52
      subst j52
      obtain ⟨v53, h53, j53⟩ := hD.dep hj haft 8 53 rfl rfl
      replace j53 : v53 = (.int .i64 now) := j53
      subst j53
      obtain ⟨v54, h54, j54⟩ := hD.dep hj haft 9 54 rfl rfl
      replace j54 : v54 = (.int .u32 kv) := j54
      subst j54
      obtain ⟨v50, h50, j50⟩ := hD.dep hj haft 5 50 rfl rfl
      replace j50 : v50 = (.bool true) := j50
      subst j50
      replace hst : Below _ _ wq := hst
      clear hD hj haft hun
      have e51 := eval_of h51
      have e52 := eval_of h52
      have e53 := eval_of h53
      have e54 := eval_of h54
      refine step_call (f := 22) (args := #[.pointer (some ⟨gk, 0, none⟩), .agg #[.int .i64 p, .int .u64 sh, .int .u64 sl, .int .u64 dh, .int .u64 dl, .int .i64 sp, .int .i64 dp], .int .i64 now, .int .u32 kv]) (wanted_on (t := 50) (u := true) rfl rfl rfl h50) ?_ (check2_w gk gr2 ta tb sa sb tl p sh sl dh dl sp dp now kv true (back2 sa sb ta tb p sh sl dh dl sp dp now now kv tl HKV.out HTL.out HB1.out.1 HB1.out.2.1 (Int.le_refl _) (by omega)) wq (Keep.below HK2.out hst)) ?_
      · clear hK; first | (go_simp; done) | (go_simp; rfl)
      · rintro e w' ⟨he, hbq⟩; exact ⟨_, he, hK _ _ hbq rfl⟩
    · intro listed vals a wq K hD hst hj haft hun hK
      obtain ⟨v50, h50, j50⟩ := hD.dep hj haft 5 50 rfl rfl
      replace j50 : v50 = (.bool true) := j50
      subst j50
      obtain ⟨v55, h55, j55⟩ := hD.dep hj haft 10 55 rfl rfl
      replace j55 : v55 = (.bool true) := j55
      subst j55
      clear hD hj haft hun
      have e50 := eval_of h50
      have e55 := eval_of h55
      refine step_now (v := .bool true) (w' := wq) (wanted_free rfl) ?_ (hK _ _ (Below.refl _ _) rfl)
      clear hK
      first | (go_simp; done) | (go_simp; rfl)
    · intro listed vals a wq K hD hst hj haft hun hK
      obtain ⟨v56, h56, j56⟩ := hD.dep hj haft 11 56 rfl rfl
      replace j56 : v56 = (.bool true) := j56
      subst j56
      clear hD hj haft hun
      have e56 := eval_of h56
      refine step_now (v := .bool true) (w' := wq) (wanted_free rfl) ?_ (hK _ _ (Below.refl _ _) rfl)
      clear hK
      first | (go_simp; done) | (go_simp; rfl)
  intro vals wend hst hj
  have j0 : vals 0 = (.pointer (some ⟨gk, 0, none⟩)) := hj 0 (by decide)
  have j1 : vals 1 = (.agg #[.int .i64 p, .int .u64 sh, .int .u64 sl, .int .u64 dh, .int .u64 dl, .int .i64 sp, .int .i64 dp]) := hj 1 (by decide)
  have j2 : vals 2 = (.int .i64 lt) := hj 2 (by decide)
  have j3 : vals 3 = (.int .u32 kv) := hj 3 (by decide)
  have j4 : vals 4 = (.bool true) := hj 4 (by decide)
  have j5 : vals 5 = (.bool true) := hj 5 (by decide)
  have j6 : vals 6 = (.pointer (some ⟨gk, 0, none⟩)) := hj 6 (by decide)
  have j7 : vals 7 = (.agg #[.int .i64 p, .int .u64 sh, .int .u64 sl, .int .u64 dh, .int .u64 dl, .int .i64 sp, .int .i64 dp]) := hj 7 (by decide)
  have j8 : vals 8 = (.int .i64 now) := hj 8 (by decide)
  have j9 : vals 9 = (.int .u32 kv) := hj 9 (by decide)
  have j10 : vals 10 = (.bool true) := hj 10 (by decide)
  have j11 : vals 11 = (.bool true) := hj 11 (by decide)
  have j12 : vals 12 = (.bool true) := hj 12 (by decide)
  replace hst : Below _ _ wend := hst
  clear hj
  rw [putAll_list]
  simp only [putL, Act.put, List.setIfInBounds_toArray, List.set_cons_zero, List.set_cons_succ, j0, j1, j2, j3, j4, j5, j6, j7, j8, j9, j10, j11, j12]
  clear j0 j1 j2 j3 j4 j5 j6 j7 j8 j9 j10 j11 j12
  have HB_7 := Aside0.mk (below_step HBu.out hst)
  clear HBu
  have Bg8_7 := Aside0.mk (blk_below B8r.out hst)
  clear B8r
  clear hst
  go_wp2
  go_ret
  exact ⟨rfl, HB_7.out⟩
theorem walk_row (sa sb ta tb p sh sl dh dl sp dp now gap : Int) (rot : Bool) (w : World) (_ : True) (_ : True) (_ : True) (hnow : (Lit.int .i64 now).wf = true) (hgap : (Lit.int .u8 gap).wf = true) :
    Calls Try.prog 7 #[.agg #[.int .u64 sa, .int .u64 sb], .agg #[.int .u64 ta, .int .u64 tb], .agg #[.int .i64 p, .int .u64 sh, .int .u64 sl, .int .u64 dh, .int .u64 dl, .int .i64 sp, .int .i64 dp], .int .i64 now, .int .u8 gap, .bool rot] w fun e w' => e = .returned (.bool true) ∧ Below w.heap.size w w' := walk sa sb ta tb p sh sl dh dl sp dp now gap rot w hnow hgap
end Go.Proofs.Ytainkpgplmkiaaa.CookieBackWalk
