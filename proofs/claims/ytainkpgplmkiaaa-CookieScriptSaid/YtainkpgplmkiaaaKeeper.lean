/- cookie's Keeper: contracts of its methods. No condition. -/
import Derived.Test.YtainkpgplmkiaaaCookWin
namespace Go.Proofs.Ytainkpgplmkiaaa.Keeper
open Go Go.RowKit Go.Deep Go.Proofs.YtainkpgplmkiaaaW.PrintWords Go.Proofs.YtainkpgplmkiaaaW.PrintLast Go.Proofs.YtainkpgplmkiaaaW.PrintMore Go.Proofs.Ytainkpgplmkiaaa.MWorld Go.Proofs.Ytainkpgplmkiaaa.Ev Go.Proofs.Ytainkpgplmkiaaa.Rg Go.Proofs.Ytainkpgplmkiaaa.Cook Go.Proofs.Ytainkpgplmkiaaa.HashDef Go.Proofs.Ytainkpgplmkiaaa.CookCookie Go.Proofs.Ytainkpgplmkiaaa.RefCook Go.Proofs.Ytainkpgplmkiaaa.CookWin
set_option linter.unusedVariables false
set_option linter.unusedSimpArgs false
/-- A keeper in block gk; its secrets (one, or two: cells) in block gr. -/
def Keep (gk gr n : Nat) (cs : Array Value) (till : Int) (w : World) : Prop := w.heap[gk]? = some (.cells #[.slice (some ⟨gr, 0, none⟩) n n, .int .i64 till] 108 (0, 0)) ∧ w.heap[gr]? = some (.cells cs 24 (0, 0))
theorem Keep.below {gk gr n : Nat} {cs : Array Value} {till : Int} {w w' : World} (h : Keep gk gr n cs till w) (hb : Below w.heap.size w w') : Keep gk gr n cs till w' := ⟨blk_below h.1 hb, blk_below h.2 hb⟩
set_option maxRecDepth 100000 in
set_option maxHeartbeats 4000000 in
theorem new_any (sa sb : Int) (w : World) : Calls Try.prog 20 #[.agg #[.int .u64 sa, .int .u64 sb]] w fun e w' => ∃ gk gr : Nat, e = .returned (.pointer (some ⟨gk, 0, none⟩)) ∧ w.heap.size ≤ gk ∧ w.heap.size ≤ gr ∧ gk ≠ gr ∧ Keep gk gr 1 #[.int .u64 sa, .int .u64 sb] 0 w' ∧ Below w.heap.size w w' := by
  go_enter Try.func20, Try.ntmps20
  go_upto_region 1 with (first | ((with_reducible refine gate_dst (N := 1) rfl ?_); refine box_event ?hg (N := 1) ?hd (cs := #[.int .u64 sa, .int .u64 sb]) (t := 24) ?hr ?_; (case hd => rfl); (case hg => rfl); (case hr => first | (go_simp; done) | (go_simp; rfl)); intro g1 hgg wx1 hbox hb; have Lg1 := Aside0.mk (show w.heap.size ≤ g1 by rw [hgg]; exact Nat.le_refl _); have HB_1 := Aside0.mk (hb); have Bg1_1 := Aside0.mk hbox; clear hbox hb hgg))
  go_wp2_with (first | ((with_reducible refine gate_dst (N := 3) rfl ?_); refine load_event rfl 24 _ rfl g1 rfl _ _ _ Bg1_1.out Try.underlying24 rfl (by kernel_rfl) ?_) | ((with_reducible refine gate_dst (N := 4) rfl ?_); refine lit_event ?hg (N := 4) ?hd (n := 1) (cs := #[.int .u64 sa, .int .u64 sb]) (t := 24) ?hr ?_; (case hd => rfl); (case hg => rfl); (case hr => first | (go_simp; done) | (go_simp; rfl)); intro gr hgg wx2 hbox hb; have Ng1gr := Aside0.mk (show g1 ≠ gr by rw [hgg]; exact Nat.ne_of_lt (blk_lt Bg1_1.out)); have Lgr := Aside0.mk (show w.heap.size ≤ gr by rw [hgg]; exact below_size HB_1.out); have HB_2 := Aside0.mk (below_step HB_1.out hb); clear HB_1; have Bg1_2 := Aside0.mk (blk_below Bg1_1.out hb); clear Bg1_1; have Bgr_2 := Aside0.mk hbox; clear hbox hb hgg) | ((with_reducible refine gate_dst (N := 6) rfl ?_); refine box_event ?hg (N := 6) ?hd (cs := #[.slice (some ⟨gr, 0, none⟩) 1 1, .int .i64 0]) (t := 108) ?hr ?_; (case hd => rfl); (case hg => rfl); (case hr => first | (go_simp; done) | (go_simp; rfl)); intro gk hgg wx3 hbox hb; have Ng1gk := Aside0.mk (show g1 ≠ gk by rw [hgg]; exact Nat.ne_of_lt (blk_lt Bg1_2.out)); have Ngrgk := Aside0.mk (show gr ≠ gk by rw [hgg]; exact Nat.ne_of_lt (blk_lt Bgr_2.out)); have Lgk := Aside0.mk (show w.heap.size ≤ gk by rw [hgg]; exact below_size HB_2.out); have HB_3 := Aside0.mk (below_step HB_2.out hb); clear HB_2; have Bg1_3 := Aside0.mk (blk_below Bg1_2.out hb); clear Bg1_2; have Bgr_3 := Aside0.mk (blk_below Bgr_2.out hb); clear Bgr_2; have Bgk_3 := Aside0.mk hbox; clear hbox hb hgg))
  go_ret
  exact ⟨gk, gr, rfl, Lgk.out, Lgr.out, Ne.symm Ngrgk.out, ⟨Bgk_3.out, Bgr_3.out⟩, HB_3.out⟩
set_option maxRecDepth 100000 in
set_option maxHeartbeats 4000000 in
theorem now_any (gk gr n : Nat) (hn : 1 ≤ n) (sa sb : Int) (cs : Array Value) (hcs : (cs.toList.drop 0).take 2 = [.int .u64 sa, .int .u64 sb]) (till : Int) (w : World) (hk : Keep gk gr n cs till w) : Calls Try.prog 27 #[.pointer (some ⟨gk, 0, none⟩)] w fun e w' => e = .returned (.agg #[.int .u64 sa, .int .u64 sb]) ∧ Below w.heap.size w w' := by
  have BK := Aside0.mk hk.1
  have BR := Aside0.mk hk.2
  have HCS := Aside0.mk hcs
  have hn1 : decide ((0 : Int) < (n : Int)) = true := decide_eq_true (by omega)
  have hn2 : (0 : Int) < (n : Int) := by omega
  clear hk hcs hn
  go_enter Try.func27, Try.ntmps27
  go_upto_region 1 with (first | ((with_reducible refine gate_dst (N := 2) rfl ?_); refine box_event ?hg (N := 2) ?hd (cs := #[.int .u64 0, .int .u64 0]) (t := 24) ?hr ?_; (case hd => rfl); (case hg => rfl); (case hr => first | (go_simp; done) | (go_simp; rfl)); intro g2 hgg wx1 hbox hb; have Ngkg2 := Aside0.mk (show gk ≠ g2 by rw [hgg]; exact Nat.ne_of_lt (blk_lt BK.out)); have Ngrg2 := Aside0.mk (show gr ≠ g2 by rw [hgg]; exact Nat.ne_of_lt (blk_lt BR.out)); have Lg2 := Aside0.mk (show w.heap.size ≤ g2 by rw [hgg]; exact Nat.le_refl _); have HB_1 := Aside0.mk (hb); have Bgk_1 := Aside0.mk (blk_below BK.out hb); clear BK; have Bgr_1 := Aside0.mk (blk_below BR.out hb); clear BR; have Bg2_1 := Aside0.mk hbox; clear hbox hb hgg))
  go_wp2_with (first | ((with_reducible refine gate_dst (N := 6) rfl ?_); refine load1_event rfl _ _ rfl gk 0 rfl _ _ _ _ Bgk_1.out rfl Try.underlying106 rfl ?_) | ((with_reducible refine gate_dst (N := 8) rfl ?_); refine loadmid_event rfl _ _ rfl gr 0 rfl [.int .u64 sa, .int .u64 sb] _ (blk_range Bgr_1.out 0 [.int .u64 sa, .int .u64 sb] HCS.out) Try.underlying24 rfl (by kernel_rfl) ?_) | ((with_reducible refine gate_store (t := 24) (p := 2) rfl ?_); refine store_event rfl 24 _ _ rfl g2 _ rfl rfl _ _ Bg2_1.out (by kernel_rfl) rfl rfl ?_; intro wx2 hst hu; have HB_2 := Aside0.mk (below_upd HB_1.out hu (below_size HB_1.out) (fun k hk => by cases hk; exact Lg2.out)); clear HB_1; have Bgk_2 := Aside0.mk (Upd.blk hu Bgk_1.out (One.not Ngkg2.out)); clear Bgk_1; have Bgr_2 := Aside0.mk (Upd.blk hu Bgr_1.out (One.not Ngrg2.out)); clear Bgr_1; have Bg2_2 := Aside0.mk hst; clear hst hu Bg2_1))
  exact bodyPost_ret (results_cell_row rfl _ _ g2 24 _ (0, 0) _ rfl Bg2_2.out Try.underlying24 rfl (by kernel_rfl)) rfl ⟨rfl, HB_2.out⟩
set_option maxRecDepth 100000 in
set_option maxHeartbeats 4000000 in
theorem make_any (gk gr n : Nat) (hn : 1 ≤ n) (sa sb : Int) (cs : Array Value) (hcs : (cs.toList.drop 0).take 2 = [.int .u64 sa, .int .u64 sb]) (till : Int) (p sh sl dh dl sp dp now kv : Int) (hkv : ck sa sb p sh sl dh dl sp dp (now / 16) = kv) (w : World) (hk : Keep gk gr n cs till w) : Calls Try.prog 23 #[.pointer (some ⟨gk, 0, none⟩), .agg #[.int .i64 p, .int .u64 sh, .int .u64 sl, .int .u64 dh, .int .u64 dl, .int .i64 sp, .int .i64 dp], .int .i64 now] w fun e w' => e = .returned (.int .u32 kv) ∧ Below w.heap.size w w' := by
  have HK0 := Aside0.mk hk
  have HCS := Aside0.mk hcs
  have HKV := Aside0.mk hkv
  have HN := Aside0.mk hn
  clear hk hcs hkv hn
  go_enter Try.func23, Try.ntmps23
  go_upto_region 1 with (first | ((with_reducible refine gate_dst (N := 4) rfl ?_); refine box_event ?hg (N := 4) ?hd (cs := #[.int .i64 p, .int .u64 sh, .int .u64 sl, .int .u64 dh, .int .u64 dl, .int .i64 sp, .int .i64 dp]) (t := 29) ?hr ?_; (case hd => rfl); (case hg => rfl); (case hr => first | (go_simp; done) | (go_simp; rfl)); intro g4 hgg wx1 hbox hb; have Lg4 := Aside0.mk (show w.heap.size ≤ g4 by rw [hgg]; exact Nat.le_refl _); have HB_1 := Aside0.mk (hb); have Bg4_1 := Aside0.mk hbox; clear hbox hb hgg))
  refine wp_region_rg (by kernel_rfl) (fun x y => Below x.heap.size x y) (fun (i : Nat) (v : Value) (w1 : World) => match i with | 0 => v = (.pointer (some ⟨gk, 0, none⟩)) | 1 => v = (.agg #[.int .u64 sa, .int .u64 sb]) | 2 => v = (.agg #[.int .i64 p, .int .u64 sh, .int .u64 sl, .int .u64 dh, .int .u64 dl, .int .i64 sp, .int .i64 dp]) | 3 => v = (.int .i64 now) | 4 => v = (.int .i64 (now / 16)) | 5 => v = (.int .u32 kv) | 6 => v = (.int .u32 kv) | _ => True) (by kernel_rfl) (by kernel_rfl) below_tr (Below.refl _ _).drew ?hJst1 (obl_list ?hObl1) ?hEnd1
  case hJst1 =>
    intro i v wx wy hi hs0 hs1 hJi
    match i, hi with
    | 0, _ => exact hJi
    | 1, _ => exact hJi
    | 2, _ => exact hJi
    | 3, _ => exact hJi
    | 4, _ => exact hJi
    | 5, _ => exact hJi
    | 6, _ => exact hJi
    | _ + 7, hi => exact absurd hi (by simp)
  case hObl1 =>
    refine ⟨?_, ?_, ?_, ?_, ?_, ?_, ?_,  trivial⟩
    · intro listed vals a wq K hD hst hj haft hun hK
      have h0 := hD.out 0 rfl rfl
      clear hD hj haft hun
      have e0 := eval_of h0
      refine step_now (v := .pointer (some ⟨gk, 0, none⟩)) (w' := wq) (wanted_free rfl) ?_ (hK _ _ (Below.refl _ _) rfl)
      clear hK
      first | (go_simp; done) | (go_simp; rfl)
    · intro listed vals a wq K hD hst hj haft hun hK
      obtain ⟨v7, h7, j7⟩ := hD.dep hj haft 0 7 rfl rfl
      replace j7 : v7 = (.pointer (some ⟨gk, 0, none⟩)) := j7
      subst j7
      replace hst : Below _ _ wq := hst
      clear hD hj haft hun
      have e7 := eval_of h7
      refine step_call (f := 27) (args := #[.pointer (some ⟨gk, 0, none⟩)]) (wanted_free rfl) ?_ (now_any gk gr n HN.out sa sb cs HCS.out till wq (HK0.out.below (below_step HB_1.out hst))) ?_
      · clear hK; first | (go_simp; done) | (go_simp; rfl)
      · rintro e w' ⟨he, hbq⟩; exact ⟨_, he, hK _ _ hbq rfl⟩
    · intro listed vals a wq K hD hst hj haft hun hK
      have h4 := hD.out 4 rfl rfl
      replace hst : Below _ _ wq := hst
      clear hD hj haft hun
      have e4 := eval_of h4
      exact step_now (v := .agg #[.int .i64 p, .int .u64 sh, .int .u64 sl, .int .u64 dh, .int .u64 dl, .int .i64 sp, .int .i64 dp]) (w' := wq) (wanted_free rfl) (rg_loadall rfl e4 (blk_below Bg4_1.out hst) Try.underlying29 rfl (by kernel_rfl)) (hK _ _ (Below.refl _ _) rfl)
    · intro listed vals a wq K hD hst hj haft hun hK
      have h2 := hD.out 2 rfl rfl
      clear hD hj haft hun
      have e2 := eval_of h2
      refine step_now (v := .int .i64 now) (w' := wq) (wanted_free rfl) ?_ (hK _ _ (Below.refl _ _) rfl)
      clear hK
      first | (go_simp; done) | (go_simp; rfl) | (go_simp; (try simp only [IntKind.wrap_u32]); omega)
    · intro listed vals a wq K hD hst hj haft hun hK
      obtain ⟨v10, h10, j10⟩ := hD.dep hj haft 3 10 rfl rfl
      replace j10 : v10 = (.int .i64 now) := j10
      subst j10
      clear hD hj haft hun
      have e10 := eval_of h10
      refine step_call (f := 15) (args := #[.int .i64 now]) (wanted_free rfl) ?_ (window_any now wq) ?_
      · clear hK; first | (go_simp; done) | (go_simp; rfl)
      · rintro e w' ⟨he, hbq⟩; exact ⟨_, he, hK _ _ hbq rfl⟩
    · intro listed vals a wq K hD hst hj haft hun hK
      obtain ⟨v8, h8, j8⟩ := hD.dep hj haft 1 8 rfl rfl
      replace j8 : v8 = (.agg #[.int .u64 sa, .int .u64 sb]) := j8
      subst j8
      obtain ⟨v9, h9, j9⟩ := hD.dep hj haft 2 9 rfl rfl
      replace j9 : v9 = (.agg #[.int .i64 p, .int .u64 sh, .int .u64 sl, .int .u64 dh, .int .u64 dl, .int .i64 sp, .int .i64 dp]) := j9
      subst j9
      obtain ⟨v11, h11, j11⟩ := hD.dep hj haft 4 11 rfl rfl
      replace j11 : v11 = (.int .i64 (now / 16)) := j11
      subst j11
      clear hD hj haft hun
      have e8 := eval_of h8
      have e9 := eval_of h9
      have e11 := eval_of h11
      refine step_call (f := 13) (args := #[.agg #[.int .u64 sa, .int .u64 sb], .agg #[.int .i64 p, .int .u64 sh, .int .u64 sl, .int .u64 dh, .int .u64 dl, .int .i64 sp, .int .i64 dp], .int .i64 (now / 16)]) (wanted_free rfl) ?_ (cookie_w sa sb p sh sl dh dl sp dp (now / 16) kv HKV.out wq) ?_
      · clear hK; first | (go_simp; done) | (go_simp; rfl)
      · rintro e w' ⟨he, hbq⟩; exact ⟨_, he, hK _ _ hbq rfl⟩
    · intro listed vals a wq K hD hst hj haft hun hK
      obtain ⟨v12, h12, j12⟩ := hD.dep hj haft 5 12 rfl rfl
      replace j12 : v12 = (.int .u32 kv) := j12
      subst j12
      clear hD hj haft hun
      have e12 := eval_of h12
      refine step_now (v := .int .u32 kv) (w' := wq) (wanted_free rfl) ?_ (hK _ _ (Below.refl _ _) rfl)
      clear hK
      first | (go_simp; done) | (go_simp; rfl) | (go_simp; (try simp only [IntKind.wrap_u32]); omega)
  intro vals wend hst hj
  have j0 : vals 0 = (.pointer (some ⟨gk, 0, none⟩)) := hj 0 (by decide)
  have j1 : vals 1 = (.agg #[.int .u64 sa, .int .u64 sb]) := hj 1 (by decide)
  have j2 : vals 2 = (.agg #[.int .i64 p, .int .u64 sh, .int .u64 sl, .int .u64 dh, .int .u64 dl, .int .i64 sp, .int .i64 dp]) := hj 2 (by decide)
  have j3 : vals 3 = (.int .i64 now) := hj 3 (by decide)
  have j4 : vals 4 = (.int .i64 (now / 16)) := hj 4 (by decide)
  have j5 : vals 5 = (.int .u32 kv) := hj 5 (by decide)
  have j6 : vals 6 = (.int .u32 kv) := hj 6 (by decide)
  replace hst : Below _ _ wend := hst
  clear hj
  rw [putAll_list]
  simp only [putL, Act.put, List.setIfInBounds_toArray, List.set_cons_zero, List.set_cons_succ, j0, j1, j2, j3, j4, j5, j6]
  clear j0 j1 j2 j3 j4 j5 j6
  have HBF := Aside0.mk (below_step HB_1.out hst)
  clear hst
  go_wp2
  go_ret
  exact ⟨rfl, HBF.out⟩
set_option maxRecDepth 100000 in
set_option maxHeartbeats 8000000 in
theorem check1 (gk gr : Nat) (a1 b1 till p sh sl dh dl sp dp now nn k1 k2 : Int) (hk1 : Aside0 (ck a1 b1 p sh sl dh dl sp dp (now / 16) = k1)) (hk2 : Aside0 (ck a1 b1 p sh sl dh dl sp dp (IntKind.i64.wrap (now / 16 - 1)) = k2)) (w : World) (hk : Keep gk gr 1 #[.int .u64 a1, .int .u64 b1] till w) : Calls Try.prog 22 #[.pointer (some ⟨gk, 0, none⟩), .agg #[.int .i64 p, .int .u64 sh, .int .u64 sl, .int .u64 dh, .int .u64 dl, .int .i64 sp, .int .i64 dp], .int .i64 now, .int .u32 nn] w fun e w' => e = .returned (.bool ((k1 == nn) || (k2 == nn))) ∧ Below w.heap.size w w' := by
  have BK := Aside0.mk hk.1
  have BR := Aside0.mk hk.2
  clear hk
  obtain ⟨wq1, hw1⟩ : ∃ x : Int, IntKind.i64.wrap (now / 16 - 1) = x := ⟨_, rfl⟩
  go_enter Try.func22, Try.ntmps22
  go_upto_region 2 with (first | ((with_reducible refine gate_dst (N := 5) rfl ?_); refine box_event ?hg (N := 5) ?hd (cs := #[.int .i64 p, .int .u64 sh, .int .u64 sl, .int .u64 dh, .int .u64 dl, .int .i64 sp, .int .i64 dp]) (t := 29) ?hr ?_; (case hd => rfl); (case hg => rfl); (case hr => first | (go_simp; done) | (go_simp; rfl)); intro g5 hgg wx1 hbox hb; have Ngkg5 := Aside0.mk (show gk ≠ g5 by rw [hgg]; exact Nat.ne_of_lt (blk_lt BK.out)); have Ngrg5 := Aside0.mk (show gr ≠ g5 by rw [hgg]; exact Nat.ne_of_lt (blk_lt BR.out)); have Lg5 := Aside0.mk (show w.heap.size ≤ g5 by rw [hgg]; exact Nat.le_refl _); have HB_1 := Aside0.mk (hb); have Bgk_1 := Aside0.mk (blk_below BK.out hb); clear BK; have Bgr_1 := Aside0.mk (blk_below BR.out hb); clear BR; have Bg5_1 := Aside0.mk hbox; clear hbox hb hgg) | (go_at_call 15; refine (window_any now _).mono ?_; rintro e wx2 ⟨rfl, hb⟩; have HB_2 := Aside0.mk (below_step HB_1.out hb); clear HB_1; have Bgk_2 := Aside0.mk (blk_below Bgk_1.out hb); clear Bgk_1; have Bgr_2 := Aside0.mk (blk_below Bgr_1.out hb); clear Bgr_1; have Bg5_2 := Aside0.mk (blk_below Bg5_1.out hb); clear Bg5_1; clear hb))
  go_upto_region 3 with (first | ((with_reducible refine gate_dst (N := 17) rfl ?_); refine load1_event rfl _ _ rfl gk 0 rfl _ _ _ _ Bgk_2.out rfl Try.underlying106 rfl ?_))
  refine wp_loop_rounds 2 ?_
  rw [rounds_succ]
  go_upto_region 4 with fail
  go_upto_region 5 with (first | ((with_reducible refine gate_dst (N := 23) rfl ?_); refine loadmid_event rfl _ _ rfl gr 0 rfl [.int .u64 a1, .int .u64 b1] _ (blk_range Bgr_2.out 0 [.int .u64 a1, .int .u64 b1] rfl) Try.underlying24 rfl (by kernel_rfl) ?_) | ((with_reducible refine gate_dst (N := 11) rfl ?_); refine box_event ?hg (N := 11) ?hd (cs := #[.int .u64 0, .int .u64 0]) (t := 24) ?hr ?_; (case hd => rfl); (case hg => rfl); (case hr => first | (go_simp; done) | (go_simp; rfl)); intro gs0 hgg wx3 hbox hb; have Ngkgs0 := Aside0.mk (show gk ≠ gs0 by rw [hgg]; exact Nat.ne_of_lt (blk_lt Bgk_2.out)); have Ngrgs0 := Aside0.mk (show gr ≠ gs0 by rw [hgg]; exact Nat.ne_of_lt (blk_lt Bgr_2.out)); have Ng5gs0 := Aside0.mk (show g5 ≠ gs0 by rw [hgg]; exact Nat.ne_of_lt (blk_lt Bg5_2.out)); have Lgs0 := Aside0.mk (show w.heap.size ≤ gs0 by rw [hgg]; exact below_size HB_2.out); have HB_3 := Aside0.mk (below_step HB_2.out hb); clear HB_2; have Bgk_3 := Aside0.mk (blk_below Bgk_2.out hb); clear Bgk_2; have Bgr_3 := Aside0.mk (blk_below Bgr_2.out hb); clear Bgr_2; have Bg5_3 := Aside0.mk (blk_below Bg5_2.out hb); clear Bg5_2; have Bgs0_3 := Aside0.mk hbox; clear hbox hb hgg) | ((with_reducible refine gate_store (t := 24) (p := 11) rfl ?_); refine store_event rfl 24 _ _ rfl gs0 _ rfl rfl _ _ Bgs0_3.out (by kernel_rfl) rfl rfl ?_; intro wx4 hst hu; have HB_4 := Aside0.mk (below_upd HB_3.out hu (below_size HB_3.out) (fun k hk => by cases hk; exact Lgs0.out)); clear HB_3; have Bgk_4 := Aside0.mk (Upd.blk hu Bgk_3.out (One.not Ngkgs0.out)); clear Bgk_3; have Bgr_4 := Aside0.mk (Upd.blk hu Bgr_3.out (One.not Ngrgs0.out)); clear Bgr_3; have Bg5_4 := Aside0.mk (Upd.blk hu Bg5_3.out (One.not Ng5gs0.out)); clear Bg5_3; have Bgs0_4 := Aside0.mk hst; clear hst hu Bgs0_3))
  go_upto_region 6 with (fail)
  refine wp_region_rg_seq (fun x y => Below x.heap.size x y) (fun (i : Nat) (v : Value) (w1 : World) => match i with | 0 => v = (.agg #[.int .u64 a1, .int .u64 b1]) | 1 => v = (.agg #[.int .i64 p, .int .u64 sh, .int .u64 sl, .int .u64 dh, .int .u64 dl, .int .i64 sp, .int .i64 dp]) | 2 => v = (.int .i64 (now / 16)) | 3 => v = (.int .u32 k1) | 4 => v = (.int .u32 nn) | 5 => v = (.bool ((k1 == nn))) | 6 => v = (.bool ((k1 == nn))) | 7 => ((k1 == nn)) = false → v = (.agg #[.int .u64 a1, .int .u64 b1]) | 8 => ((k1 == nn)) = false → v = (.agg #[.int .i64 p, .int .u64 sh, .int .u64 sl, .int .u64 dh, .int .u64 dl, .int .i64 sp, .int .i64 dp]) | 9 => ((k1 == nn)) = false → v = (.int .i64 (now / 16)) | 10 => ((k1 == nn)) = false → v = (.int .i64 wq1) | 11 => ((k1 == nn)) = false → v = (.int .u32 k2) | 12 => ((k1 == nn)) = false → v = (.int .u32 nn) | 13 => ((k1 == nn)) = false → v = (.bool ((k2 == nn))) | 14 => v = (.bool (((k1 == nn) || (k2 == nn)))) | _ => True) (by kernel_rfl) (by kernel_rfl) below_tr (Below.refl _ _) ?hJst2 ?hObl2 ?hEnd2
  case hJst2 =>
    intro i v wx wy hi hs0 hs1 hJi
    match i, hi with
    | 0, _ => exact hJi
    | 1, _ => exact hJi
    | 2, _ => exact hJi
    | 3, _ => exact hJi
    | 4, _ => exact hJi
    | 5, _ => exact hJi
    | 6, _ => exact hJi
    | 7, _ => exact hJi
    | 8, _ => exact hJi
    | 9, _ => exact hJi
    | 10, _ => exact hJi
    | 11, _ => exact hJi
    | 12, _ => exact hJi
    | 13, _ => exact hJi
    | 14, _ => exact hJi
    | _ + 15, hi => exact absurd hi (by simp)
  case hObl2 =>
    refine ⟨?_, ?_, ?_, ?_, ?_, ?_, ?_, ?_, ?_, ?_, ?_, ?_, ?_, ?_, ?_,  trivial⟩
    · intro listed vals a wq K hD hst hj haft hun hK
      have h11 := hD.out 11 rfl rfl
      replace hst : Below _ _ wq := hst
      clear hD hj haft hun
      have e11 := eval_of h11
      exact step_now (v := .agg #[.int .u64 a1, .int .u64 b1]) (w' := wq) (wanted_free rfl) (rg_loadall rfl e11 (blk_below Bgs0_4.out hst) Try.underlying24 rfl (by kernel_rfl)) (hK _ _ (Below.refl _ _) rfl)
    · intro listed vals a wq K hD hst hj haft hun hK
      have h5 := hD.out 5 rfl rfl
      replace hst : Below _ _ wq := hst
      clear hD hj haft hun
      have e5 := eval_of h5
      exact step_now (v := .agg #[.int .i64 p, .int .u64 sh, .int .u64 sl, .int .u64 dh, .int .u64 dl, .int .i64 sp, .int .i64 dp]) (w' := wq) (wanted_free rfl) (rg_loadall rfl e5 (blk_below Bg5_4.out hst) Try.underlying29 rfl (by kernel_rfl)) (hK _ _ (Below.refl _ _) rfl)
    · intro listed vals a wq K hD hst hj haft hun hK
      have h9 := hD.out 9 rfl rfl
      clear hD hj haft hun
      have e9 := eval_of h9
      refine step_now (v := .int .i64 (now / 16)) (w' := wq) (wanted_free rfl) ?_ (hK _ _ (Below.refl _ _) rfl)
      clear hK
      first | (go_simp; done) | (go_simp; rfl) | (go_simp; (try simp only [IntKind.wrap_u32]); omega)
    · intro listed vals a wq K hD hst hj haft hun hK
      obtain ⟨v34, h34, j34⟩ := hD.dep hj haft 0 34 rfl rfl
      replace j34 : v34 = (.agg #[.int .u64 a1, .int .u64 b1]) := j34
      subst j34
      obtain ⟨v35, h35, j35⟩ := hD.dep hj haft 1 35 rfl rfl
      replace j35 : v35 = (.agg #[.int .i64 p, .int .u64 sh, .int .u64 sl, .int .u64 dh, .int .u64 dl, .int .i64 sp, .int .i64 dp]) := j35
      subst j35
      obtain ⟨v36, h36, j36⟩ := hD.dep hj haft 2 36 rfl rfl
      replace j36 : v36 = (.int .i64 (now / 16)) := j36
      subst j36
      clear hD hj haft hun
      have e34 := eval_of h34
      have e35 := eval_of h35
      have e36 := eval_of h36
      refine step_call (f := 13) (args := #[.agg #[.int .u64 a1, .int .u64 b1], .agg #[.int .i64 p, .int .u64 sh, .int .u64 sl, .int .u64 dh, .int .u64 dl, .int .i64 sp, .int .i64 dp], .int .i64 (now / 16)]) (wanted_free rfl) ?_ (cookie_w a1 b1 p sh sl dh dl sp dp (now / 16) k1 hk1.out wq) ?_
      · clear hK; first | (go_simp; done) | (go_simp; rfl)
      · rintro e w' ⟨he, hbq⟩; exact ⟨_, he, hK _ _ hbq rfl⟩
    · intro listed vals a wq K hD hst hj haft hun hK
      have h3 := hD.out 3 rfl rfl
      clear hD hj haft hun
      have e3 := eval_of h3
      refine step_now (v := .int .u32 nn) (w' := wq) (wanted_free rfl) ?_ (hK _ _ (Below.refl _ _) rfl)
      clear hK
      first | (go_simp; done) | (go_simp; rfl) | (go_simp; (try simp only [IntKind.wrap_u32]); omega)
    · intro listed vals a wq K hD hst hj haft hun hK
      obtain ⟨v37, h37, j37⟩ := hD.dep hj haft 3 37 rfl rfl
      replace j37 : v37 = (.int .u32 k1) := j37
      subst j37
      obtain ⟨v38, h38, j38⟩ := hD.dep hj haft 4 38 rfl rfl
      replace j38 : v38 = (.int .u32 nn) := j38
      subst j38
      clear hD hj haft hun
      have e37 := eval_of h37
      have e38 := eval_of h38
      refine step_now (v := .bool ((k1 == nn))) (w' := wq) (wanted_free rfl) ?_ (hK _ _ (Below.refl _ _) rfl)
      clear hK
      first | (go_simp; done) | (go_simp; rfl)
    · intro listed vals a wq K hD hst hj haft hun hK
      obtain ⟨v39, h39, j39⟩ := hD.dep hj haft 5 39 rfl rfl
      replace j39 : v39 = (.bool ((k1 == nn))) := j39
      subst j39
      clear hD hj haft hun
      have e39 := eval_of h39
      refine step_now (v := .bool ((k1 == nn))) (w' := wq) (wanted_free rfl) ?_ (hK _ _ (Below.refl _ _) rfl)
      clear hK
      first | (go_simp; done) | (go_simp; rfl)
    · intro listed vals a wq K hD hst hj haft hun hK
      obtain ⟨v40, h40, j40⟩ := hD.dep hj haft 6 40 rfl rfl
      replace j40 : v40 = (.bool ((k1 == nn))) := j40
      subst j40
      have h11 := hD.out 11 rfl rfl
      replace hst : Below _ _ wq := hst
      clear hD hj haft hun
      rcases hE : ((k1 == nn)) with _ | _
      · rw [hE] at h40
        have e11 := eval_of h11
        exact step_now (v := .agg #[.int .u64 a1, .int .u64 b1]) (w' := wq) (wanted_on (t := 40) (u := false) rfl rfl rfl h40) (rg_loadall rfl e11 (blk_below Bgs0_4.out hst) Try.underlying24 rfl (by kernel_rfl)) (hK _ _ (Below.refl _ _) (fun _ => rfl))
      · rw [hE] at h40
        exact step_off (wanted_off (t := 40) (u := false) rfl rfl rfl h40) (hK _ _ (Below.refl _ _) (fun h => by rw [hE] at h; cases h))
    · intro listed vals a wq K hD hst hj haft hun hK
      obtain ⟨v40, h40, j40⟩ := hD.dep hj haft 6 40 rfl rfl
      replace j40 : v40 = (.bool ((k1 == nn))) := j40
      subst j40
      have h5 := hD.out 5 rfl rfl
      replace hst : Below _ _ wq := hst
      clear hD hj haft hun
      rcases hE : ((k1 == nn)) with _ | _
      · rw [hE] at h40
        have e5 := eval_of h5
        exact step_now (v := .agg #[.int .i64 p, .int .u64 sh, .int .u64 sl, .int .u64 dh, .int .u64 dl, .int .i64 sp, .int .i64 dp]) (w' := wq) (wanted_on (t := 40) (u := false) rfl rfl rfl h40) (rg_loadall rfl e5 (blk_below Bg5_4.out hst) Try.underlying29 rfl (by kernel_rfl)) (hK _ _ (Below.refl _ _) (fun _ => rfl))
      · rw [hE] at h40
        exact step_off (wanted_off (t := 40) (u := false) rfl rfl rfl h40) (hK _ _ (Below.refl _ _) (fun h => by rw [hE] at h; cases h))
    · intro listed vals a wq K hD hst hj haft hun hK
      obtain ⟨v40, h40, j40⟩ := hD.dep hj haft 6 40 rfl rfl
      replace j40 : v40 = (.bool ((k1 == nn))) := j40
      subst j40
      have h9 := hD.out 9 rfl rfl
      clear hD hj haft hun
      rcases hE : ((k1 == nn)) with _ | _
      · rw [hE] at h40
        have e9 := eval_of h9
        refine step_now (v := .int .i64 (now / 16)) (w' := wq) (wanted_on (t := 40) (u := false) rfl rfl rfl h40) ?_ (hK _ _ (Below.refl _ _) (fun _ => rfl))
        clear hK
        first | (go_simp; done) | (go_simp; rfl) | (go_simp; (try simp only [IntKind.wrap_u32]); omega)
      · rw [hE] at h40
        exact step_off (wanted_off (t := 40) (u := false) rfl rfl rfl h40) (hK _ _ (Below.refl _ _) (fun h => by rw [hE] at h; cases h))
    · intro listed vals a wq K hD hst hj haft hun hK
      obtain ⟨v43, h43, j43⟩ := hD.dep hj haft 9 43 rfl rfl
      replace j43 : ((k1 == nn)) = false → v43 = (.int .i64 (now / 16)) := j43
      obtain ⟨v40, h40, j40⟩ := hD.dep hj haft 6 40 rfl rfl
      replace j40 : v40 = (.bool ((k1 == nn))) := j40
      subst j40
      clear hD hj haft hun
      rcases hE : ((k1 == nn)) with _ | _
      · rw [hE] at h40
        obtain rfl := j43 hE
        have e43 := eval_of h43
        refine step_now (v := .int .i64 wq1) (w' := wq) (wanted_on (t := 40) (u := false) rfl rfl rfl h40) ?_ (hK _ _ (Below.refl _ _) (fun _ => rfl))
        clear hK
        first | (go_simp; done) | (go_simp; rfl) | (go_simp; (try simp only [IntKind.wrap_u32]); omega)
      · rw [hE] at h40
        exact step_off (wanted_off (t := 40) (u := false) rfl rfl rfl h40) (hK _ _ (Below.refl _ _) (fun h => by rw [hE] at h; cases h))
    · intro listed vals a wq K hD hst hj haft hun hK
      obtain ⟨v41, h41, j41⟩ := hD.dep hj haft 7 41 rfl rfl
      replace j41 : ((k1 == nn)) = false → v41 = (.agg #[.int .u64 a1, .int .u64 b1]) := j41
      obtain ⟨v42, h42, j42⟩ := hD.dep hj haft 8 42 rfl rfl
      replace j42 : ((k1 == nn)) = false → v42 = (.agg #[.int .i64 p, .int .u64 sh, .int .u64 sl, .int .u64 dh, .int .u64 dl, .int .i64 sp, .int .i64 dp]) := j42
      obtain ⟨v44, h44, j44⟩ := hD.dep hj haft 10 44 rfl rfl
      replace j44 : ((k1 == nn)) = false → v44 = (.int .i64 wq1) := j44
      obtain ⟨v40, h40, j40⟩ := hD.dep hj haft 6 40 rfl rfl
      replace j40 : v40 = (.bool ((k1 == nn))) := j40
      subst j40
      clear hD hj haft hun
      rcases hE : ((k1 == nn)) with _ | _
      · rw [hE] at h40
        obtain rfl := j41 hE
        obtain rfl := j42 hE
        obtain rfl := j44 hE
        have e41 := eval_of h41
        have e42 := eval_of h42
        have e44 := eval_of h44
        refine step_call (f := 13) (args := #[.agg #[.int .u64 a1, .int .u64 b1], .agg #[.int .i64 p, .int .u64 sh, .int .u64 sl, .int .u64 dh, .int .u64 dl, .int .i64 sp, .int .i64 dp], .int .i64 wq1]) (wanted_on (t := 40) (u := false) rfl rfl rfl h40) ?_ (cookie_w a1 b1 p sh sl dh dl sp dp wq1 k2 (by rw [← hw1]; exact hk2.out) wq) ?_
        · clear hK; first | (go_simp; done) | (go_simp; rfl)
        · rintro e w' ⟨he, hbq⟩; exact ⟨_, he, hK _ _ hbq (fun _ => rfl)⟩
      · rw [hE] at h40
        exact step_off (wanted_off (t := 40) (u := false) rfl rfl rfl h40) (hK _ _ (Below.refl _ _) (fun h => by rw [hE] at h; cases h))
    · intro listed vals a wq K hD hst hj haft hun hK
      obtain ⟨v40, h40, j40⟩ := hD.dep hj haft 6 40 rfl rfl
      replace j40 : v40 = (.bool ((k1 == nn))) := j40
      subst j40
      have h3 := hD.out 3 rfl rfl
      clear hD hj haft hun
      rcases hE : ((k1 == nn)) with _ | _
      · rw [hE] at h40
        have e3 := eval_of h3
        refine step_now (v := .int .u32 nn) (w' := wq) (wanted_on (t := 40) (u := false) rfl rfl rfl h40) ?_ (hK _ _ (Below.refl _ _) (fun _ => rfl))
        clear hK
        first | (go_simp; done) | (go_simp; rfl) | (go_simp; (try simp only [IntKind.wrap_u32]); omega)
      · rw [hE] at h40
        exact step_off (wanted_off (t := 40) (u := false) rfl rfl rfl h40) (hK _ _ (Below.refl _ _) (fun h => by rw [hE] at h; cases h))
    · intro listed vals a wq K hD hst hj haft hun hK
      obtain ⟨v45, h45, j45⟩ := hD.dep hj haft 11 45 rfl rfl
      replace j45 : ((k1 == nn)) = false → v45 = (.int .u32 k2) := j45
      obtain ⟨v46, h46, j46⟩ := hD.dep hj haft 12 46 rfl rfl
      replace j46 : ((k1 == nn)) = false → v46 = (.int .u32 nn) := j46
      obtain ⟨v40, h40, j40⟩ := hD.dep hj haft 6 40 rfl rfl
      replace j40 : v40 = (.bool ((k1 == nn))) := j40
      subst j40
      clear hD hj haft hun
      rcases hE : ((k1 == nn)) with _ | _
      · rw [hE] at h40
        obtain rfl := j45 hE
        obtain rfl := j46 hE
        have e45 := eval_of h45
        have e46 := eval_of h46
        refine step_now (v := .bool ((k2 == nn))) (w' := wq) (wanted_on (t := 40) (u := false) rfl rfl rfl h40) ?_ (hK _ _ (Below.refl _ _) (fun _ => rfl))
        clear hK
        first | (go_simp; done) | (go_simp; rfl)
      · rw [hE] at h40
        exact step_off (wanted_off (t := 40) (u := false) rfl rfl rfl h40) (hK _ _ (Below.refl _ _) (fun h => by rw [hE] at h; cases h))
    · intro listed vals a wq K hD hst hj haft hun hK
      obtain ⟨v40, h40, j40⟩ := hD.dep hj haft 6 40 rfl rfl
      replace j40 : v40 = (.bool ((k1 == nn))) := j40
      subst j40
      obtain ⟨v47, h47, j47⟩ := hD.dep hj haft 13 47 rfl rfl
      replace j47 : ((k1 == nn)) = false → v47 = (.bool ((k2 == nn))) := j47
      clear hD hj haft hun
      rcases hE : ((k1 == nn)) with _ | _
      · rw [hE] at h40
        obtain rfl := j47 hE
        have e40 := eval_of h40
        have e47 := eval_of h47
        refine step_now (v := .bool (((k1 == nn) || (k2 == nn)))) (w' := wq) (wanted_free rfl) ?_ (hK _ _ (Below.refl _ _) rfl)
        rw [hE]
        clear hK
        first | (go_simp; done) | (go_simp; rfl) | (go_simp; (try simp only [IntKind.wrap_u32]); omega)
      · rw [hE] at h40
        have e40 := eval_of h40
        have e47 := eval_of h47
        refine step_now (v := .bool (((k1 == nn) || (k2 == nn)))) (w' := wq) (wanted_free rfl) ?_ (hK _ _ (Below.refl _ _) rfl)
        rw [hE]
        clear hK
        first | (go_simp; done) | (go_simp; rfl) | (go_simp; (try simp only [IntKind.wrap_u32]); omega)
  intro vals wend hst hj
  have j0 : vals 0 = (.agg #[.int .u64 a1, .int .u64 b1]) := hj 0 (by decide)
  have j1 : vals 1 = (.agg #[.int .i64 p, .int .u64 sh, .int .u64 sl, .int .u64 dh, .int .u64 dl, .int .i64 sp, .int .i64 dp]) := hj 1 (by decide)
  have j2 : vals 2 = (.int .i64 (now / 16)) := hj 2 (by decide)
  have j3 : vals 3 = (.int .u32 k1) := hj 3 (by decide)
  have j4 : vals 4 = (.int .u32 nn) := hj 4 (by decide)
  have j5 : vals 5 = (.bool ((k1 == nn))) := hj 5 (by decide)
  have j6 : vals 6 = (.bool ((k1 == nn))) := hj 6 (by decide)
  have j14 : vals 14 = (.bool (((k1 == nn) || (k2 == nn)))) := hj 14 (by decide)
  replace hst : Below _ _ wend := hst
  clear hj
  rw [putAll_list]
  simp only [putL, Act.put, List.setIfInBounds_toArray, List.set_cons_zero, List.set_cons_succ, j0, j1, j2, j3, j4, j5, j6, j14]
  clear j0 j1 j2 j3 j4 j5 j6 j14
  generalize vals 7 = u41_
  generalize vals 8 = u42_
  generalize vals 9 = u43_
  generalize vals 10 = u44_
  generalize vals 11 = u45_
  generalize vals 12 = u46_
  generalize vals 13 = u47_
  have HB_5 := Aside0.mk (below_step HB_4.out hst)
  clear HB_4
  have Bgk_5 := Aside0.mk (blk_below Bgk_4.out hst)
  clear Bgk_4
  have Bgr_5 := Aside0.mk (blk_below Bgr_4.out hst)
  clear Bgr_4
  have Bg5_5 := Aside0.mk (blk_below Bg5_4.out hst)
  clear Bg5_4
  have Bgs0_5 := Aside0.mk (blk_below Bgs0_4.out hst)
  clear Bgs0_4
  clear hst
  rcases hE0 : (((k1 == nn) || (k2 == nn))) with _ | _
  · go_wp2
    rw [rounds_succ]
    go_wp2
    go_ret
    exact ⟨by simp [hE0], HB_5.out⟩
  go_wp2
  go_ret
  exact ⟨by simp [hE0], HB_5.out⟩
set_option maxRecDepth 100000 in
set_option maxHeartbeats 8000000 in
theorem check2 (gk gr : Nat) (a1 b1 a2 b2 till p sh sl dh dl sp dp now nn k1 k2 k3 k4 : Int) (hk1 : Aside0 (ck a1 b1 p sh sl dh dl sp dp (now / 16) = k1)) (hk2 : Aside0 (ck a1 b1 p sh sl dh dl sp dp (IntKind.i64.wrap (now / 16 - 1)) = k2)) (hk3 : Aside0 (ck a2 b2 p sh sl dh dl sp dp (now / 16) = k3)) (hk4 : Aside0 (ck a2 b2 p sh sl dh dl sp dp (IntKind.i64.wrap (now / 16 - 1)) = k4)) (w : World) (hk : Keep gk gr 2 #[.int .u64 a1, .int .u64 b1, .int .u64 a2, .int .u64 b2] till w) : Calls Try.prog 22 #[.pointer (some ⟨gk, 0, none⟩), .agg #[.int .i64 p, .int .u64 sh, .int .u64 sl, .int .u64 dh, .int .u64 dl, .int .i64 sp, .int .i64 dp], .int .i64 now, .int .u32 nn] w fun e w' => e = .returned (.bool (((k1 == nn) || (k2 == nn)) || (!(decide (till < now / 16)) && ((k3 == nn) || (k4 == nn))))) ∧ Below w.heap.size w w' := by
  have BK := Aside0.mk hk.1
  have BR := Aside0.mk hk.2
  clear hk
  obtain ⟨wq1, hw1⟩ : ∃ x : Int, IntKind.i64.wrap (now / 16 - 1) = x := ⟨_, rfl⟩
  go_enter Try.func22, Try.ntmps22
  go_upto_region 2 with (first | ((with_reducible refine gate_dst (N := 5) rfl ?_); refine box_event ?hg (N := 5) ?hd (cs := #[.int .i64 p, .int .u64 sh, .int .u64 sl, .int .u64 dh, .int .u64 dl, .int .i64 sp, .int .i64 dp]) (t := 29) ?hr ?_; (case hd => rfl); (case hg => rfl); (case hr => first | (go_simp; done) | (go_simp; rfl)); intro g5 hgg wx1 hbox hb; have Ngkg5 := Aside0.mk (show gk ≠ g5 by rw [hgg]; exact Nat.ne_of_lt (blk_lt BK.out)); have Ngrg5 := Aside0.mk (show gr ≠ g5 by rw [hgg]; exact Nat.ne_of_lt (blk_lt BR.out)); have Lg5 := Aside0.mk (show w.heap.size ≤ g5 by rw [hgg]; exact Nat.le_refl _); have HB_1 := Aside0.mk (hb); have Bgk_1 := Aside0.mk (blk_below BK.out hb); clear BK; have Bgr_1 := Aside0.mk (blk_below BR.out hb); clear BR; have Bg5_1 := Aside0.mk hbox; clear hbox hb hgg) | (go_at_call 15; refine (window_any now _).mono ?_; rintro e wx2 ⟨rfl, hb⟩; have HB_2 := Aside0.mk (below_step HB_1.out hb); clear HB_1; have Bgk_2 := Aside0.mk (blk_below Bgk_1.out hb); clear Bgk_1; have Bgr_2 := Aside0.mk (blk_below Bgr_1.out hb); clear Bgr_1; have Bg5_2 := Aside0.mk (blk_below Bg5_1.out hb); clear Bg5_1; clear hb))
  go_upto_region 3 with (first | ((with_reducible refine gate_dst (N := 17) rfl ?_); refine load1_event rfl _ _ rfl gk 0 rfl _ _ _ _ Bgk_2.out rfl Try.underlying106 rfl ?_))
  refine wp_loop_rounds 3 ?_
  rw [rounds_succ]
  go_upto_region 4 with fail
  go_upto_region 5 with (first | ((with_reducible refine gate_dst (N := 23) rfl ?_); refine loadmid_event rfl _ _ rfl gr 0 rfl [.int .u64 a1, .int .u64 b1] _ (blk_range Bgr_2.out 0 [.int .u64 a1, .int .u64 b1] rfl) Try.underlying24 rfl (by kernel_rfl) ?_) | ((with_reducible refine gate_dst (N := 11) rfl ?_); refine box_event ?hg (N := 11) ?hd (cs := #[.int .u64 0, .int .u64 0]) (t := 24) ?hr ?_; (case hd => rfl); (case hg => rfl); (case hr => first | (go_simp; done) | (go_simp; rfl)); intro gs0 hgg wx3 hbox hb; have Ngkgs0 := Aside0.mk (show gk ≠ gs0 by rw [hgg]; exact Nat.ne_of_lt (blk_lt Bgk_2.out)); have Ngrgs0 := Aside0.mk (show gr ≠ gs0 by rw [hgg]; exact Nat.ne_of_lt (blk_lt Bgr_2.out)); have Ng5gs0 := Aside0.mk (show g5 ≠ gs0 by rw [hgg]; exact Nat.ne_of_lt (blk_lt Bg5_2.out)); have Lgs0 := Aside0.mk (show w.heap.size ≤ gs0 by rw [hgg]; exact below_size HB_2.out); have HB_3 := Aside0.mk (below_step HB_2.out hb); clear HB_2; have Bgk_3 := Aside0.mk (blk_below Bgk_2.out hb); clear Bgk_2; have Bgr_3 := Aside0.mk (blk_below Bgr_2.out hb); clear Bgr_2; have Bg5_3 := Aside0.mk (blk_below Bg5_2.out hb); clear Bg5_2; have Bgs0_3 := Aside0.mk hbox; clear hbox hb hgg) | ((with_reducible refine gate_store (t := 24) (p := 11) rfl ?_); refine store_event rfl 24 _ _ rfl gs0 _ rfl rfl _ _ Bgs0_3.out (by kernel_rfl) rfl rfl ?_; intro wx4 hst hu; have HB_4 := Aside0.mk (below_upd HB_3.out hu (below_size HB_3.out) (fun k hk => by cases hk; exact Lgs0.out)); clear HB_3; have Bgk_4 := Aside0.mk (Upd.blk hu Bgk_3.out (One.not Ngkgs0.out)); clear Bgk_3; have Bgr_4 := Aside0.mk (Upd.blk hu Bgr_3.out (One.not Ngrgs0.out)); clear Bgr_3; have Bg5_4 := Aside0.mk (Upd.blk hu Bg5_3.out (One.not Ng5gs0.out)); clear Bg5_3; have Bgs0_4 := Aside0.mk hst; clear hst hu Bgs0_3))
  go_upto_region 6 with (fail)
  refine wp_region_rg_seq (fun x y => Below x.heap.size x y) (fun (i : Nat) (v : Value) (w1 : World) => match i with | 0 => v = (.agg #[.int .u64 a1, .int .u64 b1]) | 1 => v = (.agg #[.int .i64 p, .int .u64 sh, .int .u64 sl, .int .u64 dh, .int .u64 dl, .int .i64 sp, .int .i64 dp]) | 2 => v = (.int .i64 (now / 16)) | 3 => v = (.int .u32 k1) | 4 => v = (.int .u32 nn) | 5 => v = (.bool ((k1 == nn))) | 6 => v = (.bool ((k1 == nn))) | 7 => ((k1 == nn)) = false → v = (.agg #[.int .u64 a1, .int .u64 b1]) | 8 => ((k1 == nn)) = false → v = (.agg #[.int .i64 p, .int .u64 sh, .int .u64 sl, .int .u64 dh, .int .u64 dl, .int .i64 sp, .int .i64 dp]) | 9 => ((k1 == nn)) = false → v = (.int .i64 (now / 16)) | 10 => ((k1 == nn)) = false → v = (.int .i64 wq1) | 11 => ((k1 == nn)) = false → v = (.int .u32 k2) | 12 => ((k1 == nn)) = false → v = (.int .u32 nn) | 13 => ((k1 == nn)) = false → v = (.bool ((k2 == nn))) | 14 => v = (.bool (((k1 == nn) || (k2 == nn)))) | _ => True) (by kernel_rfl) (by kernel_rfl) below_tr (Below.refl _ _) ?hJst3 ?hObl3 ?hEnd3
  case hJst3 =>
    intro i v wx wy hi hs0 hs1 hJi
    match i, hi with
    | 0, _ => exact hJi
    | 1, _ => exact hJi
    | 2, _ => exact hJi
    | 3, _ => exact hJi
    | 4, _ => exact hJi
    | 5, _ => exact hJi
    | 6, _ => exact hJi
    | 7, _ => exact hJi
    | 8, _ => exact hJi
    | 9, _ => exact hJi
    | 10, _ => exact hJi
    | 11, _ => exact hJi
    | 12, _ => exact hJi
    | 13, _ => exact hJi
    | 14, _ => exact hJi
    | _ + 15, hi => exact absurd hi (by simp)
  case hObl3 =>
    refine ⟨?_, ?_, ?_, ?_, ?_, ?_, ?_, ?_, ?_, ?_, ?_, ?_, ?_, ?_, ?_,  trivial⟩
    · intro listed vals a wq K hD hst hj haft hun hK
      have h11 := hD.out 11 rfl rfl
      replace hst : Below _ _ wq := hst
      clear hD hj haft hun
      have e11 := eval_of h11
      exact step_now (v := .agg #[.int .u64 a1, .int .u64 b1]) (w' := wq) (wanted_free rfl) (rg_loadall rfl e11 (blk_below Bgs0_4.out hst) Try.underlying24 rfl (by kernel_rfl)) (hK _ _ (Below.refl _ _) rfl)
    · intro listed vals a wq K hD hst hj haft hun hK
      have h5 := hD.out 5 rfl rfl
      replace hst : Below _ _ wq := hst
      clear hD hj haft hun
      have e5 := eval_of h5
      exact step_now (v := .agg #[.int .i64 p, .int .u64 sh, .int .u64 sl, .int .u64 dh, .int .u64 dl, .int .i64 sp, .int .i64 dp]) (w' := wq) (wanted_free rfl) (rg_loadall rfl e5 (blk_below Bg5_4.out hst) Try.underlying29 rfl (by kernel_rfl)) (hK _ _ (Below.refl _ _) rfl)
    · intro listed vals a wq K hD hst hj haft hun hK
      have h9 := hD.out 9 rfl rfl
      clear hD hj haft hun
      have e9 := eval_of h9
      refine step_now (v := .int .i64 (now / 16)) (w' := wq) (wanted_free rfl) ?_ (hK _ _ (Below.refl _ _) rfl)
      clear hK
      first | (go_simp; done) | (go_simp; rfl) | (go_simp; (try simp only [IntKind.wrap_u32]); omega)
    · intro listed vals a wq K hD hst hj haft hun hK
      obtain ⟨v34, h34, j34⟩ := hD.dep hj haft 0 34 rfl rfl
      replace j34 : v34 = (.agg #[.int .u64 a1, .int .u64 b1]) := j34
      subst j34
      obtain ⟨v35, h35, j35⟩ := hD.dep hj haft 1 35 rfl rfl
      replace j35 : v35 = (.agg #[.int .i64 p, .int .u64 sh, .int .u64 sl, .int .u64 dh, .int .u64 dl, .int .i64 sp, .int .i64 dp]) := j35
      subst j35
      obtain ⟨v36, h36, j36⟩ := hD.dep hj haft 2 36 rfl rfl
      replace j36 : v36 = (.int .i64 (now / 16)) := j36
      subst j36
      clear hD hj haft hun
      have e34 := eval_of h34
      have e35 := eval_of h35
      have e36 := eval_of h36
      refine step_call (f := 13) (args := #[.agg #[.int .u64 a1, .int .u64 b1], .agg #[.int .i64 p, .int .u64 sh, .int .u64 sl, .int .u64 dh, .int .u64 dl, .int .i64 sp, .int .i64 dp], .int .i64 (now / 16)]) (wanted_free rfl) ?_ (cookie_w a1 b1 p sh sl dh dl sp dp (now / 16) k1 hk1.out wq) ?_
      · clear hK; first | (go_simp; done) | (go_simp; rfl)
      · rintro e w' ⟨he, hbq⟩; exact ⟨_, he, hK _ _ hbq rfl⟩
    · intro listed vals a wq K hD hst hj haft hun hK
      have h3 := hD.out 3 rfl rfl
      clear hD hj haft hun
      have e3 := eval_of h3
      refine step_now (v := .int .u32 nn) (w' := wq) (wanted_free rfl) ?_ (hK _ _ (Below.refl _ _) rfl)
      clear hK
      first | (go_simp; done) | (go_simp; rfl) | (go_simp; (try simp only [IntKind.wrap_u32]); omega)
    · intro listed vals a wq K hD hst hj haft hun hK
      obtain ⟨v37, h37, j37⟩ := hD.dep hj haft 3 37 rfl rfl
      replace j37 : v37 = (.int .u32 k1) := j37
      subst j37
      obtain ⟨v38, h38, j38⟩ := hD.dep hj haft 4 38 rfl rfl
      replace j38 : v38 = (.int .u32 nn) := j38
      subst j38
      clear hD hj haft hun
      have e37 := eval_of h37
      have e38 := eval_of h38
      refine step_now (v := .bool ((k1 == nn))) (w' := wq) (wanted_free rfl) ?_ (hK _ _ (Below.refl _ _) rfl)
      clear hK
      first | (go_simp; done) | (go_simp; rfl)
    · intro listed vals a wq K hD hst hj haft hun hK
      obtain ⟨v39, h39, j39⟩ := hD.dep hj haft 5 39 rfl rfl
      replace j39 : v39 = (.bool ((k1 == nn))) := j39
      subst j39
      clear hD hj haft hun
      have e39 := eval_of h39
      refine step_now (v := .bool ((k1 == nn))) (w' := wq) (wanted_free rfl) ?_ (hK _ _ (Below.refl _ _) rfl)
      clear hK
      first | (go_simp; done) | (go_simp; rfl)
    · intro listed vals a wq K hD hst hj haft hun hK
      obtain ⟨v40, h40, j40⟩ := hD.dep hj haft 6 40 rfl rfl
      replace j40 : v40 = (.bool ((k1 == nn))) := j40
      subst j40
      have h11 := hD.out 11 rfl rfl
      replace hst : Below _ _ wq := hst
      clear hD hj haft hun
      rcases hE : ((k1 == nn)) with _ | _
      · rw [hE] at h40
        have e11 := eval_of h11
        exact step_now (v := .agg #[.int .u64 a1, .int .u64 b1]) (w' := wq) (wanted_on (t := 40) (u := false) rfl rfl rfl h40) (rg_loadall rfl e11 (blk_below Bgs0_4.out hst) Try.underlying24 rfl (by kernel_rfl)) (hK _ _ (Below.refl _ _) (fun _ => rfl))
      · rw [hE] at h40
        exact step_off (wanted_off (t := 40) (u := false) rfl rfl rfl h40) (hK _ _ (Below.refl _ _) (fun h => by rw [hE] at h; cases h))
    · intro listed vals a wq K hD hst hj haft hun hK
      obtain ⟨v40, h40, j40⟩ := hD.dep hj haft 6 40 rfl rfl
      replace j40 : v40 = (.bool ((k1 == nn))) := j40
      subst j40
      have h5 := hD.out 5 rfl rfl
      replace hst : Below _ _ wq := hst
      clear hD hj haft hun
      rcases hE : ((k1 == nn)) with _ | _
      · rw [hE] at h40
        have e5 := eval_of h5
        exact step_now (v := .agg #[.int .i64 p, .int .u64 sh, .int .u64 sl, .int .u64 dh, .int .u64 dl, .int .i64 sp, .int .i64 dp]) (w' := wq) (wanted_on (t := 40) (u := false) rfl rfl rfl h40) (rg_loadall rfl e5 (blk_below Bg5_4.out hst) Try.underlying29 rfl (by kernel_rfl)) (hK _ _ (Below.refl _ _) (fun _ => rfl))
      · rw [hE] at h40
        exact step_off (wanted_off (t := 40) (u := false) rfl rfl rfl h40) (hK _ _ (Below.refl _ _) (fun h => by rw [hE] at h; cases h))
    · intro listed vals a wq K hD hst hj haft hun hK
      obtain ⟨v40, h40, j40⟩ := hD.dep hj haft 6 40 rfl rfl
      replace j40 : v40 = (.bool ((k1 == nn))) := j40
      subst j40
      have h9 := hD.out 9 rfl rfl
      clear hD hj haft hun
      rcases hE : ((k1 == nn)) with _ | _
      · rw [hE] at h40
        have e9 := eval_of h9
        refine step_now (v := .int .i64 (now / 16)) (w' := wq) (wanted_on (t := 40) (u := false) rfl rfl rfl h40) ?_ (hK _ _ (Below.refl _ _) (fun _ => rfl))
        clear hK
        first | (go_simp; done) | (go_simp; rfl) | (go_simp; (try simp only [IntKind.wrap_u32]); omega)
      · rw [hE] at h40
        exact step_off (wanted_off (t := 40) (u := false) rfl rfl rfl h40) (hK _ _ (Below.refl _ _) (fun h => by rw [hE] at h; cases h))
    · intro listed vals a wq K hD hst hj haft hun hK
      obtain ⟨v43, h43, j43⟩ := hD.dep hj haft 9 43 rfl rfl
      replace j43 : ((k1 == nn)) = false → v43 = (.int .i64 (now / 16)) := j43
      obtain ⟨v40, h40, j40⟩ := hD.dep hj haft 6 40 rfl rfl
      replace j40 : v40 = (.bool ((k1 == nn))) := j40
      subst j40
      clear hD hj haft hun
      rcases hE : ((k1 == nn)) with _ | _
      · rw [hE] at h40
        obtain rfl := j43 hE
        have e43 := eval_of h43
        refine step_now (v := .int .i64 wq1) (w' := wq) (wanted_on (t := 40) (u := false) rfl rfl rfl h40) ?_ (hK _ _ (Below.refl _ _) (fun _ => rfl))
        clear hK
        first | (go_simp; done) | (go_simp; rfl) | (go_simp; (try simp only [IntKind.wrap_u32]); omega)
      · rw [hE] at h40
        exact step_off (wanted_off (t := 40) (u := false) rfl rfl rfl h40) (hK _ _ (Below.refl _ _) (fun h => by rw [hE] at h; cases h))
    · intro listed vals a wq K hD hst hj haft hun hK
      obtain ⟨v41, h41, j41⟩ := hD.dep hj haft 7 41 rfl rfl
      replace j41 : ((k1 == nn)) = false → v41 = (.agg #[.int .u64 a1, .int .u64 b1]) := j41
      obtain ⟨v42, h42, j42⟩ := hD.dep hj haft 8 42 rfl rfl
      replace j42 : ((k1 == nn)) = false → v42 = (.agg #[.int .i64 p, .int .u64 sh, .int .u64 sl, .int .u64 dh, .int .u64 dl, .int .i64 sp, .int .i64 dp]) := j42
      obtain ⟨v44, h44, j44⟩ := hD.dep hj haft 10 44 rfl rfl
      replace j44 : ((k1 == nn)) = false → v44 = (.int .i64 wq1) := j44
      obtain ⟨v40, h40, j40⟩ := hD.dep hj haft 6 40 rfl rfl
      replace j40 : v40 = (.bool ((k1 == nn))) := j40
      subst j40
      clear hD hj haft hun
      rcases hE : ((k1 == nn)) with _ | _
      · rw [hE] at h40
        obtain rfl := j41 hE
        obtain rfl := j42 hE
        obtain rfl := j44 hE
        have e41 := eval_of h41
        have e42 := eval_of h42
        have e44 := eval_of h44
        refine step_call (f := 13) (args := #[.agg #[.int .u64 a1, .int .u64 b1], .agg #[.int .i64 p, .int .u64 sh, .int .u64 sl, .int .u64 dh, .int .u64 dl, .int .i64 sp, .int .i64 dp], .int .i64 wq1]) (wanted_on (t := 40) (u := false) rfl rfl rfl h40) ?_ (cookie_w a1 b1 p sh sl dh dl sp dp wq1 k2 (by rw [← hw1]; exact hk2.out) wq) ?_
        · clear hK; first | (go_simp; done) | (go_simp; rfl)
        · rintro e w' ⟨he, hbq⟩; exact ⟨_, he, hK _ _ hbq (fun _ => rfl)⟩
      · rw [hE] at h40
        exact step_off (wanted_off (t := 40) (u := false) rfl rfl rfl h40) (hK _ _ (Below.refl _ _) (fun h => by rw [hE] at h; cases h))
    · intro listed vals a wq K hD hst hj haft hun hK
      obtain ⟨v40, h40, j40⟩ := hD.dep hj haft 6 40 rfl rfl
      replace j40 : v40 = (.bool ((k1 == nn))) := j40
      subst j40
      have h3 := hD.out 3 rfl rfl
      clear hD hj haft hun
      rcases hE : ((k1 == nn)) with _ | _
      · rw [hE] at h40
        have e3 := eval_of h3
        refine step_now (v := .int .u32 nn) (w' := wq) (wanted_on (t := 40) (u := false) rfl rfl rfl h40) ?_ (hK _ _ (Below.refl _ _) (fun _ => rfl))
        clear hK
        first | (go_simp; done) | (go_simp; rfl) | (go_simp; (try simp only [IntKind.wrap_u32]); omega)
      · rw [hE] at h40
        exact step_off (wanted_off (t := 40) (u := false) rfl rfl rfl h40) (hK _ _ (Below.refl _ _) (fun h => by rw [hE] at h; cases h))
    · intro listed vals a wq K hD hst hj haft hun hK
      obtain ⟨v45, h45, j45⟩ := hD.dep hj haft 11 45 rfl rfl
      replace j45 : ((k1 == nn)) = false → v45 = (.int .u32 k2) := j45
      obtain ⟨v46, h46, j46⟩ := hD.dep hj haft 12 46 rfl rfl
      replace j46 : ((k1 == nn)) = false → v46 = (.int .u32 nn) := j46
      obtain ⟨v40, h40, j40⟩ := hD.dep hj haft 6 40 rfl rfl
      replace j40 : v40 = (.bool ((k1 == nn))) := j40
      subst j40
      clear hD hj haft hun
      rcases hE : ((k1 == nn)) with _ | _
      · rw [hE] at h40
        obtain rfl := j45 hE
        obtain rfl := j46 hE
        have e45 := eval_of h45
        have e46 := eval_of h46
        refine step_now (v := .bool ((k2 == nn))) (w' := wq) (wanted_on (t := 40) (u := false) rfl rfl rfl h40) ?_ (hK _ _ (Below.refl _ _) (fun _ => rfl))
        clear hK
        first | (go_simp; done) | (go_simp; rfl)
      · rw [hE] at h40
        exact step_off (wanted_off (t := 40) (u := false) rfl rfl rfl h40) (hK _ _ (Below.refl _ _) (fun h => by rw [hE] at h; cases h))
    · intro listed vals a wq K hD hst hj haft hun hK
      obtain ⟨v40, h40, j40⟩ := hD.dep hj haft 6 40 rfl rfl
      replace j40 : v40 = (.bool ((k1 == nn))) := j40
      subst j40
      obtain ⟨v47, h47, j47⟩ := hD.dep hj haft 13 47 rfl rfl
      replace j47 : ((k1 == nn)) = false → v47 = (.bool ((k2 == nn))) := j47
      clear hD hj haft hun
      rcases hE : ((k1 == nn)) with _ | _
      · rw [hE] at h40
        obtain rfl := j47 hE
        have e40 := eval_of h40
        have e47 := eval_of h47
        refine step_now (v := .bool (((k1 == nn) || (k2 == nn)))) (w' := wq) (wanted_free rfl) ?_ (hK _ _ (Below.refl _ _) rfl)
        rw [hE]
        clear hK
        first | (go_simp; done) | (go_simp; rfl) | (go_simp; (try simp only [IntKind.wrap_u32]); omega)
      · rw [hE] at h40
        have e40 := eval_of h40
        have e47 := eval_of h47
        refine step_now (v := .bool (((k1 == nn) || (k2 == nn)))) (w' := wq) (wanted_free rfl) ?_ (hK _ _ (Below.refl _ _) rfl)
        rw [hE]
        clear hK
        first | (go_simp; done) | (go_simp; rfl) | (go_simp; (try simp only [IntKind.wrap_u32]); omega)
  intro vals wend hst hj
  have j0 : vals 0 = (.agg #[.int .u64 a1, .int .u64 b1]) := hj 0 (by decide)
  have j1 : vals 1 = (.agg #[.int .i64 p, .int .u64 sh, .int .u64 sl, .int .u64 dh, .int .u64 dl, .int .i64 sp, .int .i64 dp]) := hj 1 (by decide)
  have j2 : vals 2 = (.int .i64 (now / 16)) := hj 2 (by decide)
  have j3 : vals 3 = (.int .u32 k1) := hj 3 (by decide)
  have j4 : vals 4 = (.int .u32 nn) := hj 4 (by decide)
  have j5 : vals 5 = (.bool ((k1 == nn))) := hj 5 (by decide)
  have j6 : vals 6 = (.bool ((k1 == nn))) := hj 6 (by decide)
  have j14 : vals 14 = (.bool (((k1 == nn) || (k2 == nn)))) := hj 14 (by decide)
  replace hst : Below _ _ wend := hst
  clear hj
  rw [putAll_list]
  simp only [putL, Act.put, List.setIfInBounds_toArray, List.set_cons_zero, List.set_cons_succ, j0, j1, j2, j3, j4, j5, j6, j14]
  clear j0 j1 j2 j3 j4 j5 j6 j14
  generalize vals 7 = u41_
  generalize vals 8 = u42_
  generalize vals 9 = u43_
  generalize vals 10 = u44_
  generalize vals 11 = u45_
  generalize vals 12 = u46_
  generalize vals 13 = u47_
  have HB_5 := Aside0.mk (below_step HB_4.out hst)
  clear HB_4
  have Bgk_5 := Aside0.mk (blk_below Bgk_4.out hst)
  clear Bgk_4
  have Bgr_5 := Aside0.mk (blk_below Bgr_4.out hst)
  clear Bgr_4
  have Bg5_5 := Aside0.mk (blk_below Bg5_4.out hst)
  clear Bg5_4
  have Bgs0_5 := Aside0.mk (blk_below Bgs0_4.out hst)
  clear Bgs0_4
  clear hst
  rcases hE0 : (((k1 == nn) || (k2 == nn))) with _ | _
  · go_wp2
    rw [rounds_succ]
    go_upto_region 4 with fail
    go_upto_region 5 with (first | ((with_reducible refine gate_dst (N := 23) rfl ?_); refine loadmid_event rfl _ _ rfl gr 2 rfl [.int .u64 a2, .int .u64 b2] _ (blk_range Bgr_5.out 2 [.int .u64 a2, .int .u64 b2] rfl) Try.underlying24 rfl (by kernel_rfl) ?_) | ((with_reducible refine gate_dst (N := 11) rfl ?_); refine box_event ?hg (N := 11) ?hd (cs := #[.int .u64 0, .int .u64 0]) (t := 24) ?hr ?_; (case hd => rfl); (case hg => rfl); (case hr => first | (go_simp; done) | (go_simp; rfl)); intro gs1 hgg wx6 hbox hb; have Ngkgs1 := Aside0.mk (show gk ≠ gs1 by rw [hgg]; exact Nat.ne_of_lt (blk_lt Bgk_5.out)); have Ngrgs1 := Aside0.mk (show gr ≠ gs1 by rw [hgg]; exact Nat.ne_of_lt (blk_lt Bgr_5.out)); have Ng5gs1 := Aside0.mk (show g5 ≠ gs1 by rw [hgg]; exact Nat.ne_of_lt (blk_lt Bg5_5.out)); have Ngs0gs1 := Aside0.mk (show gs0 ≠ gs1 by rw [hgg]; exact Nat.ne_of_lt (blk_lt Bgs0_5.out)); have Lgs1 := Aside0.mk (show w.heap.size ≤ gs1 by rw [hgg]; exact below_size HB_5.out); have HB_6 := Aside0.mk (below_step HB_5.out hb); clear HB_5; have Bgk_6 := Aside0.mk (blk_below Bgk_5.out hb); clear Bgk_5; have Bgr_6 := Aside0.mk (blk_below Bgr_5.out hb); clear Bgr_5; have Bg5_6 := Aside0.mk (blk_below Bg5_5.out hb); clear Bg5_5; have Bgs0_6 := Aside0.mk (blk_below Bgs0_5.out hb); clear Bgs0_5; have Bgs1_6 := Aside0.mk hbox; clear hbox hb hgg) | ((with_reducible refine gate_store (t := 24) (p := 11) rfl ?_); refine store_event rfl 24 _ _ rfl gs1 _ rfl rfl _ _ Bgs1_6.out (by kernel_rfl) rfl rfl ?_; intro wx7 hst hu; have HB_7 := Aside0.mk (below_upd HB_6.out hu (below_size HB_6.out) (fun k hk => by cases hk; exact Lgs1.out)); clear HB_6; have Bgk_7 := Aside0.mk (Upd.blk hu Bgk_6.out (One.not Ngkgs1.out)); clear Bgk_6; have Bgr_7 := Aside0.mk (Upd.blk hu Bgr_6.out (One.not Ngrgs1.out)); clear Bgr_6; have Bg5_7 := Aside0.mk (Upd.blk hu Bg5_6.out (One.not Ng5gs1.out)); clear Bg5_6; have Bgs0_7 := Aside0.mk (Upd.blk hu Bgs0_6.out (One.not Ngs0gs1.out)); clear Bgs0_6; have Bgs1_7 := Aside0.mk hst; clear hst hu Bgs1_6))
    go_upto_if 33 with (first | ((with_reducible refine gate_dst (N := 31) rfl ?_); (refine gate_guard (by rfl) ?_; dsimp only); refine load1_event rfl _ _ rfl gk 1 rfl _ _ _ _ Bgk_7.out rfl Try.underlying3 rfl ?_))
    rcases hT : (decide (till < now / 16)) with _ | _
    · go_upto_region 6 with (fail)
      refine wp_region_rg_seq (fun x y => Below x.heap.size x y) (fun (i : Nat) (v : Value) (w1 : World) => match i with | 0 => v = (.agg #[.int .u64 a2, .int .u64 b2]) | 1 => v = (.agg #[.int .i64 p, .int .u64 sh, .int .u64 sl, .int .u64 dh, .int .u64 dl, .int .i64 sp, .int .i64 dp]) | 2 => v = (.int .i64 (now / 16)) | 3 => v = (.int .u32 k3) | 4 => v = (.int .u32 nn) | 5 => v = (.bool ((k3 == nn))) | 6 => v = (.bool ((k3 == nn))) | 7 => ((k3 == nn)) = false → v = (.agg #[.int .u64 a2, .int .u64 b2]) | 8 => ((k3 == nn)) = false → v = (.agg #[.int .i64 p, .int .u64 sh, .int .u64 sl, .int .u64 dh, .int .u64 dl, .int .i64 sp, .int .i64 dp]) | 9 => ((k3 == nn)) = false → v = (.int .i64 (now / 16)) | 10 => ((k3 == nn)) = false → v = (.int .i64 wq1) | 11 => ((k3 == nn)) = false → v = (.int .u32 k4) | 12 => ((k3 == nn)) = false → v = (.int .u32 nn) | 13 => ((k3 == nn)) = false → v = (.bool ((k4 == nn))) | 14 => v = (.bool (((k3 == nn) || (k4 == nn)))) | _ => True) (by kernel_rfl) (by kernel_rfl) below_tr (Below.refl _ _) ?hJst4 ?hObl4 ?hEnd4
      case hJst4 =>
        intro i v wx wy hi hs0 hs1 hJi
        match i, hi with
        | 0, _ => exact hJi
        | 1, _ => exact hJi
        | 2, _ => exact hJi
        | 3, _ => exact hJi
        | 4, _ => exact hJi
        | 5, _ => exact hJi
        | 6, _ => exact hJi
        | 7, _ => exact hJi
        | 8, _ => exact hJi
        | 9, _ => exact hJi
        | 10, _ => exact hJi
        | 11, _ => exact hJi
        | 12, _ => exact hJi
        | 13, _ => exact hJi
        | 14, _ => exact hJi
        | _ + 15, hi => exact absurd hi (by simp)
      case hObl4 =>
        refine ⟨?_, ?_, ?_, ?_, ?_, ?_, ?_, ?_, ?_, ?_, ?_, ?_, ?_, ?_, ?_,  trivial⟩
        · intro listed vals a wq K hD hst hj haft hun hK
          have h11 := hD.out 11 rfl rfl
          replace hst : Below _ _ wq := hst
          clear hD hj haft hun
          have e11 := eval_of h11
          exact step_now (v := .agg #[.int .u64 a2, .int .u64 b2]) (w' := wq) (wanted_free rfl) (rg_loadall rfl e11 (blk_below Bgs1_7.out hst) Try.underlying24 rfl (by kernel_rfl)) (hK _ _ (Below.refl _ _) rfl)
        · intro listed vals a wq K hD hst hj haft hun hK
          have h5 := hD.out 5 rfl rfl
          replace hst : Below _ _ wq := hst
          clear hD hj haft hun
          have e5 := eval_of h5
          exact step_now (v := .agg #[.int .i64 p, .int .u64 sh, .int .u64 sl, .int .u64 dh, .int .u64 dl, .int .i64 sp, .int .i64 dp]) (w' := wq) (wanted_free rfl) (rg_loadall rfl e5 (blk_below Bg5_7.out hst) Try.underlying29 rfl (by kernel_rfl)) (hK _ _ (Below.refl _ _) rfl)
        · intro listed vals a wq K hD hst hj haft hun hK
          have h9 := hD.out 9 rfl rfl
          clear hD hj haft hun
          have e9 := eval_of h9
          refine step_now (v := .int .i64 (now / 16)) (w' := wq) (wanted_free rfl) ?_ (hK _ _ (Below.refl _ _) rfl)
          clear hK
          first | (go_simp; done) | (go_simp; rfl) | (go_simp; (try simp only [IntKind.wrap_u32]); omega)
        · intro listed vals a wq K hD hst hj haft hun hK
          obtain ⟨v34, h34, j34⟩ := hD.dep hj haft 0 34 rfl rfl
          replace j34 : v34 = (.agg #[.int .u64 a2, .int .u64 b2]) := j34
          subst j34
          obtain ⟨v35, h35, j35⟩ := hD.dep hj haft 1 35 rfl rfl
          replace j35 : v35 = (.agg #[.int .i64 p, .int .u64 sh, .int .u64 sl, .int .u64 dh, .int .u64 dl, .int .i64 sp, .int .i64 dp]) := j35
          subst j35
          obtain ⟨v36, h36, j36⟩ := hD.dep hj haft 2 36 rfl rfl
          replace j36 : v36 = (.int .i64 (now / 16)) := j36
          subst j36
          clear hD hj haft hun
          have e34 := eval_of h34
          have e35 := eval_of h35
          have e36 := eval_of h36
          refine step_call (f := 13) (args := #[.agg #[.int .u64 a2, .int .u64 b2], .agg #[.int .i64 p, .int .u64 sh, .int .u64 sl, .int .u64 dh, .int .u64 dl, .int .i64 sp, .int .i64 dp], .int .i64 (now / 16)]) (wanted_free rfl) ?_ (cookie_w a2 b2 p sh sl dh dl sp dp (now / 16) k3 hk3.out wq) ?_
          · clear hK; first | (go_simp; done) | (go_simp; rfl)
          · rintro e w' ⟨he, hbq⟩; exact ⟨_, he, hK _ _ hbq rfl⟩
        · intro listed vals a wq K hD hst hj haft hun hK
          have h3 := hD.out 3 rfl rfl
          clear hD hj haft hun
          have e3 := eval_of h3
          refine step_now (v := .int .u32 nn) (w' := wq) (wanted_free rfl) ?_ (hK _ _ (Below.refl _ _) rfl)
          clear hK
          first | (go_simp; done) | (go_simp; rfl) | (go_simp; (try simp only [IntKind.wrap_u32]); omega)
        · intro listed vals a wq K hD hst hj haft hun hK
          obtain ⟨v37, h37, j37⟩ := hD.dep hj haft 3 37 rfl rfl
          replace j37 : v37 = (.int .u32 k3) := j37
          subst j37
          obtain ⟨v38, h38, j38⟩ := hD.dep hj haft 4 38 rfl rfl
          replace j38 : v38 = (.int .u32 nn) := j38
          subst j38
          clear hD hj haft hun
          have e37 := eval_of h37
          have e38 := eval_of h38
          refine step_now (v := .bool ((k3 == nn))) (w' := wq) (wanted_free rfl) ?_ (hK _ _ (Below.refl _ _) rfl)
          clear hK
          first | (go_simp; done) | (go_simp; rfl)
        · intro listed vals a wq K hD hst hj haft hun hK
          obtain ⟨v39, h39, j39⟩ := hD.dep hj haft 5 39 rfl rfl
          replace j39 : v39 = (.bool ((k3 == nn))) := j39
          subst j39
          clear hD hj haft hun
          have e39 := eval_of h39
          refine step_now (v := .bool ((k3 == nn))) (w' := wq) (wanted_free rfl) ?_ (hK _ _ (Below.refl _ _) rfl)
          clear hK
          first | (go_simp; done) | (go_simp; rfl)
        · intro listed vals a wq K hD hst hj haft hun hK
          obtain ⟨v40, h40, j40⟩ := hD.dep hj haft 6 40 rfl rfl
          replace j40 : v40 = (.bool ((k3 == nn))) := j40
          subst j40
          have h11 := hD.out 11 rfl rfl
          replace hst : Below _ _ wq := hst
          clear hD hj haft hun
          rcases hE : ((k3 == nn)) with _ | _
          · rw [hE] at h40
            have e11 := eval_of h11
            exact step_now (v := .agg #[.int .u64 a2, .int .u64 b2]) (w' := wq) (wanted_on (t := 40) (u := false) rfl rfl rfl h40) (rg_loadall rfl e11 (blk_below Bgs1_7.out hst) Try.underlying24 rfl (by kernel_rfl)) (hK _ _ (Below.refl _ _) (fun _ => rfl))
          · rw [hE] at h40
            exact step_off (wanted_off (t := 40) (u := false) rfl rfl rfl h40) (hK _ _ (Below.refl _ _) (fun h => by rw [hE] at h; cases h))
        · intro listed vals a wq K hD hst hj haft hun hK
          obtain ⟨v40, h40, j40⟩ := hD.dep hj haft 6 40 rfl rfl
          replace j40 : v40 = (.bool ((k3 == nn))) := j40
          subst j40
          have h5 := hD.out 5 rfl rfl
          replace hst : Below _ _ wq := hst
          clear hD hj haft hun
          rcases hE : ((k3 == nn)) with _ | _
          · rw [hE] at h40
            have e5 := eval_of h5
            exact step_now (v := .agg #[.int .i64 p, .int .u64 sh, .int .u64 sl, .int .u64 dh, .int .u64 dl, .int .i64 sp, .int .i64 dp]) (w' := wq) (wanted_on (t := 40) (u := false) rfl rfl rfl h40) (rg_loadall rfl e5 (blk_below Bg5_7.out hst) Try.underlying29 rfl (by kernel_rfl)) (hK _ _ (Below.refl _ _) (fun _ => rfl))
          · rw [hE] at h40
            exact step_off (wanted_off (t := 40) (u := false) rfl rfl rfl h40) (hK _ _ (Below.refl _ _) (fun h => by rw [hE] at h; cases h))
        · intro listed vals a wq K hD hst hj haft hun hK
          obtain ⟨v40, h40, j40⟩ := hD.dep hj haft 6 40 rfl rfl
          replace j40 : v40 = (.bool ((k3 == nn))) := j40
          subst j40
          have h9 := hD.out 9 rfl rfl
          clear hD hj haft hun
          rcases hE : ((k3 == nn)) with _ | _
          · rw [hE] at h40
            have e9 := eval_of h9
            refine step_now (v := .int .i64 (now / 16)) (w' := wq) (wanted_on (t := 40) (u := false) rfl rfl rfl h40) ?_ (hK _ _ (Below.refl _ _) (fun _ => rfl))
            clear hK
            first | (go_simp; done) | (go_simp; rfl) | (go_simp; (try simp only [IntKind.wrap_u32]); omega)
          · rw [hE] at h40
            exact step_off (wanted_off (t := 40) (u := false) rfl rfl rfl h40) (hK _ _ (Below.refl _ _) (fun h => by rw [hE] at h; cases h))
        · intro listed vals a wq K hD hst hj haft hun hK
          obtain ⟨v43, h43, j43⟩ := hD.dep hj haft 9 43 rfl rfl
          replace j43 : ((k3 == nn)) = false → v43 = (.int .i64 (now / 16)) := j43
          obtain ⟨v40, h40, j40⟩ := hD.dep hj haft 6 40 rfl rfl
          replace j40 : v40 = (.bool ((k3 == nn))) := j40
          subst j40
          clear hD hj haft hun
          rcases hE : ((k3 == nn)) with _ | _
          · rw [hE] at h40
            obtain rfl := j43 hE
            have e43 := eval_of h43
            refine step_now (v := .int .i64 wq1) (w' := wq) (wanted_on (t := 40) (u := false) rfl rfl rfl h40) ?_ (hK _ _ (Below.refl _ _) (fun _ => rfl))
            clear hK
            first | (go_simp; done) | (go_simp; rfl) | (go_simp; (try simp only [IntKind.wrap_u32]); omega)
          · rw [hE] at h40
            exact step_off (wanted_off (t := 40) (u := false) rfl rfl rfl h40) (hK _ _ (Below.refl _ _) (fun h => by rw [hE] at h; cases h))
        · intro listed vals a wq K hD hst hj haft hun hK
          obtain ⟨v41, h41, j41⟩ := hD.dep hj haft 7 41 rfl rfl
          replace j41 : ((k3 == nn)) = false → v41 = (.agg #[.int .u64 a2, .int .u64 b2]) := j41
          obtain ⟨v42, h42, j42⟩ := hD.dep hj haft 8 42 rfl rfl
          replace j42 : ((k3 == nn)) = false → v42 = (.agg #[.int .i64 p, .int .u64 sh, .int .u64 sl, .int .u64 dh, .int .u64 dl, .int .i64 sp, .int .i64 dp]) := j42
          obtain ⟨v44, h44, j44⟩ := hD.dep hj haft 10 44 rfl rfl
          replace j44 : ((k3 == nn)) = false → v44 = (.int .i64 wq1) := j44
          obtain ⟨v40, h40, j40⟩ := hD.dep hj haft 6 40 rfl rfl
          replace j40 : v40 = (.bool ((k3 == nn))) := j40
          subst j40
          clear hD hj haft hun
          rcases hE : ((k3 == nn)) with _ | _
          · rw [hE] at h40
            obtain rfl := j41 hE
            obtain rfl := j42 hE
            obtain rfl := j44 hE
            have e41 := eval_of h41
            have e42 := eval_of h42
            have e44 := eval_of h44
            refine step_call (f := 13) (args := #[.agg #[.int .u64 a2, .int .u64 b2], .agg #[.int .i64 p, .int .u64 sh, .int .u64 sl, .int .u64 dh, .int .u64 dl, .int .i64 sp, .int .i64 dp], .int .i64 wq1]) (wanted_on (t := 40) (u := false) rfl rfl rfl h40) ?_ (cookie_w a2 b2 p sh sl dh dl sp dp wq1 k4 (by rw [← hw1]; exact hk4.out) wq) ?_
            · clear hK; first | (go_simp; done) | (go_simp; rfl)
            · rintro e w' ⟨he, hbq⟩; exact ⟨_, he, hK _ _ hbq (fun _ => rfl)⟩
          · rw [hE] at h40
            exact step_off (wanted_off (t := 40) (u := false) rfl rfl rfl h40) (hK _ _ (Below.refl _ _) (fun h => by rw [hE] at h; cases h))
        · intro listed vals a wq K hD hst hj haft hun hK
          obtain ⟨v40, h40, j40⟩ := hD.dep hj haft 6 40 rfl rfl
          replace j40 : v40 = (.bool ((k3 == nn))) := j40
          subst j40
          have h3 := hD.out 3 rfl rfl
          clear hD hj haft hun
          rcases hE : ((k3 == nn)) with _ | _
          · rw [hE] at h40
            have e3 := eval_of h3
            refine step_now (v := .int .u32 nn) (w' := wq) (wanted_on (t := 40) (u := false) rfl rfl rfl h40) ?_ (hK _ _ (Below.refl _ _) (fun _ => rfl))
            clear hK
            first | (go_simp; done) | (go_simp; rfl) | (go_simp; (try simp only [IntKind.wrap_u32]); omega)
          · rw [hE] at h40
            exact step_off (wanted_off (t := 40) (u := false) rfl rfl rfl h40) (hK _ _ (Below.refl _ _) (fun h => by rw [hE] at h; cases h))
        · intro listed vals a wq K hD hst hj haft hun hK
          obtain ⟨v45, h45, j45⟩ := hD.dep hj haft 11 45 rfl rfl
          replace j45 : ((k3 == nn)) = false → v45 = (.int .u32 k4) := j45
          obtain ⟨v46, h46, j46⟩ := hD.dep hj haft 12 46 rfl rfl
          replace j46 : ((k3 == nn)) = false → v46 = (.int .u32 nn) := j46
          obtain ⟨v40, h40, j40⟩ := hD.dep hj haft 6 40 rfl rfl
          replace j40 : v40 = (.bool ((k3 == nn))) := j40
          subst j40
          clear hD hj haft hun
          rcases hE : ((k3 == nn)) with _ | _
          · rw [hE] at h40
            obtain rfl := j45 hE
            obtain rfl := j46 hE
            have e45 := eval_of h45
            have e46 := eval_of h46
            refine step_now (v := .bool ((k4 == nn))) (w' := wq) (wanted_on (t := 40) (u := false) rfl rfl rfl h40) ?_ (hK _ _ (Below.refl _ _) (fun _ => rfl))
            clear hK
            first | (go_simp; done) | (go_simp; rfl)
          · rw [hE] at h40
            exact step_off (wanted_off (t := 40) (u := false) rfl rfl rfl h40) (hK _ _ (Below.refl _ _) (fun h => by rw [hE] at h; cases h))
        · intro listed vals a wq K hD hst hj haft hun hK
          obtain ⟨v40, h40, j40⟩ := hD.dep hj haft 6 40 rfl rfl
          replace j40 : v40 = (.bool ((k3 == nn))) := j40
          subst j40
          obtain ⟨v47, h47, j47⟩ := hD.dep hj haft 13 47 rfl rfl
          replace j47 : ((k3 == nn)) = false → v47 = (.bool ((k4 == nn))) := j47
          clear hD hj haft hun
          rcases hE : ((k3 == nn)) with _ | _
          · rw [hE] at h40
            obtain rfl := j47 hE
            have e40 := eval_of h40
            have e47 := eval_of h47
            refine step_now (v := .bool (((k3 == nn) || (k4 == nn)))) (w' := wq) (wanted_free rfl) ?_ (hK _ _ (Below.refl _ _) rfl)
            rw [hE]
            clear hK
            first | (go_simp; done) | (go_simp; rfl) | (go_simp; (try simp only [IntKind.wrap_u32]); omega)
          · rw [hE] at h40
            have e40 := eval_of h40
            have e47 := eval_of h47
            refine step_now (v := .bool (((k3 == nn) || (k4 == nn)))) (w' := wq) (wanted_free rfl) ?_ (hK _ _ (Below.refl _ _) rfl)
            rw [hE]
            clear hK
            first | (go_simp; done) | (go_simp; rfl) | (go_simp; (try simp only [IntKind.wrap_u32]); omega)
      intro vals wend hst hj
      have j0 : vals 0 = (.agg #[.int .u64 a2, .int .u64 b2]) := hj 0 (by decide)
      have j1 : vals 1 = (.agg #[.int .i64 p, .int .u64 sh, .int .u64 sl, .int .u64 dh, .int .u64 dl, .int .i64 sp, .int .i64 dp]) := hj 1 (by decide)
      have j2 : vals 2 = (.int .i64 (now / 16)) := hj 2 (by decide)
      have j3 : vals 3 = (.int .u32 k3) := hj 3 (by decide)
      have j4 : vals 4 = (.int .u32 nn) := hj 4 (by decide)
      have j5 : vals 5 = (.bool ((k3 == nn))) := hj 5 (by decide)
      have j6 : vals 6 = (.bool ((k3 == nn))) := hj 6 (by decide)
      have j14 : vals 14 = (.bool (((k3 == nn) || (k4 == nn)))) := hj 14 (by decide)
      replace hst : Below _ _ wend := hst
      clear hj
      rw [putAll_list]
      simp only [putL, Act.put, List.setIfInBounds_toArray, List.set_cons_zero, List.set_cons_succ, j0, j1, j2, j3, j4, j5, j6, j14]
      clear j0 j1 j2 j3 j4 j5 j6 j14
      generalize vals 7 = u41_
      generalize vals 8 = u42_
      generalize vals 9 = u43_
      generalize vals 10 = u44_
      generalize vals 11 = u45_
      generalize vals 12 = u46_
      generalize vals 13 = u47_
      have HB_8 := Aside0.mk (below_step HB_7.out hst)
      clear HB_7
      have Bgk_8 := Aside0.mk (blk_below Bgk_7.out hst)
      clear Bgk_7
      have Bgr_8 := Aside0.mk (blk_below Bgr_7.out hst)
      clear Bgr_7
      have Bg5_8 := Aside0.mk (blk_below Bg5_7.out hst)
      clear Bg5_7
      have Bgs0_8 := Aside0.mk (blk_below Bgs0_7.out hst)
      clear Bgs0_7
      have Bgs1_8 := Aside0.mk (blk_below Bgs1_7.out hst)
      clear Bgs1_7
      clear hst
      rcases hE1 : (((k3 == nn) || (k4 == nn))) with _ | _
      · go_wp2
        rw [rounds_succ]
        go_wp2
        go_ret
        exact ⟨by simp [hE0, hT, hE1], HB_8.out⟩
      go_wp2
      go_ret
      exact ⟨by simp [hE0, hT, hE1], HB_8.out⟩
    go_wp2
    go_ret
    exact ⟨by simp [hE0, hT], HB_7.out⟩
  go_wp2
  go_ret
  exact ⟨by simp [hE0], HB_5.out⟩
end Go.Proofs.Ytainkpgplmkiaaa.Keeper
