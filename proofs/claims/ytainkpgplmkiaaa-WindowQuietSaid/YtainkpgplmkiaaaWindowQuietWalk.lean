/- The walk of WindowQuiet: what does not belong to a connection changes nothing; nothing belongs to a closed one: the call returns true and leaves all memory that was there as it was. No condition. -/
import Derived.Test.YtainkpgplmkiaaaWinArgs
import Derived.Test.YtainkpgplmkiaaaWinQuiet
import Derived.Test.YtainkpgplmkiaaaRefNextT
import Derived.Test.YtainkpgplmkiaaaRefNextF
import Derived.Test.YtainkpgplmkiaaaRgw
namespace Go.Proofs.Ytainkpgplmkiaaa.WindowQuietWalk
open Go Go.RowKit Go.Proofs.YtainkpgplmkiaaaW.PrintWords Go.Proofs.YtainkpgplmkiaaaW.PrintLast Go.Proofs.YtainkpgplmkiaaaW.PrintMore Go.Proofs.Ytainkpgplmkiaaa.MWorld Go.Proofs.Ytainkpgplmkiaaa.MArgs Go.Proofs.Ytainkpgplmkiaaa.Ev Go.Proofs.Ytainkpgplmkiaaa.Rg Go.Proofs.Ytainkpgplmkiaaa.Rgw Go.Proofs.Ytainkpgplmkiaaa.Win Go.Proofs.Ytainkpgplmkiaaa.Win2 Go.Proofs.Ytainkpgplmkiaaa.WinModel Go.Proofs.Ytainkpgplmkiaaa.Win4 Go.Proofs.Ytainkpgplmkiaaa.Win6 Go.Proofs.Ytainkpgplmkiaaa.WinArgs Go.Proofs.Ytainkpgplmkiaaa.WinScript Go.Proofs.Ytainkpgplmkiaaa.WinOpens Go.Proofs.Ytainkpgplmkiaaa.WinFlags Go.Proofs.Ytainkpgplmkiaaa.WinQuiet Go.Proofs.Ytainkpgplmkiaaa.RefWin
set_option linter.unusedVariables false
set_option linter.unusedSimpArgs false
theorem rnext_any (c : Cn) (back : Bool) (t : Tr) (w : World) : Calls Try.prog 18 #[c.val, .bool back, t.val] w (NextPost c back t w) := by
  obtain ⟨st, ⟨s1, e1, m1, f1⟩, ⟨s2, e2, m2, f2⟩⟩ := c
  obtain ⟨sp, dp, sq, ak, fl, wi, ty, co, he, da⟩ := t
  cases back
  · exact RefNextF.ways st e1 m1 e2 m2 sp dp sq ak fl wi ty co he da _ s1 f1 s2 f2 _ _ _ _ w ⟨rfl⟩ ⟨rfl⟩ ⟨rfl⟩ ⟨rfl⟩ ⟨rfl⟩
  · exact RefNextT.ways st e1 m1 e2 m2 sp dp sq ak fl wi ty co he da _ s1 f1 s2 f2 _ _ _ _ w ⟨rfl⟩ ⟨rfl⟩ ⟨rfl⟩ ⟨rfl⟩ ⟨rfl⟩
theorem rnext_as (c : Cn) (back : Bool) (t : Tr) (n : Cn) (gd : Bool) (h : next c back t = (n, gd)) (w : World) : Calls Try.prog 18 #[c.val, .bool back, t.val] w fun e w' => e = .returned (.tuple #[n.val, .bool gd]) ∧ Below w.heap.size w w' := by
  refine (rnext_any c back t w).mono fun e w' hp => ?_
  unfold NextPost at hp; rw [h] at hp; exact hp
theorem nx_as (c : Cn) (back : Bool) (t : Tr) (n : Cn) (gd : Bool) (h : next c back t = (n, gd)) (w : World) : Calls Try.prog 17 #[c.val, .bool back, t.val] w fun e w' => e = .returned (.tuple #[n.val, .bool gd]) ∧ Below w.heap.size w w' := by
  refine (next_any c back t w).mono fun e w' hp => ?_
  unfold NextPost at hp; rw [h] at hp; exact hp
set_option maxRecDepth 100000 in
set_option maxHeartbeats 4000000 in
theorem theirs_any (st e1 m1 e2 m2 : Int) (s1 f1 s2 f2 : Bool) (w : World) : Calls Try.prog 19 #[.agg #[.int .i64 st, .bool s1, .int .u32 e1, .int .u32 m1, .bool f1, .bool s2, .int .u32 e2, .int .u32 m2, .bool f2]] w fun e w' => e = .returned (.agg #[.int .i64 st, .bool s1, .int .u32 e1, .int .u32 m1, .bool f1, .bool s2, .int .u32 e2, .int .u32 m2, .bool f2]) ∧ Below w.heap.size w w' := by
  go_enter Try.func19, Try.ntmps19
  go_wp2_with (first | ((with_reducible refine gate_dst (N := 1) rfl ?_); refine box_event ?hg (N := 1) ?hd (cs := #[.int .i64 st, .bool s1, .int .u32 e1, .int .u32 m1, .bool f1, .bool s2, .int .u32 e2, .int .u32 m2, .bool f2]) (t := 41) ?hr ?_; (case hd => rfl); (case hg => rfl); (case hr => first | (go_simp; done) | (go_simp; rfl)); intro g1 hgg wx1 hbox hb; have Lg1 := Aside0.mk (show w.heap.size ≤ g1 by rw [hgg]; exact Nat.le_refl _); have HB_1 := Aside0.mk (hb); have Bg1_1 := Aside0.mk hbox; clear hbox hb hgg) | ((with_reducible refine gate_dst (N := 2) rfl ?_); refine box_event ?hg (N := 2) ?hd (cs := #[.int .i64 0, .bool false, .int .u32 0, .int .u32 0, .bool false, .bool false, .int .u32 0, .int .u32 0, .bool false]) (t := 48) ?hr ?_; (case hd => rfl); (case hg => rfl); (case hr => first | (go_simp; done) | (go_simp; rfl)); intro g2 hgg wx2 hbox hb; have Ng1g2 := Aside0.mk (show g1 ≠ g2 by rw [hgg]; exact Nat.ne_of_lt (blk_lt Bg1_1.out)); have Lg2 := Aside0.mk (show w.heap.size ≤ g2 by rw [hgg]; exact below_size HB_1.out); have HB_2 := Aside0.mk (below_step HB_1.out hb); clear HB_1; have Bg1_2 := Aside0.mk (blk_below Bg1_1.out hb); clear Bg1_1; have Bg2_2 := Aside0.mk hbox; clear hbox hb hgg) | ((with_reducible refine gate_dst (N := 4) rfl ?_); refine load1_event rfl _ _ rfl g1 0 rfl _ _ _ _ Bg1_2.out rfl Try.underlying3 rfl ?_) | ((with_reducible refine gate_dst (N := 6) rfl ?_); refine loadmid_event rfl _ _ rfl g1 1 rfl [.bool s1, .int .u32 e1, .int .u32 m1, .bool f1] _ (RefNextT.blk_range Bg1_2.out 1 [.bool s1, .int .u32 e1, .int .u32 m1, .bool f1] rfl) Try.underlying39 rfl (by kernel_rfl) ?_) | ((with_reducible refine gate_dst (N := 8) rfl ?_); refine loadmid_event rfl _ _ rfl g1 5 rfl [.bool s2, .int .u32 e2, .int .u32 m2, .bool f2] _ (RefNextT.blk_range Bg1_2.out 5 [.bool s2, .int .u32 e2, .int .u32 m2, .bool f2] rfl) Try.underlying39 rfl (by kernel_rfl) ?_) | ((with_reducible refine gate_store (t := 48) (p := 2) rfl ?_); refine store_event rfl 48 _ _ rfl g2 _ rfl rfl _ _ Bg2_2.out (by kernel_rfl) rfl rfl ?_; intro wx3 hst hu; have HB_3 := Aside0.mk (below_upd HB_2.out hu (below_size HB_2.out) (fun k hk => by cases hk; exact Lg2.out)); clear HB_2; have Bg1_3 := Aside0.mk (Upd.blk hu Bg1_2.out (One.not Ng1g2.out)); clear Bg1_2; have Bg2_3 := Aside0.mk hst; clear hst hu Bg2_2))
  exact bodyPost_ret (results_cell_row rfl _ _ g2 48 _ (0, 0) _ rfl Bg2_3.out Try.underlying48 rfl (by kernel_rfl)) rfl ⟨rfl, HB_3.out⟩
set_option maxRecDepth 100000 in
set_option maxHeartbeats 16000000 in
theorem walk (c : Cn) (xb : Bool) (t : Tr) (w : World) (hc : SdOk c.a ∧ SdOk c.b) (ht : TrOk t) : Calls Try.prog 4 #[c.val, .bool xb, t.val] w fun e w' => e = .returned (.bool true) ∧ Below w.heap.size w w' := by
  clear hc ht
  obtain ⟨st, ⟨s1, e1, m1, f1⟩, ⟨s2, e2, m2, f2⟩⟩ := c
  obtain ⟨sp, dp, sq, ak, fl, wi, ty, co, he, da⟩ := t
  obtain ⟨⟨nt, ⟨ns1, ne1, nm1, nf1⟩, ⟨ns2, ne2, nm2, nf2⟩⟩, gd, hn⟩ : ∃ n gd, next ⟨st, ⟨s1, e1, m1, f1⟩, ⟨s2, e2, m2, f2⟩⟩ xb ⟨sp, dp, sq, ak, fl, wi, ty, co, he, da⟩ = (n, gd) := ⟨_, _, rfl⟩
  have HK : Aside0 (gd = false → (⟨st, ⟨s1, e1, m1, f1⟩, ⟨s2, e2, m2, f2⟩⟩ : Cn) = ⟨nt, ⟨ns1, ne1, nm1, nf1⟩, ⟨ns2, ne2, nm2, nf2⟩⟩) := ⟨fun h => by have k := next_keep ⟨st, ⟨s1, e1, m1, f1⟩, ⟨s2, e2, m2, f2⟩⟩ xb ⟨sp, dp, sq, ak, fl, wi, ty, co, he, da⟩; rw [hn] at k; exact (k h).symm⟩
  have HN := Aside0.mk hn
  clear hn
  go_enter Try.func4, Try.ntmps4
  go_upto_region 2 with (first | ((with_reducible refine gate_dst (N := 3) rfl ?_); refine box_event ?hg (N := 3) ?hd (cs := #[.int .i64 st, .bool s1, .int .u32 e1, .int .u32 m1, .bool f1, .bool s2, .int .u32 e2, .int .u32 m2, .bool f2]) (t := 41) ?hr ?_; (case hd => rfl); (case hg => rfl); (case hr => first | (go_simp; done) | (go_simp; rfl)); intro g3 hgg wx1 hbox hb; have Lg3 := Aside0.mk (show w.heap.size ≤ g3 by rw [hgg]; exact Nat.le_refl _); have HB_1 := Aside0.mk (hb); have Bg3_1 := Aside0.mk hbox; clear hbox hb hgg) | ((with_reducible refine gate_dst (N := 5) rfl ?_); refine box_event ?hg (N := 5) ?hd (cs := #[.int .i64 sp, .int .i64 dp, .int .u32 sq, .int .u32 ak, .int .i64 fl, .int .i64 wi, .int .i64 ty, .int .i64 co, .int .i64 he, .int .i64 da]) (t := 43) ?hr ?_; (case hd => rfl); (case hg => rfl); (case hr => first | (go_simp; done) | (go_simp; rfl)); intro g5 hgg wx2 hbox hb; have Ng3g5 := Aside0.mk (show g3 ≠ g5 by rw [hgg]; exact Nat.ne_of_lt (blk_lt Bg3_1.out)); have Lg5 := Aside0.mk (show w.heap.size ≤ g5 by rw [hgg]; exact below_size HB_1.out); have HB_2 := Aside0.mk (below_step HB_1.out hb); clear HB_1; have Bg3_2 := Aside0.mk (blk_below Bg3_1.out hb); clear Bg3_1; have Bg5_2 := Aside0.mk hbox; clear hbox hb hgg) | ((with_reducible refine gate_dst (N := 14) rfl ?_); refine load_event rfl 41 _ rfl g3 rfl _ _ _ Bg3_2.out Try.underlying41 rfl (by kernel_rfl) ?_) | ((with_reducible refine gate_dst (N := 16) rfl ?_); refine load_event rfl 43 _ rfl g5 rfl _ _ _ Bg5_2.out Try.underlying43 rfl (by kernel_rfl) ?_) | (go_at_call 17; refine (nx_as ⟨st, ⟨s1, e1, m1, f1⟩, ⟨s2, e2, m2, f2⟩⟩ xb ⟨sp, dp, sq, ak, fl, wi, ty, co, he, da⟩ ⟨nt, ⟨ns1, ne1, nm1, nf1⟩, ⟨ns2, ne2, nm2, nf2⟩⟩ gd HN.out _).mono ?_; rintro e wx3 ⟨rfl, hb⟩; have HB_3 := Aside0.mk (below_step HB_2.out hb); clear HB_2; have Bg3_3 := Aside0.mk (blk_below Bg3_2.out hb); clear Bg3_2; have Bg5_3 := Aside0.mk (blk_below Bg5_2.out hb); clear Bg5_2; clear hb) | ((with_reducible refine gate_dst (N := 7) rfl ?_); refine box_event ?hg (N := 7) ?hd (cs := #[.int .i64 0, .bool false, .int .u32 0, .int .u32 0, .bool false, .bool false, .int .u32 0, .int .u32 0, .bool false]) (t := 41) ?hr ?_; (case hd => rfl); (case hg => rfl); (case hr => first | (go_simp; done) | (go_simp; rfl)); intro g7 hgg wx4 hbox hb; have Ng3g7 := Aside0.mk (show g3 ≠ g7 by rw [hgg]; exact Nat.ne_of_lt (blk_lt Bg3_3.out)); have Ng5g7 := Aside0.mk (show g5 ≠ g7 by rw [hgg]; exact Nat.ne_of_lt (blk_lt Bg5_3.out)); have Lg7 := Aside0.mk (show w.heap.size ≤ g7 by rw [hgg]; exact below_size HB_3.out); have HB_4 := Aside0.mk (below_step HB_3.out hb); clear HB_3; have Bg3_4 := Aside0.mk (blk_below Bg3_3.out hb); clear Bg3_3; have Bg5_4 := Aside0.mk (blk_below Bg5_3.out hb); clear Bg5_3; have Bg7_4 := Aside0.mk hbox; clear hbox hb hgg) | ((with_reducible refine gate_store (t := 41) (p := 7) rfl ?_); refine store_event rfl 41 _ _ rfl g7 _ rfl rfl _ _ Bg7_4.out (by kernel_rfl) rfl rfl ?_; intro wx5 hst hu; have HB_5 := Aside0.mk (below_upd HB_4.out hu (below_size HB_4.out) (fun k hk => by cases hk; exact Lg7.out)); clear HB_4; have Bg3_5 := Aside0.mk (Upd.blk hu Bg3_4.out (One.not Ng3g7.out)); clear Bg3_4; have Bg5_5 := Aside0.mk (Upd.blk hu Bg5_4.out (One.not Ng5g7.out)); clear Bg5_4; have Bg7_5 := Aside0.mk hst; clear hst hu Bg7_4))
  refine wp_region_rgw 11 (by kernel_rfl) (fun x y => Below wx5.heap.size x y) (MadeV 8 9 wx5.heap.size #[.int .i64 0, .bool false, .int .u32 0, .int .u32 0, .bool false, .bool false, .int .u32 0, .int .u32 0, .bool false] #[.int .i64 nt, .bool ns1, .int .u32 ne1, .int .u32 nm1, .bool nf1, .bool ns2, .int .u32 ne2, .int .u32 nm2, .bool nf2] 48) (fun (i : Nat) (v : Value) (w1 : World) => match i with | 0 => v = (.agg #[.int .i64 st, .bool s1, .int .u32 e1, .int .u32 m1, .bool f1, .bool s2, .int .u32 e2, .int .u32 m2, .bool f2]) | 1 => v = (.agg #[.int .i64 st, .bool s1, .int .u32 e1, .int .u32 m1, .bool f1, .bool s2, .int .u32 e2, .int .u32 m2, .bool f2]) | 2 => v = (.bool xb) | 3 => v = (.agg #[.int .i64 sp, .int .i64 dp, .int .u32 sq, .int .u32 ak, .int .i64 fl, .int .i64 wi, .int .i64 ty, .int .i64 co, .int .i64 he, .int .i64 da]) | 4 => v = (.tuple #[.agg #[.int .i64 nt, .bool ns1, .int .u32 ne1, .int .u32 nm1, .bool nf1, .bool ns2, .int .u32 ne2, .int .u32 nm2, .bool nf2], .bool gd]) | 5 => v = (.tuple #[.agg #[.int .i64 nt, .bool ns1, .int .u32 ne1, .int .u32 nm1, .bool nf1, .bool ns2, .int .u32 ne2, .int .u32 nm2, .bool nf2], .bool gd]) | 6 => v = (.agg #[.int .i64 nt, .bool ns1, .int .u32 ne1, .int .u32 nm1, .bool nf1, .bool ns2, .int .u32 ne2, .int .u32 nm2, .bool nf2]) | 7 => v = (.bool gd) | 8 => True | 9 => True | 10 => v = (.bool gd) | _ => True) (by kernel_rfl) (by kernel_rfl) (by kernel_rfl) (by kernel_rfl) (fun _ _ _ h k => Below.trans h k) (Below.refl _ _).drew (madev_start) ?hJst1 ?hObl1 ?hEnd1
  case hJst1 =>
    intro i v wx wy hi hs0 hs1 hJi
    match i, hi with
    | 0, _ => exact hJi
    | 1, _ => exact hJi
    | 2, _ => exact hJi
    | 3, _ => exact hJi
    | 4, _ => exact hJi
    | 5, _ => exact hJi
    | 6, _ => exact hJi
    | 7, _ => exact hJi
    | 8, _ => replace hJi : (fun (v : Value) (w1 : World) => True) v wx := hJi; exact trivial
    | 9, _ => replace hJi : (fun (v : Value) (w1 : World) => True) v wx := hJi; exact trivial
    | 10, _ => exact hJi
    | _ + 11, hi => exact absurd hi (by simp)
  case hObl1 =>
    refine ⟨?_, ?_, ?_, ?_, ?_, ?_, ?_, ?_, ?_, ?_, ?_,  trivial⟩
    · intro listed vals a wq K hD hst hv hcl hj haft hun hK
      have hKv := fun v h => hK v wq (Below.refl _ _) (madev_other (by decide) (by decide) hv) h
      have h3 := hD.out 3 rfl rfl
      replace hst : Below wx5.heap.size _ wq := hst
      clear hD hj haft
      have e3 := eval_of h3
      exact step_now (v := .agg #[.int .i64 st, .bool s1, .int .u32 e1, .int .u32 m1, .bool f1, .bool s2, .int .u32 e2, .int .u32 m2, .bool f2]) (w' := wq) (wanted_free rfl) (rg_loadall rfl e3 (blk_below Bg3_5.out hst) Try.underlying41 rfl (by kernel_rfl)) (hKv _ rfl)
    · intro listed vals a wq K hD hst hv hcl hj haft hun hK
      have hKv := fun v h => hK v wq (Below.refl _ _) (madev_other (by decide) (by decide) hv) h
      obtain ⟨v21, h21, j21⟩ := hD.dep hj haft 0 21 rfl rfl
      replace j21 : v21 = (.agg #[.int .i64 st, .bool s1, .int .u32 e1, .int .u32 m1, .bool f1, .bool s2, .int .u32 e2, .int .u32 m2, .bool f2]) := j21
      subst j21
      replace hst : Below wx5.heap.size _ wq := hst
      clear hD hj haft
      have e21 := eval_of h21
      refine step_call (f := 19) (args := #[.agg #[.int .i64 st, .bool s1, .int .u32 e1, .int .u32 m1, .bool f1, .bool s2, .int .u32 e2, .int .u32 m2, .bool f2]]) (wanted_free rfl) ?_ (theirs_any st e1 m1 e2 m2 s1 f1 s2 f2 wq) ?_
      · clear hK hKv hv hcl hun; first | (go_simp; done) | (go_simp; rfl)
      · rintro e w' ⟨rfl, hbq⟩; exact ⟨_, rfl, hK _ _ (hbq.mono hst.size) (madev_below (by decide) (by decide) hv hbq) rfl⟩
    · intro listed vals a wq K hD hst hv hcl hj haft hun hK
      have hKv := fun v h => hK v wq (Below.refl _ _) (madev_other (by decide) (by decide) hv) h
      have h1 := hD.out 1 rfl rfl
      clear hD hj haft
      have e1 := eval_of h1
      refine step_now (v := .bool xb) (w' := wq) (wanted_free rfl) ?_ (hKv _ rfl)
      clear hK hKv hv hcl hun
      first | (go_simp; done) | (go_simp; rfl)
    · intro listed vals a wq K hD hst hv hcl hj haft hun hK
      have hKv := fun v h => hK v wq (Below.refl _ _) (madev_other (by decide) (by decide) hv) h
      have h5 := hD.out 5 rfl rfl
      replace hst : Below wx5.heap.size _ wq := hst
      clear hD hj haft
      have e5 := eval_of h5
      exact step_now (v := .agg #[.int .i64 sp, .int .i64 dp, .int .u32 sq, .int .u32 ak, .int .i64 fl, .int .i64 wi, .int .i64 ty, .int .i64 co, .int .i64 he, .int .i64 da]) (w' := wq) (wanted_free rfl) (rg_loadall rfl e5 (blk_below Bg5_5.out hst) Try.underlying43 rfl (by kernel_rfl)) (hKv _ rfl)
    · intro listed vals a wq K hD hst hv hcl hj haft hun hK
      have hKv := fun v h => hK v wq (Below.refl _ _) (madev_other (by decide) (by decide) hv) h
      obtain ⟨v22, h22, j22⟩ := hD.dep hj haft 1 22 rfl rfl
      replace j22 : v22 = (.agg #[.int .i64 st, .bool s1, .int .u32 e1, .int .u32 m1, .bool f1, .bool s2, .int .u32 e2, .int .u32 m2, .bool f2]) := j22
      subst j22
      obtain ⟨v23, h23, j23⟩ := hD.dep hj haft 2 23 rfl rfl
      replace j23 : v23 = (.bool xb) := j23
      subst j23
      obtain ⟨v24, h24, j24⟩ := hD.dep hj haft 3 24 rfl rfl
      replace j24 : v24 = (.agg #[.int .i64 sp, .int .i64 dp, .int .u32 sq, .int .u32 ak, .int .i64 fl, .int .i64 wi, .int .i64 ty, .int .i64 co, .int .i64 he, .int .i64 da]) := j24
      subst j24
      replace hst : Below wx5.heap.size _ wq := hst
      clear hD hj haft
      have e22 := eval_of h22
      have e23 := eval_of h23
      have e24 := eval_of h24
      refine step_call (f := 18) (args := #[.agg #[.int .i64 st, .bool s1, .int .u32 e1, .int .u32 m1, .bool f1, .bool s2, .int .u32 e2, .int .u32 m2, .bool f2], .bool xb, .agg #[.int .i64 sp, .int .i64 dp, .int .u32 sq, .int .u32 ak, .int .i64 fl, .int .i64 wi, .int .i64 ty, .int .i64 co, .int .i64 he, .int .i64 da]]) (wanted_free rfl) ?_ (rnext_as ⟨st, ⟨s1, e1, m1, f1⟩, ⟨s2, e2, m2, f2⟩⟩ xb ⟨sp, dp, sq, ak, fl, wi, ty, co, he, da⟩ ⟨nt, ⟨ns1, ne1, nm1, nf1⟩, ⟨ns2, ne2, nm2, nf2⟩⟩ gd HN.out wq) ?_
      · clear hK hKv hv hcl hun; first | (go_simp; done) | (go_simp; rfl)
      · rintro e w' ⟨rfl, hbq⟩; exact ⟨_, rfl, hK _ _ (hbq.mono hst.size) (madev_below (by decide) (by decide) hv hbq) rfl⟩
    · intro listed vals a wq K hD hst hv hcl hj haft hun hK
      have hKv := fun v h => hK v wq (Below.refl _ _) (madev_other (by decide) (by decide) hv) h
      obtain ⟨v25, h25, j25⟩ := hD.dep hj haft 4 25 rfl rfl
      replace j25 : v25 = (.tuple #[.agg #[.int .i64 nt, .bool ns1, .int .u32 ne1, .int .u32 nm1, .bool nf1, .bool ns2, .int .u32 ne2, .int .u32 nm2, .bool nf2], .bool gd]) := j25
      subst j25
      clear hD hj haft
      have e25 := eval_of h25
      refine step_now (v := .tuple #[.agg #[.int .i64 nt, .bool ns1, .int .u32 ne1, .int .u32 nm1, .bool nf1, .bool ns2, .int .u32 ne2, .int .u32 nm2, .bool nf2], .bool gd]) (w' := wq) (wanted_free rfl) ?_ (hKv _ rfl)
      clear hK hKv hv hcl hun
      first | (go_simp; done) | (go_simp; rfl)
    · intro listed vals a wq K hD hst hv hcl hj haft hun hK
      have hKv := fun v h => hK v wq (Below.refl _ _) (madev_other (by decide) (by decide) hv) h
      obtain ⟨v20, h20, j20⟩ := hD.dep hj haft 5 20 rfl rfl
      replace j20 : v20 = (.tuple #[.agg #[.int .i64 nt, .bool ns1, .int .u32 ne1, .int .u32 nm1, .bool nf1, .bool ns2, .int .u32 ne2, .int .u32 nm2, .bool nf2], .bool gd]) := j20
      subst j20
      clear hD hj haft
      have e20 := eval_of h20
      refine step_now (v := .agg #[.int .i64 nt, .bool ns1, .int .u32 ne1, .int .u32 nm1, .bool nf1, .bool ns2, .int .u32 ne2, .int .u32 nm2, .bool nf2]) (w' := wq) (wanted_free rfl) ?_ (hKv _ rfl)
      clear hK hKv hv hcl hun
      first | (go_simp; done) | (go_simp; rfl)
    · intro listed vals a wq K hD hst hv hcl hj haft hun hK
      have hKv := fun v h => hK v wq (Below.refl _ _) (madev_other (by decide) (by decide) hv) h
      obtain ⟨v20, h20, j20⟩ := hD.dep hj haft 5 20 rfl rfl
      replace j20 : v20 = (.tuple #[.agg #[.int .i64 nt, .bool ns1, .int .u32 ne1, .int .u32 nm1, .bool nf1, .bool ns2, .int .u32 ne2, .int .u32 nm2, .bool nf2], .bool gd]) := j20
      subst j20
      clear hD hj haft
      have e20 := eval_of h20
      refine step_now (v := .bool gd) (w' := wq) (wanted_free rfl) ?_ (hKv _ rfl)
      clear hK hKv hv hcl hun
      first | (go_simp; done) | (go_simp; rfl)
    · intro listed vals a wq K hD hst hv hcl hj haft hun hK
      replace hst : Below wx5.heap.size _ wq := hst
      clear hD hj haft
      refine step_now (v := .pointer (some ⟨wq.heap.size, 0, none⟩)) (w' := wq.alloc (.cells #[.int .i64 0, .bool false, .int .u32 0, .int .u32 0, .bool false, .bool false, .int .u32 0, .int .u32 0, .bool false] 48)) (wanted_free rfl) ?_ (hK _ _ ((Below.refl _ _).alloc hst.size _) (madev_made (by decide) (not_yet (i := 8) (j := 9) hcl (by kernel_rfl) (by kernel_rfl) hun) hst.size (blk_new wq _)) trivial)
      clear hK
      first | (go_simp; done) | (go_simp; rfl)
    · intro listed vals a wq K hD hst hv hcl hj haft hun hK
      obtain ⟨v9, h9, j9⟩ := hD.dep hj haft 8 9 rfl rfl
      replace j9 : (fun (v : Value) (w1 : World) => True) v9 wq := j9
      simp only at j9
      have hq9 := done_val hD haft 8 9 rfl rfl
      obtain ⟨v26, h26, j26⟩ := hD.dep hj haft 6 26 rfl rfl
      replace j26 : v26 = (.agg #[.int .i64 nt, .bool ns1, .int .u32 ne1, .int .u32 nm1, .bool nf1, .bool ns2, .int .u32 ne2, .int .u32 nm2, .bool nf2]) := j26
      subst j26
      replace hst : Below wx5.heap.size _ wq := hst
      clear hD hj haft
      have e9 := eval_of h9
      have e26 := eval_of h26
      obtain ⟨g19, hgv, hg0, hgb⟩ := madev_at hv hq9.1 (un_of hun)
      obtain rfl := (Option.some.inj (h9.symm.trans hq9.2)).trans hgv
      refine rg_step_store (cells := #[.int .i64 nt, .bool ns1, .int .u32 ne1, .int .u32 nm1, .bool nf1, .bool ns2, .int .u32 ne2, .int .u32 nm2, .bool nf2]) (W0 := wq) (wanted_free rfl) rfl e9 e26 hgb (stput_refl _ _ _) (by kernel_rfl) rfl rfl (fun w2 hs2 hg2 => hK _ w2 (below_upd (Below.refl _ _) hs2.1 hst.size (fun k hk => by cases hk; exact hg0)) (madev_put (by decide) hgv hg0 hg2) trivial)
    · intro listed vals a wq K hD hst hv hcl hj haft hun hK
      have hKv := fun v h => hK v wq (Below.refl _ _) (madev_other (by decide) (by decide) hv) h
      obtain ⟨v27, h27, j27⟩ := hD.dep hj haft 7 27 rfl rfl
      replace j27 : v27 = (.bool gd) := j27
      subst j27
      clear hD hj haft
      have e27 := eval_of h27
      refine step_now (v := .bool gd) (w' := wq) (wanted_free rfl) ?_ (hKv _ rfl)
      clear hK hKv hv hcl hun
      first | (go_simp; done) | (go_simp; rfl)
  intro vals wend dn hst hdn hv hj
  have j0 : vals 0 = (.agg #[.int .i64 st, .bool s1, .int .u32 e1, .int .u32 m1, .bool f1, .bool s2, .int .u32 e2, .int .u32 m2, .bool f2]) := hj 0 (by decide)
  have j1 : vals 1 = (.agg #[.int .i64 st, .bool s1, .int .u32 e1, .int .u32 m1, .bool f1, .bool s2, .int .u32 e2, .int .u32 m2, .bool f2]) := hj 1 (by decide)
  have j2 : vals 2 = (.bool xb) := hj 2 (by decide)
  have j3 : vals 3 = (.agg #[.int .i64 sp, .int .i64 dp, .int .u32 sq, .int .u32 ak, .int .i64 fl, .int .i64 wi, .int .i64 ty, .int .i64 co, .int .i64 he, .int .i64 da]) := hj 3 (by decide)
  have j4 : vals 4 = (.tuple #[.agg #[.int .i64 nt, .bool ns1, .int .u32 ne1, .int .u32 nm1, .bool nf1, .bool ns2, .int .u32 ne2, .int .u32 nm2, .bool nf2], .bool gd]) := hj 4 (by decide)
  have j5 : vals 5 = (.tuple #[.agg #[.int .i64 nt, .bool ns1, .int .u32 ne1, .int .u32 nm1, .bool nf1, .bool ns2, .int .u32 ne2, .int .u32 nm2, .bool nf2], .bool gd]) := hj 5 (by decide)
  have j6 : vals 6 = (.agg #[.int .i64 nt, .bool ns1, .int .u32 ne1, .int .u32 nm1, .bool nf1, .bool ns2, .int .u32 ne2, .int .u32 nm2, .bool nf2]) := hj 6 (by decide)
  have j7 : vals 7 = (.bool gd) := hj 7 (by decide)
  have j8 : (fun (v : Value) (w1 : World) => True) (vals 8) wend := hj 8 (by decide)
  have j9 : (fun (v : Value) (w1 : World) => True) (vals 9) wend := hj 9 (by decide)
  have j10 : vals 10 = (.bool gd) := hj 10 (by decide)
  replace hst : Below wx5.heap.size _ wend := hst
  obtain ⟨g19, hgv, hg0, hgb⟩ := madev_end hv (hdn 8 (by decide)) (hdn 9 (by decide))
  clear hj hv hdn
  simp only [List.take_succ_cons, List.take_zero, List.drop_succ_cons, List.drop_zero, putL, Act.put, List.setIfInBounds_toArray, List.set_cons_zero, List.set_cons_succ, j0, j1, j2, j3, j4, j5, j6, j7, j10]
  clear j0 j1 j2 j3 j4 j5 j6 j7 j10
  simp only [hgv]
  clear hgv j8 j9
  have HB_6 := Aside0.mk (below_step HB_5.out hst)
  clear HB_5
  have Bg3_6 := Aside0.mk (blk_below Bg3_5.out hst)
  clear Bg3_5
  have Bg5_6 := Aside0.mk (blk_below Bg5_5.out hst)
  clear Bg5_5
  have Bg7_6 := Aside0.mk (blk_below Bg7_5.out hst)
  clear Bg7_5
  clear hst hgb hg0
  cases gd
  · have hk := HK.out rfl
    simp only [Cn.mk.injEq, Sd.mk.injEq] at hk
    obtain ⟨rfl, ⟨rfl, rfl, rfl, rfl⟩, ⟨rfl, rfl, rfl, rfl⟩⟩ := hk
    go_upto_region 5 with (first | ((with_reducible refine gate_dst (N := 35) rfl ?_); (refine gate_guard (by rfl) ?_; dsimp only); refine load_event rfl 41 _ rfl g7 rfl _ _ _ Bg7_6.out Try.underlying41 rfl (by kernel_rfl) ?_) | ((with_reducible refine gate_dst (N := 36) rfl ?_); (refine gate_guard (by rfl) ?_; dsimp only); refine load_event rfl 41 _ rfl g3 rfl _ _ _ Bg3_6.out Try.underlying41 rfl (by kernel_rfl) ?_))
    go_upto_region 6 with (first | ((with_reducible refine gate_store (t := 3) (p := 40) rfl ?_); refine store1_event rfl _ _ _ rfl g3 0 rfl (.int .i64 5) _ ?hy _ _ #[.int .i64 5, .bool s1, .int .u32 e1, .int .u32 m1, .bool f1, .bool s2, .int .u32 e2, .int .u32 m2, .bool f2] Bg3_6.out rfl (by kernel_rfl) rfl rfl rfl ?_; (case hy => first | (with_reducible rfl) | rfl | (refine congrArg (Value.int _) ?_; omega)); intro wx7 hst hu; have HB_7 := Aside0.mk (below_upd HB_6.out hu (below_size HB_6.out) (fun k hk => by cases hk; exact Lg3.out)); clear HB_6; have Bg5_7 := Aside0.mk (Upd.blk hu Bg5_6.out (One.not (Ne.symm Ng3g5.out))); clear Bg5_6; have Bg7_7 := Aside0.mk (Upd.blk hu Bg7_6.out (One.not (Ne.symm Ng3g7.out))); clear Bg7_6; have Bg3_7 := Aside0.mk hst; clear hst hu Bg3_6))
    go_wp2_with (first | ((with_reducible refine gate_dst (N := 42) rfl ?_); refine load_event rfl 41 _ rfl g3 rfl _ _ _ Bg3_7.out Try.underlying41 rfl (by kernel_rfl) ?_) | ((with_reducible refine gate_dst (N := 44) rfl ?_); refine load_event rfl 43 _ rfl g5 rfl _ _ _ Bg5_7.out Try.underlying43 rfl (by kernel_rfl) ?_) | (go_at_call 17; refine (nx_as ⟨5, ⟨s1, e1, m1, f1⟩, ⟨s2, e2, m2, f2⟩⟩ xb ⟨sp, dp, sq, ak, fl, wi, ty, co, he, da⟩ ⟨5, ⟨s1, e1, m1, f1⟩, ⟨s2, e2, m2, f2⟩⟩ false (next_closed5 _ _ _ _) _).mono ?_; rintro e wx8 ⟨rfl, hb⟩; have HB_8 := Aside0.mk (below_step HB_7.out hb); clear HB_7; have Bg3_8 := Aside0.mk (blk_below Bg3_7.out hb); clear Bg3_7; have Bg5_8 := Aside0.mk (blk_below Bg5_7.out hb); clear Bg5_7; have Bg7_8 := Aside0.mk (blk_below Bg7_7.out hb); clear Bg7_7; clear hb) | ((with_reducible refine gate_dst (N := 11) rfl ?_); refine box_event ?hg (N := 11) ?hd (cs := #[.int .i64 0, .bool false, .int .u32 0, .int .u32 0, .bool false, .bool false, .int .u32 0, .int .u32 0, .bool false]) (t := 41) ?hr ?_; (case hd => rfl); (case hg => rfl); (case hr => first | (go_simp; done) | (go_simp; rfl)); intro g11 hgg wx9 hbox hb; have Ng3g11 := Aside0.mk (show g3 ≠ g11 by rw [hgg]; exact Nat.ne_of_lt (blk_lt Bg3_8.out)); have Ng5g11 := Aside0.mk (show g5 ≠ g11 by rw [hgg]; exact Nat.ne_of_lt (blk_lt Bg5_8.out)); have Ng7g11 := Aside0.mk (show g7 ≠ g11 by rw [hgg]; exact Nat.ne_of_lt (blk_lt Bg7_8.out)); have Lg11 := Aside0.mk (show w.heap.size ≤ g11 by rw [hgg]; exact below_size HB_8.out); have HB_9 := Aside0.mk (below_step HB_8.out hb); clear HB_8; have Bg3_9 := Aside0.mk (blk_below Bg3_8.out hb); clear Bg3_8; have Bg5_9 := Aside0.mk (blk_below Bg5_8.out hb); clear Bg5_8; have Bg7_9 := Aside0.mk (blk_below Bg7_8.out hb); clear Bg7_8; have Bg11_9 := Aside0.mk hbox; clear hbox hb hgg) | ((with_reducible refine gate_store (t := 41) (p := 11) rfl ?_); refine store_event rfl 41 _ _ rfl g11 _ rfl rfl _ _ Bg11_9.out (by kernel_rfl) rfl rfl ?_; intro wx10 hst hu; have HB_10 := Aside0.mk (below_upd HB_9.out hu (below_size HB_9.out) (fun k hk => by cases hk; exact Lg11.out)); clear HB_9; have Bg3_10 := Aside0.mk (Upd.blk hu Bg3_9.out (One.not Ng3g11.out)); clear Bg3_9; have Bg5_10 := Aside0.mk (Upd.blk hu Bg5_9.out (One.not Ng5g11.out)); clear Bg5_9; have Bg7_10 := Aside0.mk (Upd.blk hu Bg7_9.out (One.not Ng7g11.out)); clear Bg7_9; have Bg11_10 := Aside0.mk hst; clear hst hu Bg11_9) | ((with_reducible refine gate_dst (N := 51) rfl ?_); (refine gate_guard (by rfl) ?_; dsimp only); refine load_event rfl 41 _ rfl g11 rfl _ _ _ Bg11_10.out Try.underlying41 rfl (by kernel_rfl) ?_) | ((with_reducible refine gate_dst (N := 52) rfl ?_); (refine gate_guard (by rfl) ?_; dsimp only); refine load_event rfl 41 _ rfl g3 rfl _ _ _ Bg3_10.out Try.underlying41 rfl (by kernel_rfl) ?_))
    go_ret
    exact ⟨rfl, HB_10.out⟩
  go_upto_region 5 with (fail)
  go_upto_region 6 with (first | ((with_reducible refine gate_store (t := 3) (p := 40) rfl ?_); refine store1_event rfl _ _ _ rfl g3 0 rfl (.int .i64 5) _ ?hy _ _ #[.int .i64 5, .bool s1, .int .u32 e1, .int .u32 m1, .bool f1, .bool s2, .int .u32 e2, .int .u32 m2, .bool f2] Bg3_6.out rfl (by kernel_rfl) rfl rfl rfl ?_; (case hy => first | (with_reducible rfl) | rfl | (refine congrArg (Value.int _) ?_; omega)); intro wx7 hst hu; have HB_7 := Aside0.mk (below_upd HB_6.out hu (below_size HB_6.out) (fun k hk => by cases hk; exact Lg3.out)); clear HB_6; have Bg5_7 := Aside0.mk (Upd.blk hu Bg5_6.out (One.not (Ne.symm Ng3g5.out))); clear Bg5_6; have Bg7_7 := Aside0.mk (Upd.blk hu Bg7_6.out (One.not (Ne.symm Ng3g7.out))); clear Bg7_6; have Bg3_7 := Aside0.mk hst; clear hst hu Bg3_6))
  go_wp2_with (first | ((with_reducible refine gate_dst (N := 42) rfl ?_); refine load_event rfl 41 _ rfl g3 rfl _ _ _ Bg3_7.out Try.underlying41 rfl (by kernel_rfl) ?_) | ((with_reducible refine gate_dst (N := 44) rfl ?_); refine load_event rfl 43 _ rfl g5 rfl _ _ _ Bg5_7.out Try.underlying43 rfl (by kernel_rfl) ?_) | (go_at_call 17; refine (nx_as ⟨5, ⟨s1, e1, m1, f1⟩, ⟨s2, e2, m2, f2⟩⟩ xb ⟨sp, dp, sq, ak, fl, wi, ty, co, he, da⟩ ⟨5, ⟨s1, e1, m1, f1⟩, ⟨s2, e2, m2, f2⟩⟩ false (next_closed5 _ _ _ _) _).mono ?_; rintro e wx8 ⟨rfl, hb⟩; have HB_8 := Aside0.mk (below_step HB_7.out hb); clear HB_7; have Bg3_8 := Aside0.mk (blk_below Bg3_7.out hb); clear Bg3_7; have Bg5_8 := Aside0.mk (blk_below Bg5_7.out hb); clear Bg5_7; have Bg7_8 := Aside0.mk (blk_below Bg7_7.out hb); clear Bg7_7; clear hb) | ((with_reducible refine gate_dst (N := 11) rfl ?_); refine box_event ?hg (N := 11) ?hd (cs := #[.int .i64 0, .bool false, .int .u32 0, .int .u32 0, .bool false, .bool false, .int .u32 0, .int .u32 0, .bool false]) (t := 41) ?hr ?_; (case hd => rfl); (case hg => rfl); (case hr => first | (go_simp; done) | (go_simp; rfl)); intro g11 hgg wx9 hbox hb; have Ng3g11 := Aside0.mk (show g3 ≠ g11 by rw [hgg]; exact Nat.ne_of_lt (blk_lt Bg3_8.out)); have Ng5g11 := Aside0.mk (show g5 ≠ g11 by rw [hgg]; exact Nat.ne_of_lt (blk_lt Bg5_8.out)); have Ng7g11 := Aside0.mk (show g7 ≠ g11 by rw [hgg]; exact Nat.ne_of_lt (blk_lt Bg7_8.out)); have Lg11 := Aside0.mk (show w.heap.size ≤ g11 by rw [hgg]; exact below_size HB_8.out); have HB_9 := Aside0.mk (below_step HB_8.out hb); clear HB_8; have Bg3_9 := Aside0.mk (blk_below Bg3_8.out hb); clear Bg3_8; have Bg5_9 := Aside0.mk (blk_below Bg5_8.out hb); clear Bg5_8; have Bg7_9 := Aside0.mk (blk_below Bg7_8.out hb); clear Bg7_8; have Bg11_9 := Aside0.mk hbox; clear hbox hb hgg) | ((with_reducible refine gate_store (t := 41) (p := 11) rfl ?_); refine store_event rfl 41 _ _ rfl g11 _ rfl rfl _ _ Bg11_9.out (by kernel_rfl) rfl rfl ?_; intro wx10 hst hu; have HB_10 := Aside0.mk (below_upd HB_9.out hu (below_size HB_9.out) (fun k hk => by cases hk; exact Lg11.out)); clear HB_9; have Bg3_10 := Aside0.mk (Upd.blk hu Bg3_9.out (One.not Ng3g11.out)); clear Bg3_9; have Bg5_10 := Aside0.mk (Upd.blk hu Bg5_9.out (One.not Ng5g11.out)); clear Bg5_9; have Bg7_10 := Aside0.mk (Upd.blk hu Bg7_9.out (One.not Ng7g11.out)); clear Bg7_9; have Bg11_10 := Aside0.mk hst; clear hst hu Bg11_9) | ((with_reducible refine gate_dst (N := 51) rfl ?_); (refine gate_guard (by rfl) ?_; dsimp only); refine load_event rfl 41 _ rfl g11 rfl _ _ _ Bg11_10.out Try.underlying41 rfl (by kernel_rfl) ?_) | ((with_reducible refine gate_dst (N := 52) rfl ?_); (refine gate_guard (by rfl) ?_; dsimp only); refine load_event rfl 41 _ rfl g3 rfl _ _ _ Bg3_10.out Try.underlying41 rfl (by kernel_rfl) ?_))
  go_ret
  exact ⟨rfl, HB_10.out⟩
end Go.Proofs.Ytainkpgplmkiaaa.WindowQuietWalk
