/- window's synced: a segment with Syn. No condition. -/
import Derived.Test.YtainkpgplmkiaaaWin2
namespace Go.Proofs.Ytainkpgplmkiaaa.Win3
open Go Go.RowKit Go.Proofs.YtainkpgplmkiaaaW.PrintWords Go.Proofs.YtainkpgplmkiaaaW.PrintLast Go.Proofs.YtainkpgplmkiaaaW.PrintMore Go.Proofs.Ytainkpgplmkiaaa.MWorld Go.Proofs.Ytainkpgplmkiaaa.Ev Go.Proofs.Ytainkpgplmkiaaa.Win Go.Proofs.Ytainkpgplmkiaaa.Win2 Go.Proofs.Ytainkpgplmkiaaa.Rg
set_option linter.unusedVariables false
set_option linter.unusedSimpArgs false
theorem grants_any (g o : Nat) (cs : Array Value) (mo sp dp sq ak fl wi ty co he da : Int) (sn s1 s2 s3 ac : Bool) (en : Int) (w : World) (hb : w.heap[g]? = some (.cells cs 41 (0, 0))) (h0 : cs[o]? = some (.bool sn)) (h2 : cs[o + 2]? = some (.int .u32 mo)) : Calls Try.prog 44 #[.pointer (some ⟨g, o, none⟩), .agg #[.int .i64 sp, .int .i64 dp, .int .u32 sq, .int .u32 ak, .int .i64 fl, .int .i64 wi, .int .i64 ty, .int .i64 co, .int .i64 he, .int .i64 da, .bool s1, .bool s2, .bool s3, .bool ac, .int .u32 en]] w (GrantPost g o cs (grant sn ac mo ak wi) w) := by
  cases sn
  · exact grants_00 g o cs mo sp dp sq ak fl wi ty co he da s1 s2 s3 ac en w hb h0 h2
  · cases ac
    · exact grants_10 g o cs mo sp dp sq ak fl wi ty co he da s1 s2 s3 en w hb h0 h2
    · exact grants_11 g o cs mo sp dp sq ak fl wi ty co he da s1 s2 s3 en w hb h0 h2
theorem sides_t (g : Nat) (w : World) : Calls Try.prog 40 #[.pointer (some ⟨g, 0, none⟩), .bool true] w fun e w' => e = .returned (.tuple #[.pointer (some ⟨g, 5, none⟩), .pointer (some ⟨g, 1, none⟩)]) ∧ Below w.heap.size w w' :=
  (sides_any g true w).mono fun e w' ⟨h, n, hw⟩ => ⟨h, by subst hw; exact pw_below_drewN (Below.refl _ _) n⟩
theorem sides_f (g : Nat) (w : World) : Calls Try.prog 40 #[.pointer (some ⟨g, 0, none⟩), .bool false] w fun e w' => e = .returned (.tuple #[.pointer (some ⟨g, 1, none⟩), .pointer (some ⟨g, 5, none⟩)]) ∧ Below w.heap.size w w' :=
  (sides_any g false w).mono fun e w' ⟨h, n, hw⟩ => ⟨h, by subst hw; exact pw_below_drewN (Below.refl _ _) n⟩

set_option maxRecDepth 100000 in
set_option maxHeartbeats 4000000 in
theorem sy_t_fin (st e1 m1 e2 m2 : Int) (s1 f1 s2 f2 : Bool) (sp dp sq ak fl wi ty co he da en : Int) (sy rs ac : Bool) (w : World)  : Calls Try.prog 42 #[.agg #[.int .i64 st, .bool s1, .int .u32 e1, .int .u32 m1, .bool f1, .bool s2, .int .u32 e2, .int .u32 m2, .bool f2], .bool true, .agg #[.int .i64 sp, .int .i64 dp, .int .u32 sq, .int .u32 ak, .int .i64 fl, .int .i64 wi, .int .i64 ty, .int .i64 co, .int .i64 he, .int .i64 da, .bool sy, .bool true, .bool rs, .bool ac, .int .u32 en]] w fun e w' => e = .returned (.tuple #[.agg #[.int .i64 st, .bool s1, .int .u32 e1, .int .u32 m1, .bool f1, .bool s2, .int .u32 e2, .int .u32 m2, .bool f2], .bool false]) ∧ Below w.heap.size w w' := by
  go_enter Try.func42, Try.ntmps42
  go_wp2_with (first | ((with_reducible refine gate_dst (N := 3) rfl ?_); refine box_event ?hg (N := 3) ?hd (cs := #[.int .i64 st, .bool s1, .int .u32 e1, .int .u32 m1, .bool f1, .bool s2, .int .u32 e2, .int .u32 m2, .bool f2]) (t := 41) ?hr ?_; (case hd => rfl); (case hg => rfl); (case hr => first | (go_simp; done) | (go_simp; rfl)); intro g3 hgg wx1 hbox hb; have Lg3 := Aside0.mk (show w.heap.size ≤ g3 by rw [hgg]; exact Nat.le_refl _); have HB_1 := Aside0.mk (hb); have Bg3_1 := Aside0.mk hbox; clear hbox hb hgg) | ((with_reducible refine gate_dst (N := 5) rfl ?_); refine box_event ?hg (N := 5) ?hd (cs := #[.int .i64 sp, .int .i64 dp, .int .u32 sq, .int .u32 ak, .int .i64 fl, .int .i64 wi, .int .i64 ty, .int .i64 co, .int .i64 he, .int .i64 da, .bool sy, .bool true, .bool rs, .bool ac, .int .u32 en]) (t := 95) ?hr ?_; (case hd => rfl); (case hg => rfl); (case hr => first | (go_simp; done) | (go_simp; rfl)); intro g5 hgg wx2 hbox hb; have Ng3g5 := Aside0.mk (show g3 ≠ g5 by rw [hgg]; exact Nat.ne_of_lt (blk_lt Bg3_1.out)); have Lg5 := Aside0.mk (show w.heap.size ≤ g5 by rw [hgg]; exact below_size HB_1.out); have HB_2 := Aside0.mk (below_step HB_1.out hb); clear HB_1; have Bg3_2 := Aside0.mk (blk_below Bg3_1.out hb); clear Bg3_1; have Bg5_2 := Aside0.mk hbox; clear hbox hb hgg) | ((with_reducible refine gate_dst (N := 6) rfl ?_); refine box_event ?hg (N := 6) ?hd (cs := #[.int .i64 0, .bool false, .int .u32 0, .int .u32 0, .bool false, .bool false, .int .u32 0, .int .u32 0, .bool false]) (t := 41) ?hr ?_; (case hd => rfl); (case hg => rfl); (case hr => first | (go_simp; done) | (go_simp; rfl)); intro g6 hgg wx3 hbox hb; have Ng3g6 := Aside0.mk (show g3 ≠ g6 by rw [hgg]; exact Nat.ne_of_lt (blk_lt Bg3_2.out)); have Ng5g6 := Aside0.mk (show g5 ≠ g6 by rw [hgg]; exact Nat.ne_of_lt (blk_lt Bg5_2.out)); have Lg6 := Aside0.mk (show w.heap.size ≤ g6 by rw [hgg]; exact below_size HB_2.out); have HB_3 := Aside0.mk (below_step HB_2.out hb); clear HB_2; have Bg3_3 := Aside0.mk (blk_below Bg3_2.out hb); clear Bg3_2; have Bg5_3 := Aside0.mk (blk_below Bg5_2.out hb); clear Bg5_2; have Bg6_3 := Aside0.mk hbox; clear hbox hb hgg) | ((with_reducible refine gate_dst (N := 11) rfl ?_); refine load_event rfl 41 _ rfl g3 rfl _ _ _ Bg3_3.out Try.underlying41 rfl (by kernel_rfl) ?_) | ((with_reducible refine gate_dst (N := 8) rfl ?_); refine box_event ?hg (N := 8) ?hd (cs := #[.int .i64 0, .bool false, .int .u32 0, .int .u32 0, .bool false, .bool false, .int .u32 0, .int .u32 0, .bool false]) (t := 41) ?hr ?_; (case hd => rfl); (case hg => rfl); (case hr => first | (go_simp; done) | (go_simp; rfl)); intro g8 hgg wx4 hbox hb; have Ng3g8 := Aside0.mk (show g3 ≠ g8 by rw [hgg]; exact Nat.ne_of_lt (blk_lt Bg3_3.out)); have Ng5g8 := Aside0.mk (show g5 ≠ g8 by rw [hgg]; exact Nat.ne_of_lt (blk_lt Bg5_3.out)); have Ng6g8 := Aside0.mk (show g6 ≠ g8 by rw [hgg]; exact Nat.ne_of_lt (blk_lt Bg6_3.out)); have Lg8 := Aside0.mk (show w.heap.size ≤ g8 by rw [hgg]; exact below_size HB_3.out); have HB_4 := Aside0.mk (below_step HB_3.out hb); clear HB_3; have Bg3_4 := Aside0.mk (blk_below Bg3_3.out hb); clear Bg3_3; have Bg5_4 := Aside0.mk (blk_below Bg5_3.out hb); clear Bg5_3; have Bg6_4 := Aside0.mk (blk_below Bg6_3.out hb); clear Bg6_3; have Bg8_4 := Aside0.mk hbox; clear hbox hb hgg) | ((with_reducible refine gate_store (t := 41) (p := 8) rfl ?_); refine store_event rfl 41 _ _ rfl g8 _ rfl rfl _ _ Bg8_4.out (by kernel_rfl) rfl rfl ?_; intro wx5 hst hu; have HB_5 := Aside0.mk (below_upd HB_4.out hu (below_size HB_4.out) (fun k hk => by cases hk; exact Lg8.out)); clear HB_4; have Bg3_5 := Aside0.mk (Upd.blk hu Bg3_4.out (One.not Ng3g8.out)); clear Bg3_4; have Bg5_5 := Aside0.mk (Upd.blk hu Bg5_4.out (One.not Ng5g8.out)); clear Bg5_4; have Bg6_5 := Aside0.mk (Upd.blk hu Bg6_4.out (One.not Ng6g8.out)); clear Bg6_4; have Bg8_5 := Aside0.mk hst; clear hst hu Bg8_4) | (go_at_call 40; refine (sides_t g8 _).mono ?_; rintro e wx6 ⟨rfl, hb⟩; have HB_6 := Aside0.mk (below_step HB_5.out hb); clear HB_5; have Bg3_6 := Aside0.mk (blk_below Bg3_5.out hb); clear Bg3_5; have Bg5_6 := Aside0.mk (blk_below Bg5_5.out hb); clear Bg5_5; have Bg6_6 := Aside0.mk (blk_below Bg6_5.out hb); clear Bg6_5; have Bg8_6 := Aside0.mk (blk_below Bg8_5.out hb); clear Bg8_5; clear hb) | ((with_reducible refine gate_dst (N := 19) rfl ?_); refine load1_event rfl _ _ rfl g5 11 rfl _ _ _ _ Bg5_6.out rfl Try.underlying4 rfl ?_) | ((with_reducible refine gate_dst (N := 30) rfl ?_); refine load_event rfl 41 _ rfl g3 rfl _ _ _ Bg3_6.out Try.underlying41 rfl (by kernel_rfl) ?_) | ((with_reducible refine gate_store (t := 41) (p := 6) rfl ?_); refine store_event rfl 41 _ _ rfl g6 _ rfl rfl _ _ Bg6_6.out (by kernel_rfl) rfl rfl ?_; intro wx7 hst hu; have HB_7 := Aside0.mk (below_upd HB_6.out hu (below_size HB_6.out) (fun k hk => by cases hk; exact Lg6.out)); clear HB_6; have Bg3_7 := Aside0.mk (Upd.blk hu Bg3_6.out (One.not Ng3g6.out)); clear Bg3_6; have Bg5_7 := Aside0.mk (Upd.blk hu Bg5_6.out (One.not Ng5g6.out)); clear Bg5_6; have Bg8_7 := Aside0.mk (Upd.blk hu Bg8_6.out (One.not (Ne.symm Ng6g8.out))); clear Bg8_6; have Bg6_7 := Aside0.mk hst; clear hst hu Bg6_6))
  exact bodyPost_ret (results_ct rfl _ _ g6 41 #[.int .i64 st, .bool s1, .int .u32 e1, .int .u32 m1, .bool f1, .bool s2, .int .u32 e2, .int .u32 m2, .bool f2] (0, 0) _ rfl Bg6_7.out Try.underlying41 rfl (by kernel_rfl)) rfl ⟨rfl, HB_7.out⟩
set_option maxRecDepth 100000 in
set_option maxHeartbeats 4000000 in
theorem sy_t_rst (st e1 m1 e2 m2 : Int) (s1 f1 s2 f2 : Bool) (sp dp sq ak fl wi ty co he da en : Int) (sy ac : Bool) (w : World)  : Calls Try.prog 42 #[.agg #[.int .i64 st, .bool s1, .int .u32 e1, .int .u32 m1, .bool f1, .bool s2, .int .u32 e2, .int .u32 m2, .bool f2], .bool true, .agg #[.int .i64 sp, .int .i64 dp, .int .u32 sq, .int .u32 ak, .int .i64 fl, .int .i64 wi, .int .i64 ty, .int .i64 co, .int .i64 he, .int .i64 da, .bool sy, .bool false, .bool true, .bool ac, .int .u32 en]] w fun e w' => e = .returned (.tuple #[.agg #[.int .i64 st, .bool s1, .int .u32 e1, .int .u32 m1, .bool f1, .bool s2, .int .u32 e2, .int .u32 m2, .bool f2], .bool false]) ∧ Below w.heap.size w w' := by
  go_enter Try.func42, Try.ntmps42
  go_wp2_with (first | ((with_reducible refine gate_dst (N := 3) rfl ?_); refine box_event ?hg (N := 3) ?hd (cs := #[.int .i64 st, .bool s1, .int .u32 e1, .int .u32 m1, .bool f1, .bool s2, .int .u32 e2, .int .u32 m2, .bool f2]) (t := 41) ?hr ?_; (case hd => rfl); (case hg => rfl); (case hr => first | (go_simp; done) | (go_simp; rfl)); intro g3 hgg wx1 hbox hb; have Lg3 := Aside0.mk (show w.heap.size ≤ g3 by rw [hgg]; exact Nat.le_refl _); have HB_1 := Aside0.mk (hb); have Bg3_1 := Aside0.mk hbox; clear hbox hb hgg) | ((with_reducible refine gate_dst (N := 5) rfl ?_); refine box_event ?hg (N := 5) ?hd (cs := #[.int .i64 sp, .int .i64 dp, .int .u32 sq, .int .u32 ak, .int .i64 fl, .int .i64 wi, .int .i64 ty, .int .i64 co, .int .i64 he, .int .i64 da, .bool sy, .bool false, .bool true, .bool ac, .int .u32 en]) (t := 95) ?hr ?_; (case hd => rfl); (case hg => rfl); (case hr => first | (go_simp; done) | (go_simp; rfl)); intro g5 hgg wx2 hbox hb; have Ng3g5 := Aside0.mk (show g3 ≠ g5 by rw [hgg]; exact Nat.ne_of_lt (blk_lt Bg3_1.out)); have Lg5 := Aside0.mk (show w.heap.size ≤ g5 by rw [hgg]; exact below_size HB_1.out); have HB_2 := Aside0.mk (below_step HB_1.out hb); clear HB_1; have Bg3_2 := Aside0.mk (blk_below Bg3_1.out hb); clear Bg3_1; have Bg5_2 := Aside0.mk hbox; clear hbox hb hgg) | ((with_reducible refine gate_dst (N := 6) rfl ?_); refine box_event ?hg (N := 6) ?hd (cs := #[.int .i64 0, .bool false, .int .u32 0, .int .u32 0, .bool false, .bool false, .int .u32 0, .int .u32 0, .bool false]) (t := 41) ?hr ?_; (case hd => rfl); (case hg => rfl); (case hr => first | (go_simp; done) | (go_simp; rfl)); intro g6 hgg wx3 hbox hb; have Ng3g6 := Aside0.mk (show g3 ≠ g6 by rw [hgg]; exact Nat.ne_of_lt (blk_lt Bg3_2.out)); have Ng5g6 := Aside0.mk (show g5 ≠ g6 by rw [hgg]; exact Nat.ne_of_lt (blk_lt Bg5_2.out)); have Lg6 := Aside0.mk (show w.heap.size ≤ g6 by rw [hgg]; exact below_size HB_2.out); have HB_3 := Aside0.mk (below_step HB_2.out hb); clear HB_2; have Bg3_3 := Aside0.mk (blk_below Bg3_2.out hb); clear Bg3_2; have Bg5_3 := Aside0.mk (blk_below Bg5_2.out hb); clear Bg5_2; have Bg6_3 := Aside0.mk hbox; clear hbox hb hgg) | ((with_reducible refine gate_dst (N := 11) rfl ?_); refine load_event rfl 41 _ rfl g3 rfl _ _ _ Bg3_3.out Try.underlying41 rfl (by kernel_rfl) ?_) | ((with_reducible refine gate_dst (N := 8) rfl ?_); refine box_event ?hg (N := 8) ?hd (cs := #[.int .i64 0, .bool false, .int .u32 0, .int .u32 0, .bool false, .bool false, .int .u32 0, .int .u32 0, .bool false]) (t := 41) ?hr ?_; (case hd => rfl); (case hg => rfl); (case hr => first | (go_simp; done) | (go_simp; rfl)); intro g8 hgg wx4 hbox hb; have Ng3g8 := Aside0.mk (show g3 ≠ g8 by rw [hgg]; exact Nat.ne_of_lt (blk_lt Bg3_3.out)); have Ng5g8 := Aside0.mk (show g5 ≠ g8 by rw [hgg]; exact Nat.ne_of_lt (blk_lt Bg5_3.out)); have Ng6g8 := Aside0.mk (show g6 ≠ g8 by rw [hgg]; exact Nat.ne_of_lt (blk_lt Bg6_3.out)); have Lg8 := Aside0.mk (show w.heap.size ≤ g8 by rw [hgg]; exact below_size HB_3.out); have HB_4 := Aside0.mk (below_step HB_3.out hb); clear HB_3; have Bg3_4 := Aside0.mk (blk_below Bg3_3.out hb); clear Bg3_3; have Bg5_4 := Aside0.mk (blk_below Bg5_3.out hb); clear Bg5_3; have Bg6_4 := Aside0.mk (blk_below Bg6_3.out hb); clear Bg6_3; have Bg8_4 := Aside0.mk hbox; clear hbox hb hgg) | ((with_reducible refine gate_store (t := 41) (p := 8) rfl ?_); refine store_event rfl 41 _ _ rfl g8 _ rfl rfl _ _ Bg8_4.out (by kernel_rfl) rfl rfl ?_; intro wx5 hst hu; have HB_5 := Aside0.mk (below_upd HB_4.out hu (below_size HB_4.out) (fun k hk => by cases hk; exact Lg8.out)); clear HB_4; have Bg3_5 := Aside0.mk (Upd.blk hu Bg3_4.out (One.not Ng3g8.out)); clear Bg3_4; have Bg5_5 := Aside0.mk (Upd.blk hu Bg5_4.out (One.not Ng5g8.out)); clear Bg5_4; have Bg6_5 := Aside0.mk (Upd.blk hu Bg6_4.out (One.not Ng6g8.out)); clear Bg6_4; have Bg8_5 := Aside0.mk hst; clear hst hu Bg8_4) | (go_at_call 40; refine (sides_t g8 _).mono ?_; rintro e wx6 ⟨rfl, hb⟩; have HB_6 := Aside0.mk (below_step HB_5.out hb); clear HB_5; have Bg3_6 := Aside0.mk (blk_below Bg3_5.out hb); clear Bg3_5; have Bg5_6 := Aside0.mk (blk_below Bg5_5.out hb); clear Bg5_5; have Bg6_6 := Aside0.mk (blk_below Bg6_5.out hb); clear Bg6_5; have Bg8_6 := Aside0.mk (blk_below Bg8_5.out hb); clear Bg8_5; clear hb) | ((with_reducible refine gate_dst (N := 19) rfl ?_); refine load1_event rfl _ _ rfl g5 11 rfl _ _ _ _ Bg5_6.out rfl Try.underlying4 rfl ?_) | ((with_reducible refine gate_dst (N := 22) rfl ?_); (refine gate_guard (by rfl) ?_; dsimp only); refine load1_event rfl _ _ rfl g5 12 rfl _ _ _ _ Bg5_6.out rfl Try.underlying4 rfl ?_) | ((with_reducible refine gate_dst (N := 30) rfl ?_); refine load_event rfl 41 _ rfl g3 rfl _ _ _ Bg3_6.out Try.underlying41 rfl (by kernel_rfl) ?_) | ((with_reducible refine gate_store (t := 41) (p := 6) rfl ?_); refine store_event rfl 41 _ _ rfl g6 _ rfl rfl _ _ Bg6_6.out (by kernel_rfl) rfl rfl ?_; intro wx7 hst hu; have HB_7 := Aside0.mk (below_upd HB_6.out hu (below_size HB_6.out) (fun k hk => by cases hk; exact Lg6.out)); clear HB_6; have Bg3_7 := Aside0.mk (Upd.blk hu Bg3_6.out (One.not Ng3g6.out)); clear Bg3_6; have Bg5_7 := Aside0.mk (Upd.blk hu Bg5_6.out (One.not Ng5g6.out)); clear Bg5_6; have Bg8_7 := Aside0.mk (Upd.blk hu Bg8_6.out (One.not (Ne.symm Ng6g8.out))); clear Bg8_6; have Bg6_7 := Aside0.mk hst; clear hst hu Bg6_6))
  exact bodyPost_ret (results_ct rfl _ _ g6 41 #[.int .i64 st, .bool s1, .int .u32 e1, .int .u32 m1, .bool f1, .bool s2, .int .u32 e2, .int .u32 m2, .bool f2] (0, 0) _ rfl Bg6_7.out Try.underlying41 rfl (by kernel_rfl)) rfl ⟨rfl, HB_7.out⟩
set_option maxRecDepth 100000 in
set_option maxHeartbeats 4000000 in
theorem sy_t_data (st e1 m1 e2 m2 : Int) (s1 f1 s2 f2 : Bool) (sp dp sq ak fl wi ty co he da en : Int) (sy ac : Bool) (w : World) (hd : (da != 0) = true) : Calls Try.prog 42 #[.agg #[.int .i64 st, .bool s1, .int .u32 e1, .int .u32 m1, .bool f1, .bool s2, .int .u32 e2, .int .u32 m2, .bool f2], .bool true, .agg #[.int .i64 sp, .int .i64 dp, .int .u32 sq, .int .u32 ak, .int .i64 fl, .int .i64 wi, .int .i64 ty, .int .i64 co, .int .i64 he, .int .i64 da, .bool sy, .bool false, .bool false, .bool ac, .int .u32 en]] w fun e w' => e = .returned (.tuple #[.agg #[.int .i64 st, .bool s1, .int .u32 e1, .int .u32 m1, .bool f1, .bool s2, .int .u32 e2, .int .u32 m2, .bool f2], .bool false]) ∧ Below w.heap.size w w' := by
  go_enter Try.func42, Try.ntmps42
  go_wp2_with (first | ((with_reducible refine gate_dst (N := 3) rfl ?_); refine box_event ?hg (N := 3) ?hd (cs := #[.int .i64 st, .bool s1, .int .u32 e1, .int .u32 m1, .bool f1, .bool s2, .int .u32 e2, .int .u32 m2, .bool f2]) (t := 41) ?hr ?_; (case hd => rfl); (case hg => rfl); (case hr => first | (go_simp; done) | (go_simp; rfl)); intro g3 hgg wx1 hbox hb; have Lg3 := Aside0.mk (show w.heap.size ≤ g3 by rw [hgg]; exact Nat.le_refl _); have HB_1 := Aside0.mk (hb); have Bg3_1 := Aside0.mk hbox; clear hbox hb hgg) | ((with_reducible refine gate_dst (N := 5) rfl ?_); refine box_event ?hg (N := 5) ?hd (cs := #[.int .i64 sp, .int .i64 dp, .int .u32 sq, .int .u32 ak, .int .i64 fl, .int .i64 wi, .int .i64 ty, .int .i64 co, .int .i64 he, .int .i64 da, .bool sy, .bool false, .bool false, .bool ac, .int .u32 en]) (t := 95) ?hr ?_; (case hd => rfl); (case hg => rfl); (case hr => first | (go_simp; done) | (go_simp; rfl)); intro g5 hgg wx2 hbox hb; have Ng3g5 := Aside0.mk (show g3 ≠ g5 by rw [hgg]; exact Nat.ne_of_lt (blk_lt Bg3_1.out)); have Lg5 := Aside0.mk (show w.heap.size ≤ g5 by rw [hgg]; exact below_size HB_1.out); have HB_2 := Aside0.mk (below_step HB_1.out hb); clear HB_1; have Bg3_2 := Aside0.mk (blk_below Bg3_1.out hb); clear Bg3_1; have Bg5_2 := Aside0.mk hbox; clear hbox hb hgg) | ((with_reducible refine gate_dst (N := 6) rfl ?_); refine box_event ?hg (N := 6) ?hd (cs := #[.int .i64 0, .bool false, .int .u32 0, .int .u32 0, .bool false, .bool false, .int .u32 0, .int .u32 0, .bool false]) (t := 41) ?hr ?_; (case hd => rfl); (case hg => rfl); (case hr => first | (go_simp; done) | (go_simp; rfl)); intro g6 hgg wx3 hbox hb; have Ng3g6 := Aside0.mk (show g3 ≠ g6 by rw [hgg]; exact Nat.ne_of_lt (blk_lt Bg3_2.out)); have Ng5g6 := Aside0.mk (show g5 ≠ g6 by rw [hgg]; exact Nat.ne_of_lt (blk_lt Bg5_2.out)); have Lg6 := Aside0.mk (show w.heap.size ≤ g6 by rw [hgg]; exact below_size HB_2.out); have HB_3 := Aside0.mk (below_step HB_2.out hb); clear HB_2; have Bg3_3 := Aside0.mk (blk_below Bg3_2.out hb); clear Bg3_2; have Bg5_3 := Aside0.mk (blk_below Bg5_2.out hb); clear Bg5_2; have Bg6_3 := Aside0.mk hbox; clear hbox hb hgg) | ((with_reducible refine gate_dst (N := 11) rfl ?_); refine load_event rfl 41 _ rfl g3 rfl _ _ _ Bg3_3.out Try.underlying41 rfl (by kernel_rfl) ?_) | ((with_reducible refine gate_dst (N := 8) rfl ?_); refine box_event ?hg (N := 8) ?hd (cs := #[.int .i64 0, .bool false, .int .u32 0, .int .u32 0, .bool false, .bool false, .int .u32 0, .int .u32 0, .bool false]) (t := 41) ?hr ?_; (case hd => rfl); (case hg => rfl); (case hr => first | (go_simp; done) | (go_simp; rfl)); intro g8 hgg wx4 hbox hb; have Ng3g8 := Aside0.mk (show g3 ≠ g8 by rw [hgg]; exact Nat.ne_of_lt (blk_lt Bg3_3.out)); have Ng5g8 := Aside0.mk (show g5 ≠ g8 by rw [hgg]; exact Nat.ne_of_lt (blk_lt Bg5_3.out)); have Ng6g8 := Aside0.mk (show g6 ≠ g8 by rw [hgg]; exact Nat.ne_of_lt (blk_lt Bg6_3.out)); have Lg8 := Aside0.mk (show w.heap.size ≤ g8 by rw [hgg]; exact below_size HB_3.out); have HB_4 := Aside0.mk (below_step HB_3.out hb); clear HB_3; have Bg3_4 := Aside0.mk (blk_below Bg3_3.out hb); clear Bg3_3; have Bg5_4 := Aside0.mk (blk_below Bg5_3.out hb); clear Bg5_3; have Bg6_4 := Aside0.mk (blk_below Bg6_3.out hb); clear Bg6_3; have Bg8_4 := Aside0.mk hbox; clear hbox hb hgg) | ((with_reducible refine gate_store (t := 41) (p := 8) rfl ?_); refine store_event rfl 41 _ _ rfl g8 _ rfl rfl _ _ Bg8_4.out (by kernel_rfl) rfl rfl ?_; intro wx5 hst hu; have HB_5 := Aside0.mk (below_upd HB_4.out hu (below_size HB_4.out) (fun k hk => by cases hk; exact Lg8.out)); clear HB_4; have Bg3_5 := Aside0.mk (Upd.blk hu Bg3_4.out (One.not Ng3g8.out)); clear Bg3_4; have Bg5_5 := Aside0.mk (Upd.blk hu Bg5_4.out (One.not Ng5g8.out)); clear Bg5_4; have Bg6_5 := Aside0.mk (Upd.blk hu Bg6_4.out (One.not Ng6g8.out)); clear Bg6_4; have Bg8_5 := Aside0.mk hst; clear hst hu Bg8_4) | (go_at_call 40; refine (sides_t g8 _).mono ?_; rintro e wx6 ⟨rfl, hb⟩; have HB_6 := Aside0.mk (below_step HB_5.out hb); clear HB_5; have Bg3_6 := Aside0.mk (blk_below Bg3_5.out hb); clear Bg3_5; have Bg5_6 := Aside0.mk (blk_below Bg5_5.out hb); clear Bg5_5; have Bg6_6 := Aside0.mk (blk_below Bg6_5.out hb); clear Bg6_5; have Bg8_6 := Aside0.mk (blk_below Bg8_5.out hb); clear Bg8_5; clear hb) | ((with_reducible refine gate_dst (N := 19) rfl ?_); refine load1_event rfl _ _ rfl g5 11 rfl _ _ _ _ Bg5_6.out rfl Try.underlying4 rfl ?_) | ((with_reducible refine gate_dst (N := 22) rfl ?_); (refine gate_guard (by rfl) ?_; dsimp only); refine load1_event rfl _ _ rfl g5 12 rfl _ _ _ _ Bg5_6.out rfl Try.underlying4 rfl ?_) | ((with_reducible refine gate_dst (N := 27) rfl ?_); (refine gate_guard (by rfl) ?_; dsimp only); refine load1_event rfl _ _ rfl g5 9 rfl _ _ _ _ Bg5_6.out rfl Try.underlying3 rfl ?_) | ((with_reducible refine gate_dst (N := 30) rfl ?_); refine load_event rfl 41 _ rfl g3 rfl _ _ _ Bg3_6.out Try.underlying41 rfl (by kernel_rfl) ?_) | ((with_reducible refine gate_store (t := 41) (p := 6) rfl ?_); refine store_event rfl 41 _ _ rfl g6 _ rfl rfl _ _ Bg6_6.out (by kernel_rfl) rfl rfl ?_; intro wx7 hst hu; have HB_7 := Aside0.mk (below_upd HB_6.out hu (below_size HB_6.out) (fun k hk => by cases hk; exact Lg6.out)); clear HB_6; have Bg3_7 := Aside0.mk (Upd.blk hu Bg3_6.out (One.not Ng3g6.out)); clear Bg3_6; have Bg5_7 := Aside0.mk (Upd.blk hu Bg5_6.out (One.not Ng5g6.out)); clear Bg5_6; have Bg8_7 := Aside0.mk (Upd.blk hu Bg8_6.out (One.not (Ne.symm Ng6g8.out))); clear Bg8_6; have Bg6_7 := Aside0.mk hst; clear hst hu Bg6_6))
  exact bodyPost_ret (results_ct rfl _ _ g6 41 #[.int .i64 st, .bool s1, .int .u32 e1, .int .u32 m1, .bool f1, .bool s2, .int .u32 e2, .int .u32 m2, .bool f2] (0, 0) _ rfl Bg6_7.out Try.underlying41 rfl (by kernel_rfl)) rfl ⟨rfl, HB_7.out⟩
set_option maxRecDepth 100000 in
set_option maxHeartbeats 4000000 in
theorem sy_t_same (st e1 m1 e2 m2 : Int) (s1 f1 f2 : Bool) (sp dp sq ak fl wi ty co he da en : Int) (sy ac : Bool) (w : World) (hd : (da != 0) = false) (hx : (en == e2) = true) : Calls Try.prog 42 #[.agg #[.int .i64 st, .bool s1, .int .u32 e1, .int .u32 m1, .bool f1, .bool true, .int .u32 e2, .int .u32 m2, .bool f2], .bool true, .agg #[.int .i64 sp, .int .i64 dp, .int .u32 sq, .int .u32 ak, .int .i64 fl, .int .i64 wi, .int .i64 ty, .int .i64 co, .int .i64 he, .int .i64 da, .bool sy, .bool false, .bool false, .bool ac, .int .u32 en]] w fun e w' => e = .returned (.tuple #[.agg #[.int .i64 st, .bool s1, .int .u32 e1, .int .u32 m1, .bool f1, .bool true, .int .u32 e2, .int .u32 m2, .bool f2], .bool (decide (st ≤ 2))]) ∧ Below w.heap.size w w' := by
  go_enter Try.func42, Try.ntmps42
  go_upto_region 6 with (first | ((with_reducible refine gate_dst (N := 3) rfl ?_); refine box_event ?hg (N := 3) ?hd (cs := #[.int .i64 st, .bool s1, .int .u32 e1, .int .u32 m1, .bool f1, .bool true, .int .u32 e2, .int .u32 m2, .bool f2]) (t := 41) ?hr ?_; (case hd => rfl); (case hg => rfl); (case hr => first | (go_simp; done) | (go_simp; rfl)); intro g3 hgg wx1 hbox hb; have Lg3 := Aside0.mk (show w.heap.size ≤ g3 by rw [hgg]; exact Nat.le_refl _); have HB_1 := Aside0.mk (hb); have Bg3_1 := Aside0.mk hbox; clear hbox hb hgg) | ((with_reducible refine gate_dst (N := 5) rfl ?_); refine box_event ?hg (N := 5) ?hd (cs := #[.int .i64 sp, .int .i64 dp, .int .u32 sq, .int .u32 ak, .int .i64 fl, .int .i64 wi, .int .i64 ty, .int .i64 co, .int .i64 he, .int .i64 da, .bool sy, .bool false, .bool false, .bool ac, .int .u32 en]) (t := 95) ?hr ?_; (case hd => rfl); (case hg => rfl); (case hr => first | (go_simp; done) | (go_simp; rfl)); intro g5 hgg wx2 hbox hb; have Ng3g5 := Aside0.mk (show g3 ≠ g5 by rw [hgg]; exact Nat.ne_of_lt (blk_lt Bg3_1.out)); have Lg5 := Aside0.mk (show w.heap.size ≤ g5 by rw [hgg]; exact below_size HB_1.out); have HB_2 := Aside0.mk (below_step HB_1.out hb); clear HB_1; have Bg3_2 := Aside0.mk (blk_below Bg3_1.out hb); clear Bg3_1; have Bg5_2 := Aside0.mk hbox; clear hbox hb hgg) | ((with_reducible refine gate_dst (N := 6) rfl ?_); refine box_event ?hg (N := 6) ?hd (cs := #[.int .i64 0, .bool false, .int .u32 0, .int .u32 0, .bool false, .bool false, .int .u32 0, .int .u32 0, .bool false]) (t := 41) ?hr ?_; (case hd => rfl); (case hg => rfl); (case hr => first | (go_simp; done) | (go_simp; rfl)); intro g6 hgg wx3 hbox hb; have Ng3g6 := Aside0.mk (show g3 ≠ g6 by rw [hgg]; exact Nat.ne_of_lt (blk_lt Bg3_2.out)); have Ng5g6 := Aside0.mk (show g5 ≠ g6 by rw [hgg]; exact Nat.ne_of_lt (blk_lt Bg5_2.out)); have Lg6 := Aside0.mk (show w.heap.size ≤ g6 by rw [hgg]; exact below_size HB_2.out); have HB_3 := Aside0.mk (below_step HB_2.out hb); clear HB_2; have Bg3_3 := Aside0.mk (blk_below Bg3_2.out hb); clear Bg3_2; have Bg5_3 := Aside0.mk (blk_below Bg5_2.out hb); clear Bg5_2; have Bg6_3 := Aside0.mk hbox; clear hbox hb hgg) | ((with_reducible refine gate_dst (N := 11) rfl ?_); refine load_event rfl 41 _ rfl g3 rfl _ _ _ Bg3_3.out Try.underlying41 rfl (by kernel_rfl) ?_) | ((with_reducible refine gate_dst (N := 8) rfl ?_); refine box_event ?hg (N := 8) ?hd (cs := #[.int .i64 0, .bool false, .int .u32 0, .int .u32 0, .bool false, .bool false, .int .u32 0, .int .u32 0, .bool false]) (t := 41) ?hr ?_; (case hd => rfl); (case hg => rfl); (case hr => first | (go_simp; done) | (go_simp; rfl)); intro g8 hgg wx4 hbox hb; have Ng3g8 := Aside0.mk (show g3 ≠ g8 by rw [hgg]; exact Nat.ne_of_lt (blk_lt Bg3_3.out)); have Ng5g8 := Aside0.mk (show g5 ≠ g8 by rw [hgg]; exact Nat.ne_of_lt (blk_lt Bg5_3.out)); have Ng6g8 := Aside0.mk (show g6 ≠ g8 by rw [hgg]; exact Nat.ne_of_lt (blk_lt Bg6_3.out)); have Lg8 := Aside0.mk (show w.heap.size ≤ g8 by rw [hgg]; exact below_size HB_3.out); have HB_4 := Aside0.mk (below_step HB_3.out hb); clear HB_3; have Bg3_4 := Aside0.mk (blk_below Bg3_3.out hb); clear Bg3_3; have Bg5_4 := Aside0.mk (blk_below Bg5_3.out hb); clear Bg5_3; have Bg6_4 := Aside0.mk (blk_below Bg6_3.out hb); clear Bg6_3; have Bg8_4 := Aside0.mk hbox; clear hbox hb hgg) | ((with_reducible refine gate_store (t := 41) (p := 8) rfl ?_); refine store_event rfl 41 _ _ rfl g8 _ rfl rfl _ _ Bg8_4.out (by kernel_rfl) rfl rfl ?_; intro wx5 hst hu; have HB_5 := Aside0.mk (below_upd HB_4.out hu (below_size HB_4.out) (fun k hk => by cases hk; exact Lg8.out)); clear HB_4; have Bg3_5 := Aside0.mk (Upd.blk hu Bg3_4.out (One.not Ng3g8.out)); clear Bg3_4; have Bg5_5 := Aside0.mk (Upd.blk hu Bg5_4.out (One.not Ng5g8.out)); clear Bg5_4; have Bg6_5 := Aside0.mk (Upd.blk hu Bg6_4.out (One.not Ng6g8.out)); clear Bg6_4; have Bg8_5 := Aside0.mk hst; clear hst hu Bg8_4) | (go_at_call 40; refine (sides_t g8 _).mono ?_; rintro e wx6 ⟨rfl, hb⟩; have HB_6 := Aside0.mk (below_step HB_5.out hb); clear HB_5; have Bg3_6 := Aside0.mk (blk_below Bg3_5.out hb); clear Bg3_5; have Bg5_6 := Aside0.mk (blk_below Bg5_5.out hb); clear Bg5_5; have Bg6_6 := Aside0.mk (blk_below Bg6_5.out hb); clear Bg6_5; have Bg8_6 := Aside0.mk (blk_below Bg8_5.out hb); clear Bg8_5; clear hb) | ((with_reducible refine gate_dst (N := 19) rfl ?_); refine load1_event rfl _ _ rfl g5 11 rfl _ _ _ _ Bg5_6.out rfl Try.underlying4 rfl ?_) | ((with_reducible refine gate_dst (N := 22) rfl ?_); (refine gate_guard (by rfl) ?_; dsimp only); refine load1_event rfl _ _ rfl g5 12 rfl _ _ _ _ Bg5_6.out rfl Try.underlying4 rfl ?_) | ((with_reducible refine gate_dst (N := 27) rfl ?_); (refine gate_guard (by rfl) ?_; dsimp only); refine load1_event rfl _ _ rfl g5 9 rfl _ _ _ _ Bg5_6.out rfl Try.underlying3 rfl ?_) | ((with_reducible refine gate_dst (N := 35) rfl ?_); refine load1_event rfl _ _ rfl g8 5 rfl _ _ _ _ Bg8_6.out rfl Try.underlying4 rfl ?_))
  refine wp_region_rg (by kernel_rfl) (StPut g6 (.cells #[.int .i64 st, .bool s1, .int .u32 e1, .int .u32 m1, .bool f1, .bool true, .int .u32 e2, .int .u32 m2, .bool f2] 41 (0, 0))) (fun (i : Nat) (v : Value) (w1 : World) => match i with | 0 => v = (.agg #[.int .i64 st, .bool s1, .int .u32 e1, .int .u32 m1, .bool f1, .bool true, .int .u32 e2, .int .u32 m2, .bool f2]) | 1 => v = (.pointer (some ⟨g5, 14, none⟩)) | 2 => v = (.int .u32 en) | 3 => v = (.pointer (some ⟨g8, 5, none⟩)) | 4 => v = (.pointer (some ⟨g8, 5, none⟩)) | 5 => v = (.pointer (some ⟨g8, 6, none⟩)) | 6 => v = (.int .u32 e2) | 7 => v = (.bool true) | 8 => v = (.bool true) | 9 => v = (.pointer (some ⟨g3, 0, none⟩)) | 10 => v = (.int .i64 st) | 11 => v = (.bool (decide (st ≤ 2))) | 12 => v = (.bool (decide (st ≤ 2))) | 13 => w1.heap[g6]? = some (.cells #[.int .i64 st, .bool s1, .int .u32 e1, .int .u32 m1, .bool f1, .bool true, .int .u32 e2, .int .u32 m2, .bool f2] 41 (0, 0)) | 14 => v = (.bool (decide (st ≤ 2))) | _ => True) (by kernel_rfl) (by kernel_rfl) (stput_tr _ _) (stput_drew _ _ _) ?hJst (obl_list ?hObl) ?hEnd
  case hJst =>
    intro i v wx wy hi hs0 hs1 hJi
    match i, hi with
    | 0, _ => exact hJi
    | 1, _ => exact hJi
    | 2, _ => exact hJi
    | 3, _ => exact hJi
    | 4, _ => exact hJi
    | 5, _ => exact hJi
    | 6, _ => exact hJi
    | 7, _ => exact hJi
    | 8, _ => exact hJi
    | 9, _ => exact hJi
    | 10, _ => exact hJi
    | 11, _ => exact hJi
    | 12, _ => exact hJi
    | 13, _ => replace hJi : (fun (v : Value) (w1 : World) => w1.heap[g6]? = some (.cells #[.int .i64 st, .bool s1, .int .u32 e1, .int .u32 m1, .bool f1, .bool true, .int .u32 e2, .int .u32 m2, .bool f2] 41 (0, 0))) v wx := hJi; exact (stput_keep hs1 hJi)
    | 14, _ => exact hJi
    | _ + 15, hi => exact absurd hi (by simp)
  case hObl =>
    refine ⟨?_, ?_, ?_, ?_, ?_, ?_, ?_, ?_, ?_, ?_, ?_, ?_, ?_, ?_, ?_,  trivial⟩
    · intro listed vals a wq K hD hst hj haft hun hK
      have h3 := hD.out 3 rfl rfl
      replace hst : StPut g6 (.cells #[.int .i64 st, .bool s1, .int .u32 e1, .int .u32 m1, .bool f1, .bool true, .int .u32 e2, .int .u32 m2, .bool f2] 41 (0, 0)) _ wq := hst
      clear hD hj haft hun
      have e3 := eval_of h3
      exact step_now (v := .agg #[.int .i64 st, .bool s1, .int .u32 e1, .int .u32 m1, .bool f1, .bool true, .int .u32 e2, .int .u32 m2, .bool f2]) (w' := wq) (wanted_free rfl) (rg_loadall rfl e3 (Upd.blk hst.1 Bg3_6.out (One.not Ng3g6.out)) Try.underlying41 rfl (by kernel_rfl)) (hK _ _ (stput_refl _ _ _) rfl)
    · intro listed vals a wq K hD hst hj haft hun hK
      have h5 := hD.out 5 rfl rfl
      replace hst : StPut g6 (.cells #[.int .i64 st, .bool s1, .int .u32 e1, .int .u32 m1, .bool f1, .bool true, .int .u32 e2, .int .u32 m2, .bool f2] 41 (0, 0)) _ wq := hst
      clear hD hj haft hun
      have e5 := eval_of h5
      refine step_now (v := .pointer (some ⟨g5, 14, none⟩)) (w' := wq) (wanted_free rfl) ?_ (hK _ _ (stput_refl _ _ _) rfl)
      clear hK
      first | (go_simp; done) | (go_simp; rfl) | (go_simp; (try simp only [IntKind.wrap_u32]); omega)
    · intro listed vals a wq K hD hst hj haft hun hK
      obtain ⟨v37, h37, j37⟩ := hD.dep hj haft 1 37 rfl rfl
      replace j37 : v37 = (.pointer (some ⟨g5, 14, none⟩)) := j37
      subst j37
      replace hst : StPut g6 (.cells #[.int .i64 st, .bool s1, .int .u32 e1, .int .u32 m1, .bool f1, .bool true, .int .u32 e2, .int .u32 m2, .bool f2] 41 (0, 0)) _ wq := hst
      clear hD hj haft hun
      have e37 := eval_of h37
      exact step_now (v := .int .u32 en) (w' := wq) (wanted_free rfl) (rg_load rfl e37 (Upd.blk hst.1 Bg5_6.out (One.not Ng5g6.out)) rfl Try.underlying33 rfl) (hK _ _ (stput_refl _ _ _) rfl)
    · intro listed vals a wq K hD hst hj haft hun hK
      have h9 := hD.out 9 rfl rfl
      replace hst : StPut g6 (.cells #[.int .i64 st, .bool s1, .int .u32 e1, .int .u32 m1, .bool f1, .bool true, .int .u32 e2, .int .u32 m2, .bool f2] 41 (0, 0)) _ wq := hst
      clear hD hj haft hun
      have e9 := eval_of h9
      refine step_now (v := .pointer (some ⟨g8, 5, none⟩)) (w' := wq) (wanted_free rfl) ?_ (hK _ _ (stput_refl _ _ _) rfl)
      clear hK
      first | (go_simp; done) | (go_simp; rfl) | (go_simp; (try simp only [IntKind.wrap_u32]); omega)
    · intro listed vals a wq K hD hst hj haft hun hK
      obtain ⟨v39, h39, j39⟩ := hD.dep hj haft 3 39 rfl rfl
      replace j39 : v39 = (.pointer (some ⟨g8, 5, none⟩)) := j39
      subst j39
      replace hst : StPut g6 (.cells #[.int .i64 st, .bool s1, .int .u32 e1, .int .u32 m1, .bool f1, .bool true, .int .u32 e2, .int .u32 m2, .bool f2] 41 (0, 0)) _ wq := hst
      clear hD hj haft hun
      have e39 := eval_of h39
      refine step_now (v := .pointer (some ⟨g8, 5, none⟩)) (w' := wq) (wanted_free rfl) ?_ (hK _ _ (stput_refl _ _ _) rfl)
      clear hK
      first | (go_simp; done) | (go_simp; rfl) | (go_simp; (try simp only [IntKind.wrap_u32]); omega)
    · intro listed vals a wq K hD hst hj haft hun hK
      obtain ⟨v40, h40, j40⟩ := hD.dep hj haft 4 40 rfl rfl
      replace j40 : v40 = (.pointer (some ⟨g8, 5, none⟩)) := j40
      subst j40
      replace hst : StPut g6 (.cells #[.int .i64 st, .bool s1, .int .u32 e1, .int .u32 m1, .bool f1, .bool true, .int .u32 e2, .int .u32 m2, .bool f2] 41 (0, 0)) _ wq := hst
      clear hD hj haft hun
      have e40 := eval_of h40
      refine step_now (v := .pointer (some ⟨g8, 6, none⟩)) (w' := wq) (wanted_free rfl) ?_ (hK _ _ (stput_refl _ _ _) rfl)
      clear hK
      first | (go_simp; done) | (go_simp; rfl) | (go_simp; (try simp only [IntKind.wrap_u32]); omega)
    · intro listed vals a wq K hD hst hj haft hun hK
      obtain ⟨v41, h41, j41⟩ := hD.dep hj haft 5 41 rfl rfl
      replace j41 : v41 = (.pointer (some ⟨g8, 6, none⟩)) := j41
      subst j41
      replace hst : StPut g6 (.cells #[.int .i64 st, .bool s1, .int .u32 e1, .int .u32 m1, .bool f1, .bool true, .int .u32 e2, .int .u32 m2, .bool f2] 41 (0, 0)) _ wq := hst
      clear hD hj haft hun
      have e41 := eval_of h41
      exact step_now (v := .int .u32 e2) (w' := wq) (wanted_free rfl) (rg_load rfl e41 (Upd.blk hst.1 Bg8_6.out (One.not (Ne.symm Ng6g8.out))) rfl Try.underlying33 rfl) (hK _ _ (stput_refl _ _ _) rfl)
    · intro listed vals a wq K hD hst hj haft hun hK
      obtain ⟨v38, h38, j38⟩ := hD.dep hj haft 2 38 rfl rfl
      replace j38 : v38 = (.int .u32 en) := j38
      subst j38
      obtain ⟨v42, h42, j42⟩ := hD.dep hj haft 6 42 rfl rfl
      replace j42 : v42 = (.int .u32 e2) := j42
      subst j42
      replace hst : StPut g6 (.cells #[.int .i64 st, .bool s1, .int .u32 e1, .int .u32 m1, .bool f1, .bool true, .int .u32 e2, .int .u32 m2, .bool f2] 41 (0, 0)) _ wq := hst
      clear hD hj haft hun
      have e38 := eval_of h38
      have e42 := eval_of h42
      refine step_now (v := .bool true) (w' := wq) (wanted_free rfl) ?_ (hK _ _ (stput_refl _ _ _) rfl)
      clear hK
      first | (go_simp; done) | (go_simp; rfl) | (go_simp; (try simp only [IntKind.wrap_u32]); omega)
    · intro listed vals a wq K hD hst hj haft hun hK
      obtain ⟨v43, h43, j43⟩ := hD.dep hj haft 7 43 rfl rfl
      replace j43 : v43 = (.bool true) := j43
      subst j43
      replace hst : StPut g6 (.cells #[.int .i64 st, .bool s1, .int .u32 e1, .int .u32 m1, .bool f1, .bool true, .int .u32 e2, .int .u32 m2, .bool f2] 41 (0, 0)) _ wq := hst
      clear hD hj haft hun
      have e43 := eval_of h43
      refine step_now (v := .bool true) (w' := wq) (wanted_free rfl) ?_ (hK _ _ (stput_refl _ _ _) rfl)
      clear hK
      first | (go_simp; done) | (go_simp; rfl) | (go_simp; (try simp only [IntKind.wrap_u32]); omega)
    · intro listed vals a wq K hD hst hj haft hun hK
      obtain ⟨v44, h44, j44⟩ := hD.dep hj haft 8 44 rfl rfl
      replace j44 : v44 = (.bool true) := j44
      subst j44
      have h3 := hD.out 3 rfl rfl
      replace hst : StPut g6 (.cells #[.int .i64 st, .bool s1, .int .u32 e1, .int .u32 m1, .bool f1, .bool true, .int .u32 e2, .int .u32 m2, .bool f2] 41 (0, 0)) _ wq := hst
      clear hD hj haft hun
      have e3 := eval_of h3
      refine step_now (v := .pointer (some ⟨g3, 0, none⟩)) (w' := wq) (wanted_on (t := 44) (u := true) rfl rfl rfl h44) ?_ (hK _ _ (stput_refl _ _ _) rfl)
      clear hK
      first | (go_simp; done) | (go_simp; rfl) | (go_simp; (try simp only [IntKind.wrap_u32]); omega)
    · intro listed vals a wq K hD hst hj haft hun hK
      obtain ⟨v45, h45, j45⟩ := hD.dep hj haft 9 45 rfl rfl
      replace j45 : v45 = (.pointer (some ⟨g3, 0, none⟩)) := j45
      subst j45
      obtain ⟨v44, h44, j44⟩ := hD.dep hj haft 8 44 rfl rfl
      replace j44 : v44 = (.bool true) := j44
      subst j44
      replace hst : StPut g6 (.cells #[.int .i64 st, .bool s1, .int .u32 e1, .int .u32 m1, .bool f1, .bool true, .int .u32 e2, .int .u32 m2, .bool f2] 41 (0, 0)) _ wq := hst
      clear hD hj haft hun
      have e45 := eval_of h45
      exact step_now (v := .int .i64 st) (w' := wq) (wanted_on (t := 44) (u := true) rfl rfl rfl h44) (rg_load rfl e45 (Upd.blk hst.1 Bg3_6.out (One.not Ng3g6.out)) rfl Try.underlying3 rfl) (hK _ _ (stput_refl _ _ _) rfl)
    · intro listed vals a wq K hD hst hj haft hun hK
      obtain ⟨v46, h46, j46⟩ := hD.dep hj haft 10 46 rfl rfl
      replace j46 : v46 = (.int .i64 st) := j46
      subst j46
      obtain ⟨v44, h44, j44⟩ := hD.dep hj haft 8 44 rfl rfl
      replace j44 : v44 = (.bool true) := j44
      subst j44
      replace hst : StPut g6 (.cells #[.int .i64 st, .bool s1, .int .u32 e1, .int .u32 m1, .bool f1, .bool true, .int .u32 e2, .int .u32 m2, .bool f2] 41 (0, 0)) _ wq := hst
      clear hD hj haft hun
      have e46 := eval_of h46
      refine step_now (v := .bool (decide (st ≤ 2))) (w' := wq) (wanted_on (t := 44) (u := true) rfl rfl rfl h44) ?_ (hK _ _ (stput_refl _ _ _) rfl)
      clear hK
      first | (go_simp; done) | (go_simp; rfl) | (go_simp; (try simp only [IntKind.wrap_u32]); omega)
    · intro listed vals a wq K hD hst hj haft hun hK
      obtain ⟨v44, h44, j44⟩ := hD.dep hj haft 8 44 rfl rfl
      replace j44 : v44 = (.bool true) := j44
      subst j44
      obtain ⟨v47, h47, j47⟩ := hD.dep hj haft 11 47 rfl rfl
      replace j47 : v47 = (.bool (decide (st ≤ 2))) := j47
      subst j47
      replace hst : StPut g6 (.cells #[.int .i64 st, .bool s1, .int .u32 e1, .int .u32 m1, .bool f1, .bool true, .int .u32 e2, .int .u32 m2, .bool f2] 41 (0, 0)) _ wq := hst
      clear hD hj haft hun
      have e44 := eval_of h44
      have e47 := eval_of h47
      refine step_now (v := .bool (decide (st ≤ 2))) (w' := wq) (wanted_free rfl) ?_ (hK _ _ (stput_refl _ _ _) rfl)
      clear hK
      first | (go_simp; done) | (go_simp; rfl) | (go_simp; (try simp only [IntKind.wrap_u32]); omega)
    · intro listed vals a wq K hD hst hj haft hun hK
      obtain ⟨v36, h36, j36⟩ := hD.dep hj haft 0 36 rfl rfl
      replace j36 : v36 = (.agg #[.int .i64 st, .bool s1, .int .u32 e1, .int .u32 m1, .bool f1, .bool true, .int .u32 e2, .int .u32 m2, .bool f2]) := j36
      subst j36
      have h6 := hD.out 6 rfl rfl
      replace hst : StPut g6 (.cells #[.int .i64 st, .bool s1, .int .u32 e1, .int .u32 m1, .bool f1, .bool true, .int .u32 e2, .int .u32 m2, .bool f2] 41 (0, 0)) _ wq := hst
      clear hD hj haft hun
      have e6 := eval_of h6
      have e36 := eval_of h36
      refine rg_step_store (cells := #[.int .i64 st, .bool s1, .int .u32 e1, .int .u32 m1, .bool f1, .bool true, .int .u32 e2, .int .u32 m2, .bool f2]) (wanted_free rfl) rfl e6 e36 Bg6_6.out hst (by kernel_rfl) rfl rfl (fun w2 hs2 hg2 => hK _ _ hs2 hg2)
    · intro listed vals a wq K hD hst hj haft hun hK
      obtain ⟨v48, h48, j48⟩ := hD.dep hj haft 12 48 rfl rfl
      replace j48 : v48 = (.bool (decide (st ≤ 2))) := j48
      subst j48
      replace hst : StPut g6 (.cells #[.int .i64 st, .bool s1, .int .u32 e1, .int .u32 m1, .bool f1, .bool true, .int .u32 e2, .int .u32 m2, .bool f2] 41 (0, 0)) _ wq := hst
      clear hD hj haft hun
      have e48 := eval_of h48
      refine step_now (v := .bool (decide (st ≤ 2))) (w' := wq) (wanted_free rfl) ?_ (hK _ _ (stput_refl _ _ _) rfl)
      clear hK
      first | (go_simp; done) | (go_simp; rfl) | (go_simp; (try simp only [IntKind.wrap_u32]); omega)
  case hEnd =>
    intro vals wend hst hj
    have j0 : vals 0 = (.agg #[.int .i64 st, .bool s1, .int .u32 e1, .int .u32 m1, .bool f1, .bool true, .int .u32 e2, .int .u32 m2, .bool f2]) := hj 0 (by decide)
    have j1 : vals 1 = (.pointer (some ⟨g5, 14, none⟩)) := hj 1 (by decide)
    have j2 : vals 2 = (.int .u32 en) := hj 2 (by decide)
    have j3 : vals 3 = (.pointer (some ⟨g8, 5, none⟩)) := hj 3 (by decide)
    have j4 : vals 4 = (.pointer (some ⟨g8, 5, none⟩)) := hj 4 (by decide)
    have j5 : vals 5 = (.pointer (some ⟨g8, 6, none⟩)) := hj 5 (by decide)
    have j6 : vals 6 = (.int .u32 e2) := hj 6 (by decide)
    have j7 : vals 7 = (.bool true) := hj 7 (by decide)
    have j8 : vals 8 = (.bool true) := hj 8 (by decide)
    have j9 : vals 9 = (.pointer (some ⟨g3, 0, none⟩)) := hj 9 (by decide)
    have j10 : vals 10 = (.int .i64 st) := hj 10 (by decide)
    have j11 : vals 11 = (.bool (decide (st ≤ 2))) := hj 11 (by decide)
    have j12 : vals 12 = (.bool (decide (st ≤ 2))) := hj 12 (by decide)
    have j13 : (fun (v : Value) (w1 : World) => w1.heap[g6]? = some (.cells #[.int .i64 st, .bool s1, .int .u32 e1, .int .u32 m1, .bool f1, .bool true, .int .u32 e2, .int .u32 m2, .bool f2] 41 (0, 0))) (vals 13) wend := hj 13 (by decide)
    have j14 : vals 14 = (.bool (decide (st ≤ 2))) := hj 14 (by decide)
    replace hst : StPut g6 (.cells #[.int .i64 st, .bool s1, .int .u32 e1, .int .u32 m1, .bool f1, .bool true, .int .u32 e2, .int .u32 m2, .bool f2] 41 (0, 0)) _ wend := hst
    clear hj
    rw [putAll_list]
    simp only [putL, Act.put, List.setIfInBounds_toArray, List.set_cons_zero, List.set_cons_succ, j0, j1, j2, j3, j4, j5, j6, j7, j8, j9, j10, j11, j12, j14]
    clear j0 j1 j2 j3 j4 j5 j6 j7 j8 j9 j10 j11 j12 j14
    have HB_7 := Aside0.mk (below_upd HB_6.out hst.1 (below_size HB_6.out) (fun k hk => by cases hk; exact Lg6.out))
    clear HB_6
    have Bg3_7 := Aside0.mk (Upd.blk hst.1 Bg3_6.out (One.not Ng3g6.out))
    clear Bg3_6
    have Bg5_7 := Aside0.mk (Upd.blk hst.1 Bg5_6.out (One.not Ng5g6.out))
    clear Bg5_6
    have Bg8_7 := Aside0.mk (Upd.blk hst.1 Bg8_6.out (One.not (Ne.symm Ng6g8.out)))
    clear Bg8_6
    have Bg6_7 := Aside0.mk (show wend.heap[g6]? = some (.cells #[.int .i64 st, .bool s1, .int .u32 e1, .int .u32 m1, .bool f1, .bool true, .int .u32 e2, .int .u32 m2, .bool f2] 41 (0, 0)) from j13)
    clear hst j13 Bg6_6
    go_wp2_with (fail)
    exact bodyPost_ret (results_ct rfl _ _ g6 41 #[.int .i64 st, .bool s1, .int .u32 e1, .int .u32 m1, .bool f1, .bool true, .int .u32 e2, .int .u32 m2, .bool f2] (0, 0) _ rfl Bg6_7.out Try.underlying41 rfl (by kernel_rfl)) rfl ⟨rfl, HB_7.out⟩
set_option maxRecDepth 100000 in
set_option maxHeartbeats 4000000 in
theorem sy_t_other (st e1 m1 e2 m2 : Int) (s1 f1 f2 : Bool) (sp dp sq ak fl wi ty co he da en : Int) (sy ac : Bool) (w : World) (hd : (da != 0) = false) (hx : (en == e2) = false) : Calls Try.prog 42 #[.agg #[.int .i64 st, .bool s1, .int .u32 e1, .int .u32 m1, .bool f1, .bool true, .int .u32 e2, .int .u32 m2, .bool f2], .bool true, .agg #[.int .i64 sp, .int .i64 dp, .int .u32 sq, .int .u32 ak, .int .i64 fl, .int .i64 wi, .int .i64 ty, .int .i64 co, .int .i64 he, .int .i64 da, .bool sy, .bool false, .bool false, .bool ac, .int .u32 en]] w fun e w' => e = .returned (.tuple #[.agg #[.int .i64 st, .bool s1, .int .u32 e1, .int .u32 m1, .bool f1, .bool true, .int .u32 e2, .int .u32 m2, .bool f2], .bool false]) ∧ Below w.heap.size w w' := by
  go_enter Try.func42, Try.ntmps42
  go_upto_region 6 with (first | ((with_reducible refine gate_dst (N := 3) rfl ?_); refine box_event ?hg (N := 3) ?hd (cs := #[.int .i64 st, .bool s1, .int .u32 e1, .int .u32 m1, .bool f1, .bool true, .int .u32 e2, .int .u32 m2, .bool f2]) (t := 41) ?hr ?_; (case hd => rfl); (case hg => rfl); (case hr => first | (go_simp; done) | (go_simp; rfl)); intro g3 hgg wx1 hbox hb; have Lg3 := Aside0.mk (show w.heap.size ≤ g3 by rw [hgg]; exact Nat.le_refl _); have HB_1 := Aside0.mk (hb); have Bg3_1 := Aside0.mk hbox; clear hbox hb hgg) | ((with_reducible refine gate_dst (N := 5) rfl ?_); refine box_event ?hg (N := 5) ?hd (cs := #[.int .i64 sp, .int .i64 dp, .int .u32 sq, .int .u32 ak, .int .i64 fl, .int .i64 wi, .int .i64 ty, .int .i64 co, .int .i64 he, .int .i64 da, .bool sy, .bool false, .bool false, .bool ac, .int .u32 en]) (t := 95) ?hr ?_; (case hd => rfl); (case hg => rfl); (case hr => first | (go_simp; done) | (go_simp; rfl)); intro g5 hgg wx2 hbox hb; have Ng3g5 := Aside0.mk (show g3 ≠ g5 by rw [hgg]; exact Nat.ne_of_lt (blk_lt Bg3_1.out)); have Lg5 := Aside0.mk (show w.heap.size ≤ g5 by rw [hgg]; exact below_size HB_1.out); have HB_2 := Aside0.mk (below_step HB_1.out hb); clear HB_1; have Bg3_2 := Aside0.mk (blk_below Bg3_1.out hb); clear Bg3_1; have Bg5_2 := Aside0.mk hbox; clear hbox hb hgg) | ((with_reducible refine gate_dst (N := 6) rfl ?_); refine box_event ?hg (N := 6) ?hd (cs := #[.int .i64 0, .bool false, .int .u32 0, .int .u32 0, .bool false, .bool false, .int .u32 0, .int .u32 0, .bool false]) (t := 41) ?hr ?_; (case hd => rfl); (case hg => rfl); (case hr => first | (go_simp; done) | (go_simp; rfl)); intro g6 hgg wx3 hbox hb; have Ng3g6 := Aside0.mk (show g3 ≠ g6 by rw [hgg]; exact Nat.ne_of_lt (blk_lt Bg3_2.out)); have Ng5g6 := Aside0.mk (show g5 ≠ g6 by rw [hgg]; exact Nat.ne_of_lt (blk_lt Bg5_2.out)); have Lg6 := Aside0.mk (show w.heap.size ≤ g6 by rw [hgg]; exact below_size HB_2.out); have HB_3 := Aside0.mk (below_step HB_2.out hb); clear HB_2; have Bg3_3 := Aside0.mk (blk_below Bg3_2.out hb); clear Bg3_2; have Bg5_3 := Aside0.mk (blk_below Bg5_2.out hb); clear Bg5_2; have Bg6_3 := Aside0.mk hbox; clear hbox hb hgg) | ((with_reducible refine gate_dst (N := 11) rfl ?_); refine load_event rfl 41 _ rfl g3 rfl _ _ _ Bg3_3.out Try.underlying41 rfl (by kernel_rfl) ?_) | ((with_reducible refine gate_dst (N := 8) rfl ?_); refine box_event ?hg (N := 8) ?hd (cs := #[.int .i64 0, .bool false, .int .u32 0, .int .u32 0, .bool false, .bool false, .int .u32 0, .int .u32 0, .bool false]) (t := 41) ?hr ?_; (case hd => rfl); (case hg => rfl); (case hr => first | (go_simp; done) | (go_simp; rfl)); intro g8 hgg wx4 hbox hb; have Ng3g8 := Aside0.mk (show g3 ≠ g8 by rw [hgg]; exact Nat.ne_of_lt (blk_lt Bg3_3.out)); have Ng5g8 := Aside0.mk (show g5 ≠ g8 by rw [hgg]; exact Nat.ne_of_lt (blk_lt Bg5_3.out)); have Ng6g8 := Aside0.mk (show g6 ≠ g8 by rw [hgg]; exact Nat.ne_of_lt (blk_lt Bg6_3.out)); have Lg8 := Aside0.mk (show w.heap.size ≤ g8 by rw [hgg]; exact below_size HB_3.out); have HB_4 := Aside0.mk (below_step HB_3.out hb); clear HB_3; have Bg3_4 := Aside0.mk (blk_below Bg3_3.out hb); clear Bg3_3; have Bg5_4 := Aside0.mk (blk_below Bg5_3.out hb); clear Bg5_3; have Bg6_4 := Aside0.mk (blk_below Bg6_3.out hb); clear Bg6_3; have Bg8_4 := Aside0.mk hbox; clear hbox hb hgg) | ((with_reducible refine gate_store (t := 41) (p := 8) rfl ?_); refine store_event rfl 41 _ _ rfl g8 _ rfl rfl _ _ Bg8_4.out (by kernel_rfl) rfl rfl ?_; intro wx5 hst hu; have HB_5 := Aside0.mk (below_upd HB_4.out hu (below_size HB_4.out) (fun k hk => by cases hk; exact Lg8.out)); clear HB_4; have Bg3_5 := Aside0.mk (Upd.blk hu Bg3_4.out (One.not Ng3g8.out)); clear Bg3_4; have Bg5_5 := Aside0.mk (Upd.blk hu Bg5_4.out (One.not Ng5g8.out)); clear Bg5_4; have Bg6_5 := Aside0.mk (Upd.blk hu Bg6_4.out (One.not Ng6g8.out)); clear Bg6_4; have Bg8_5 := Aside0.mk hst; clear hst hu Bg8_4) | (go_at_call 40; refine (sides_t g8 _).mono ?_; rintro e wx6 ⟨rfl, hb⟩; have HB_6 := Aside0.mk (below_step HB_5.out hb); clear HB_5; have Bg3_6 := Aside0.mk (blk_below Bg3_5.out hb); clear Bg3_5; have Bg5_6 := Aside0.mk (blk_below Bg5_5.out hb); clear Bg5_5; have Bg6_6 := Aside0.mk (blk_below Bg6_5.out hb); clear Bg6_5; have Bg8_6 := Aside0.mk (blk_below Bg8_5.out hb); clear Bg8_5; clear hb) | ((with_reducible refine gate_dst (N := 19) rfl ?_); refine load1_event rfl _ _ rfl g5 11 rfl _ _ _ _ Bg5_6.out rfl Try.underlying4 rfl ?_) | ((with_reducible refine gate_dst (N := 22) rfl ?_); (refine gate_guard (by rfl) ?_; dsimp only); refine load1_event rfl _ _ rfl g5 12 rfl _ _ _ _ Bg5_6.out rfl Try.underlying4 rfl ?_) | ((with_reducible refine gate_dst (N := 27) rfl ?_); (refine gate_guard (by rfl) ?_; dsimp only); refine load1_event rfl _ _ rfl g5 9 rfl _ _ _ _ Bg5_6.out rfl Try.underlying3 rfl ?_) | ((with_reducible refine gate_dst (N := 35) rfl ?_); refine load1_event rfl _ _ rfl g8 5 rfl _ _ _ _ Bg8_6.out rfl Try.underlying4 rfl ?_))
  refine wp_region_rg (by kernel_rfl) (StPut g6 (.cells #[.int .i64 st, .bool s1, .int .u32 e1, .int .u32 m1, .bool f1, .bool true, .int .u32 e2, .int .u32 m2, .bool f2] 41 (0, 0))) (fun (i : Nat) (v : Value) (w1 : World) => match i with | 0 => v = (.agg #[.int .i64 st, .bool s1, .int .u32 e1, .int .u32 m1, .bool f1, .bool true, .int .u32 e2, .int .u32 m2, .bool f2]) | 1 => v = (.pointer (some ⟨g5, 14, none⟩)) | 2 => v = (.int .u32 en) | 3 => v = (.pointer (some ⟨g8, 5, none⟩)) | 4 => v = (.pointer (some ⟨g8, 5, none⟩)) | 5 => v = (.pointer (some ⟨g8, 6, none⟩)) | 6 => v = (.int .u32 e2) | 7 => v = (.bool false) | 8 => v = (.bool false) | 9 => v = (undef) | 10 => v = (undef) | 11 => v = (undef) | 12 => v = (.bool false) | 13 => w1.heap[g6]? = some (.cells #[.int .i64 st, .bool s1, .int .u32 e1, .int .u32 m1, .bool f1, .bool true, .int .u32 e2, .int .u32 m2, .bool f2] 41 (0, 0)) | 14 => v = (.bool false) | _ => True) (by kernel_rfl) (by kernel_rfl) (stput_tr _ _) (stput_drew _ _ _) ?hJst (obl_list ?hObl) ?hEnd
  case hJst =>
    intro i v wx wy hi hs0 hs1 hJi
    match i, hi with
    | 0, _ => exact hJi
    | 1, _ => exact hJi
    | 2, _ => exact hJi
    | 3, _ => exact hJi
    | 4, _ => exact hJi
    | 5, _ => exact hJi
    | 6, _ => exact hJi
    | 7, _ => exact hJi
    | 8, _ => exact hJi
    | 9, _ => exact hJi
    | 10, _ => exact hJi
    | 11, _ => exact hJi
    | 12, _ => exact hJi
    | 13, _ => replace hJi : (fun (v : Value) (w1 : World) => w1.heap[g6]? = some (.cells #[.int .i64 st, .bool s1, .int .u32 e1, .int .u32 m1, .bool f1, .bool true, .int .u32 e2, .int .u32 m2, .bool f2] 41 (0, 0))) v wx := hJi; exact (stput_keep hs1 hJi)
    | 14, _ => exact hJi
    | _ + 15, hi => exact absurd hi (by simp)
  case hObl =>
    refine ⟨?_, ?_, ?_, ?_, ?_, ?_, ?_, ?_, ?_, ?_, ?_, ?_, ?_, ?_, ?_,  trivial⟩
    · intro listed vals a wq K hD hst hj haft hun hK
      have h3 := hD.out 3 rfl rfl
      replace hst : StPut g6 (.cells #[.int .i64 st, .bool s1, .int .u32 e1, .int .u32 m1, .bool f1, .bool true, .int .u32 e2, .int .u32 m2, .bool f2] 41 (0, 0)) _ wq := hst
      clear hD hj haft hun
      have e3 := eval_of h3
      exact step_now (v := .agg #[.int .i64 st, .bool s1, .int .u32 e1, .int .u32 m1, .bool f1, .bool true, .int .u32 e2, .int .u32 m2, .bool f2]) (w' := wq) (wanted_free rfl) (rg_loadall rfl e3 (Upd.blk hst.1 Bg3_6.out (One.not Ng3g6.out)) Try.underlying41 rfl (by kernel_rfl)) (hK _ _ (stput_refl _ _ _) rfl)
    · intro listed vals a wq K hD hst hj haft hun hK
      have h5 := hD.out 5 rfl rfl
      replace hst : StPut g6 (.cells #[.int .i64 st, .bool s1, .int .u32 e1, .int .u32 m1, .bool f1, .bool true, .int .u32 e2, .int .u32 m2, .bool f2] 41 (0, 0)) _ wq := hst
      clear hD hj haft hun
      have e5 := eval_of h5
      refine step_now (v := .pointer (some ⟨g5, 14, none⟩)) (w' := wq) (wanted_free rfl) ?_ (hK _ _ (stput_refl _ _ _) rfl)
      clear hK
      first | (go_simp; done) | (go_simp; rfl) | (go_simp; (try simp only [IntKind.wrap_u32]); omega)
    · intro listed vals a wq K hD hst hj haft hun hK
      obtain ⟨v37, h37, j37⟩ := hD.dep hj haft 1 37 rfl rfl
      replace j37 : v37 = (.pointer (some ⟨g5, 14, none⟩)) := j37
      subst j37
      replace hst : StPut g6 (.cells #[.int .i64 st, .bool s1, .int .u32 e1, .int .u32 m1, .bool f1, .bool true, .int .u32 e2, .int .u32 m2, .bool f2] 41 (0, 0)) _ wq := hst
      clear hD hj haft hun
      have e37 := eval_of h37
      exact step_now (v := .int .u32 en) (w' := wq) (wanted_free rfl) (rg_load rfl e37 (Upd.blk hst.1 Bg5_6.out (One.not Ng5g6.out)) rfl Try.underlying33 rfl) (hK _ _ (stput_refl _ _ _) rfl)
    · intro listed vals a wq K hD hst hj haft hun hK
      have h9 := hD.out 9 rfl rfl
      replace hst : StPut g6 (.cells #[.int .i64 st, .bool s1, .int .u32 e1, .int .u32 m1, .bool f1, .bool true, .int .u32 e2, .int .u32 m2, .bool f2] 41 (0, 0)) _ wq := hst
      clear hD hj haft hun
      have e9 := eval_of h9
      refine step_now (v := .pointer (some ⟨g8, 5, none⟩)) (w' := wq) (wanted_free rfl) ?_ (hK _ _ (stput_refl _ _ _) rfl)
      clear hK
      first | (go_simp; done) | (go_simp; rfl) | (go_simp; (try simp only [IntKind.wrap_u32]); omega)
    · intro listed vals a wq K hD hst hj haft hun hK
      obtain ⟨v39, h39, j39⟩ := hD.dep hj haft 3 39 rfl rfl
      replace j39 : v39 = (.pointer (some ⟨g8, 5, none⟩)) := j39
      subst j39
      replace hst : StPut g6 (.cells #[.int .i64 st, .bool s1, .int .u32 e1, .int .u32 m1, .bool f1, .bool true, .int .u32 e2, .int .u32 m2, .bool f2] 41 (0, 0)) _ wq := hst
      clear hD hj haft hun
      have e39 := eval_of h39
      refine step_now (v := .pointer (some ⟨g8, 5, none⟩)) (w' := wq) (wanted_free rfl) ?_ (hK _ _ (stput_refl _ _ _) rfl)
      clear hK
      first | (go_simp; done) | (go_simp; rfl) | (go_simp; (try simp only [IntKind.wrap_u32]); omega)
    · intro listed vals a wq K hD hst hj haft hun hK
      obtain ⟨v40, h40, j40⟩ := hD.dep hj haft 4 40 rfl rfl
      replace j40 : v40 = (.pointer (some ⟨g8, 5, none⟩)) := j40
      subst j40
      replace hst : StPut g6 (.cells #[.int .i64 st, .bool s1, .int .u32 e1, .int .u32 m1, .bool f1, .bool true, .int .u32 e2, .int .u32 m2, .bool f2] 41 (0, 0)) _ wq := hst
      clear hD hj haft hun
      have e40 := eval_of h40
      refine step_now (v := .pointer (some ⟨g8, 6, none⟩)) (w' := wq) (wanted_free rfl) ?_ (hK _ _ (stput_refl _ _ _) rfl)
      clear hK
      first | (go_simp; done) | (go_simp; rfl) | (go_simp; (try simp only [IntKind.wrap_u32]); omega)
    · intro listed vals a wq K hD hst hj haft hun hK
      obtain ⟨v41, h41, j41⟩ := hD.dep hj haft 5 41 rfl rfl
      replace j41 : v41 = (.pointer (some ⟨g8, 6, none⟩)) := j41
      subst j41
      replace hst : StPut g6 (.cells #[.int .i64 st, .bool s1, .int .u32 e1, .int .u32 m1, .bool f1, .bool true, .int .u32 e2, .int .u32 m2, .bool f2] 41 (0, 0)) _ wq := hst
      clear hD hj haft hun
      have e41 := eval_of h41
      exact step_now (v := .int .u32 e2) (w' := wq) (wanted_free rfl) (rg_load rfl e41 (Upd.blk hst.1 Bg8_6.out (One.not (Ne.symm Ng6g8.out))) rfl Try.underlying33 rfl) (hK _ _ (stput_refl _ _ _) rfl)
    · intro listed vals a wq K hD hst hj haft hun hK
      obtain ⟨v38, h38, j38⟩ := hD.dep hj haft 2 38 rfl rfl
      replace j38 : v38 = (.int .u32 en) := j38
      subst j38
      obtain ⟨v42, h42, j42⟩ := hD.dep hj haft 6 42 rfl rfl
      replace j42 : v42 = (.int .u32 e2) := j42
      subst j42
      replace hst : StPut g6 (.cells #[.int .i64 st, .bool s1, .int .u32 e1, .int .u32 m1, .bool f1, .bool true, .int .u32 e2, .int .u32 m2, .bool f2] 41 (0, 0)) _ wq := hst
      clear hD hj haft hun
      have e38 := eval_of h38
      have e42 := eval_of h42
      refine step_now (v := .bool false) (w' := wq) (wanted_free rfl) ?_ (hK _ _ (stput_refl _ _ _) rfl)
      clear hK
      first | (go_simp; done) | (go_simp; rfl) | (go_simp; (try simp only [IntKind.wrap_u32]); omega)
    · intro listed vals a wq K hD hst hj haft hun hK
      obtain ⟨v43, h43, j43⟩ := hD.dep hj haft 7 43 rfl rfl
      replace j43 : v43 = (.bool false) := j43
      subst j43
      replace hst : StPut g6 (.cells #[.int .i64 st, .bool s1, .int .u32 e1, .int .u32 m1, .bool f1, .bool true, .int .u32 e2, .int .u32 m2, .bool f2] 41 (0, 0)) _ wq := hst
      clear hD hj haft hun
      have e43 := eval_of h43
      refine step_now (v := .bool false) (w' := wq) (wanted_free rfl) ?_ (hK _ _ (stput_refl _ _ _) rfl)
      clear hK
      first | (go_simp; done) | (go_simp; rfl) | (go_simp; (try simp only [IntKind.wrap_u32]); omega)
    · intro listed vals a wq K hD hst hj haft hun hK
      obtain ⟨v44, h44, j44⟩ := hD.dep hj haft 8 44 rfl rfl
      replace j44 : v44 = (.bool false) := j44
      subst j44
      have h3 := hD.out 3 rfl rfl
      replace hst : StPut g6 (.cells #[.int .i64 st, .bool s1, .int .u32 e1, .int .u32 m1, .bool f1, .bool true, .int .u32 e2, .int .u32 m2, .bool f2] 41 (0, 0)) _ wq := hst
      clear hD hj haft hun
      have e3 := eval_of h3
      exact step_off (wanted_off (t := 44) (u := true) rfl rfl rfl h44) (hK _ _ (stput_refl _ _ _) rfl)
    · intro listed vals a wq K hD hst hj haft hun hK
      obtain ⟨v45, h45, j45⟩ := hD.dep hj haft 9 45 rfl rfl
      replace j45 : v45 = (undef) := j45
      subst j45
      obtain ⟨v44, h44, j44⟩ := hD.dep hj haft 8 44 rfl rfl
      replace j44 : v44 = (.bool false) := j44
      subst j44
      replace hst : StPut g6 (.cells #[.int .i64 st, .bool s1, .int .u32 e1, .int .u32 m1, .bool f1, .bool true, .int .u32 e2, .int .u32 m2, .bool f2] 41 (0, 0)) _ wq := hst
      clear hD hj haft hun
      have e45 := eval_of h45
      exact step_off (wanted_off (t := 44) (u := true) rfl rfl rfl h44) (hK _ _ (stput_refl _ _ _) rfl)
    · intro listed vals a wq K hD hst hj haft hun hK
      obtain ⟨v46, h46, j46⟩ := hD.dep hj haft 10 46 rfl rfl
      replace j46 : v46 = (undef) := j46
      subst j46
      obtain ⟨v44, h44, j44⟩ := hD.dep hj haft 8 44 rfl rfl
      replace j44 : v44 = (.bool false) := j44
      subst j44
      replace hst : StPut g6 (.cells #[.int .i64 st, .bool s1, .int .u32 e1, .int .u32 m1, .bool f1, .bool true, .int .u32 e2, .int .u32 m2, .bool f2] 41 (0, 0)) _ wq := hst
      clear hD hj haft hun
      have e46 := eval_of h46
      exact step_off (wanted_off (t := 44) (u := true) rfl rfl rfl h44) (hK _ _ (stput_refl _ _ _) rfl)
    · intro listed vals a wq K hD hst hj haft hun hK
      obtain ⟨v44, h44, j44⟩ := hD.dep hj haft 8 44 rfl rfl
      replace j44 : v44 = (.bool false) := j44
      subst j44
      obtain ⟨v47, h47, j47⟩ := hD.dep hj haft 11 47 rfl rfl
      replace j47 : v47 = (undef) := j47
      subst j47
      replace hst : StPut g6 (.cells #[.int .i64 st, .bool s1, .int .u32 e1, .int .u32 m1, .bool f1, .bool true, .int .u32 e2, .int .u32 m2, .bool f2] 41 (0, 0)) _ wq := hst
      clear hD hj haft hun
      have e44 := eval_of h44
      have e47 := eval_of h47
      refine step_now (v := .bool false) (w' := wq) (wanted_free rfl) ?_ (hK _ _ (stput_refl _ _ _) rfl)
      clear hK
      first | (go_simp; done) | (go_simp; rfl) | (go_simp; (try simp only [IntKind.wrap_u32]); omega)
    · intro listed vals a wq K hD hst hj haft hun hK
      obtain ⟨v36, h36, j36⟩ := hD.dep hj haft 0 36 rfl rfl
      replace j36 : v36 = (.agg #[.int .i64 st, .bool s1, .int .u32 e1, .int .u32 m1, .bool f1, .bool true, .int .u32 e2, .int .u32 m2, .bool f2]) := j36
      subst j36
      have h6 := hD.out 6 rfl rfl
      replace hst : StPut g6 (.cells #[.int .i64 st, .bool s1, .int .u32 e1, .int .u32 m1, .bool f1, .bool true, .int .u32 e2, .int .u32 m2, .bool f2] 41 (0, 0)) _ wq := hst
      clear hD hj haft hun
      have e6 := eval_of h6
      have e36 := eval_of h36
      refine rg_step_store (cells := #[.int .i64 st, .bool s1, .int .u32 e1, .int .u32 m1, .bool f1, .bool true, .int .u32 e2, .int .u32 m2, .bool f2]) (wanted_free rfl) rfl e6 e36 Bg6_6.out hst (by kernel_rfl) rfl rfl (fun w2 hs2 hg2 => hK _ _ hs2 hg2)
    · intro listed vals a wq K hD hst hj haft hun hK
      obtain ⟨v48, h48, j48⟩ := hD.dep hj haft 12 48 rfl rfl
      replace j48 : v48 = (.bool false) := j48
      subst j48
      replace hst : StPut g6 (.cells #[.int .i64 st, .bool s1, .int .u32 e1, .int .u32 m1, .bool f1, .bool true, .int .u32 e2, .int .u32 m2, .bool f2] 41 (0, 0)) _ wq := hst
      clear hD hj haft hun
      have e48 := eval_of h48
      refine step_now (v := .bool false) (w' := wq) (wanted_free rfl) ?_ (hK _ _ (stput_refl _ _ _) rfl)
      clear hK
      first | (go_simp; done) | (go_simp; rfl) | (go_simp; (try simp only [IntKind.wrap_u32]); omega)
  case hEnd =>
    intro vals wend hst hj
    have j0 : vals 0 = (.agg #[.int .i64 st, .bool s1, .int .u32 e1, .int .u32 m1, .bool f1, .bool true, .int .u32 e2, .int .u32 m2, .bool f2]) := hj 0 (by decide)
    have j1 : vals 1 = (.pointer (some ⟨g5, 14, none⟩)) := hj 1 (by decide)
    have j2 : vals 2 = (.int .u32 en) := hj 2 (by decide)
    have j3 : vals 3 = (.pointer (some ⟨g8, 5, none⟩)) := hj 3 (by decide)
    have j4 : vals 4 = (.pointer (some ⟨g8, 5, none⟩)) := hj 4 (by decide)
    have j5 : vals 5 = (.pointer (some ⟨g8, 6, none⟩)) := hj 5 (by decide)
    have j6 : vals 6 = (.int .u32 e2) := hj 6 (by decide)
    have j7 : vals 7 = (.bool false) := hj 7 (by decide)
    have j8 : vals 8 = (.bool false) := hj 8 (by decide)
    have j9 : vals 9 = (undef) := hj 9 (by decide)
    have j10 : vals 10 = (undef) := hj 10 (by decide)
    have j11 : vals 11 = (undef) := hj 11 (by decide)
    have j12 : vals 12 = (.bool false) := hj 12 (by decide)
    have j13 : (fun (v : Value) (w1 : World) => w1.heap[g6]? = some (.cells #[.int .i64 st, .bool s1, .int .u32 e1, .int .u32 m1, .bool f1, .bool true, .int .u32 e2, .int .u32 m2, .bool f2] 41 (0, 0))) (vals 13) wend := hj 13 (by decide)
    have j14 : vals 14 = (.bool false) := hj 14 (by decide)
    replace hst : StPut g6 (.cells #[.int .i64 st, .bool s1, .int .u32 e1, .int .u32 m1, .bool f1, .bool true, .int .u32 e2, .int .u32 m2, .bool f2] 41 (0, 0)) _ wend := hst
    clear hj
    rw [putAll_list]
    simp only [putL, Act.put, List.setIfInBounds_toArray, List.set_cons_zero, List.set_cons_succ, j0, j1, j2, j3, j4, j5, j6, j7, j8, j9, j10, j11, j12, j14]
    clear j0 j1 j2 j3 j4 j5 j6 j7 j8 j9 j10 j11 j12 j14
    have HB_7 := Aside0.mk (below_upd HB_6.out hst.1 (below_size HB_6.out) (fun k hk => by cases hk; exact Lg6.out))
    clear HB_6
    have Bg3_7 := Aside0.mk (Upd.blk hst.1 Bg3_6.out (One.not Ng3g6.out))
    clear Bg3_6
    have Bg5_7 := Aside0.mk (Upd.blk hst.1 Bg5_6.out (One.not Ng5g6.out))
    clear Bg5_6
    have Bg8_7 := Aside0.mk (Upd.blk hst.1 Bg8_6.out (One.not (Ne.symm Ng6g8.out)))
    clear Bg8_6
    have Bg6_7 := Aside0.mk (show wend.heap[g6]? = some (.cells #[.int .i64 st, .bool s1, .int .u32 e1, .int .u32 m1, .bool f1, .bool true, .int .u32 e2, .int .u32 m2, .bool f2] 41 (0, 0)) from j13)
    clear hst j13 Bg6_6
    go_wp2_with (fail)
    exact bodyPost_ret (results_ct rfl _ _ g6 41 #[.int .i64 st, .bool s1, .int .u32 e1, .int .u32 m1, .bool f1, .bool true, .int .u32 e2, .int .u32 m2, .bool f2] (0, 0) _ rfl Bg6_7.out Try.underlying41 rfl (by kernel_rfl)) rfl ⟨rfl, HB_7.out⟩
set_option maxRecDepth 100000 in
set_option maxHeartbeats 4000000 in
theorem sy_t_st (st e1 m1 e2 m2 : Int) (s1 f1 f2 : Bool) (sp dp sq ak fl wi ty co he da en : Int) (sy ac : Bool) (w : World) (hd : (da != 0) = false) (h1 : (st != 1) = true) : Calls Try.prog 42 #[.agg #[.int .i64 st, .bool s1, .int .u32 e1, .int .u32 m1, .bool f1, .bool false, .int .u32 e2, .int .u32 m2, .bool f2], .bool true, .agg #[.int .i64 sp, .int .i64 dp, .int .u32 sq, .int .u32 ak, .int .i64 fl, .int .i64 wi, .int .i64 ty, .int .i64 co, .int .i64 he, .int .i64 da, .bool sy, .bool false, .bool false, .bool ac, .int .u32 en]] w fun e w' => e = .returned (.tuple #[.agg #[.int .i64 st, .bool s1, .int .u32 e1, .int .u32 m1, .bool f1, .bool false, .int .u32 e2, .int .u32 m2, .bool f2], .bool false]) ∧ Below w.heap.size w w' := by
  go_enter Try.func42, Try.ntmps42
  go_upto_region 7 with (first | ((with_reducible refine gate_dst (N := 3) rfl ?_); refine box_event ?hg (N := 3) ?hd (cs := #[.int .i64 st, .bool s1, .int .u32 e1, .int .u32 m1, .bool f1, .bool false, .int .u32 e2, .int .u32 m2, .bool f2]) (t := 41) ?hr ?_; (case hd => rfl); (case hg => rfl); (case hr => first | (go_simp; done) | (go_simp; rfl)); intro g3 hgg wx1 hbox hb; have Lg3 := Aside0.mk (show w.heap.size ≤ g3 by rw [hgg]; exact Nat.le_refl _); have HB_1 := Aside0.mk (hb); have Bg3_1 := Aside0.mk hbox; clear hbox hb hgg) | ((with_reducible refine gate_dst (N := 5) rfl ?_); refine box_event ?hg (N := 5) ?hd (cs := #[.int .i64 sp, .int .i64 dp, .int .u32 sq, .int .u32 ak, .int .i64 fl, .int .i64 wi, .int .i64 ty, .int .i64 co, .int .i64 he, .int .i64 da, .bool sy, .bool false, .bool false, .bool ac, .int .u32 en]) (t := 95) ?hr ?_; (case hd => rfl); (case hg => rfl); (case hr => first | (go_simp; done) | (go_simp; rfl)); intro g5 hgg wx2 hbox hb; have Ng3g5 := Aside0.mk (show g3 ≠ g5 by rw [hgg]; exact Nat.ne_of_lt (blk_lt Bg3_1.out)); have Lg5 := Aside0.mk (show w.heap.size ≤ g5 by rw [hgg]; exact below_size HB_1.out); have HB_2 := Aside0.mk (below_step HB_1.out hb); clear HB_1; have Bg3_2 := Aside0.mk (blk_below Bg3_1.out hb); clear Bg3_1; have Bg5_2 := Aside0.mk hbox; clear hbox hb hgg) | ((with_reducible refine gate_dst (N := 6) rfl ?_); refine box_event ?hg (N := 6) ?hd (cs := #[.int .i64 0, .bool false, .int .u32 0, .int .u32 0, .bool false, .bool false, .int .u32 0, .int .u32 0, .bool false]) (t := 41) ?hr ?_; (case hd => rfl); (case hg => rfl); (case hr => first | (go_simp; done) | (go_simp; rfl)); intro g6 hgg wx3 hbox hb; have Ng3g6 := Aside0.mk (show g3 ≠ g6 by rw [hgg]; exact Nat.ne_of_lt (blk_lt Bg3_2.out)); have Ng5g6 := Aside0.mk (show g5 ≠ g6 by rw [hgg]; exact Nat.ne_of_lt (blk_lt Bg5_2.out)); have Lg6 := Aside0.mk (show w.heap.size ≤ g6 by rw [hgg]; exact below_size HB_2.out); have HB_3 := Aside0.mk (below_step HB_2.out hb); clear HB_2; have Bg3_3 := Aside0.mk (blk_below Bg3_2.out hb); clear Bg3_2; have Bg5_3 := Aside0.mk (blk_below Bg5_2.out hb); clear Bg5_2; have Bg6_3 := Aside0.mk hbox; clear hbox hb hgg) | ((with_reducible refine gate_dst (N := 11) rfl ?_); refine load_event rfl 41 _ rfl g3 rfl _ _ _ Bg3_3.out Try.underlying41 rfl (by kernel_rfl) ?_) | ((with_reducible refine gate_dst (N := 8) rfl ?_); refine box_event ?hg (N := 8) ?hd (cs := #[.int .i64 0, .bool false, .int .u32 0, .int .u32 0, .bool false, .bool false, .int .u32 0, .int .u32 0, .bool false]) (t := 41) ?hr ?_; (case hd => rfl); (case hg => rfl); (case hr => first | (go_simp; done) | (go_simp; rfl)); intro g8 hgg wx4 hbox hb; have Ng3g8 := Aside0.mk (show g3 ≠ g8 by rw [hgg]; exact Nat.ne_of_lt (blk_lt Bg3_3.out)); have Ng5g8 := Aside0.mk (show g5 ≠ g8 by rw [hgg]; exact Nat.ne_of_lt (blk_lt Bg5_3.out)); have Ng6g8 := Aside0.mk (show g6 ≠ g8 by rw [hgg]; exact Nat.ne_of_lt (blk_lt Bg6_3.out)); have Lg8 := Aside0.mk (show w.heap.size ≤ g8 by rw [hgg]; exact below_size HB_3.out); have HB_4 := Aside0.mk (below_step HB_3.out hb); clear HB_3; have Bg3_4 := Aside0.mk (blk_below Bg3_3.out hb); clear Bg3_3; have Bg5_4 := Aside0.mk (blk_below Bg5_3.out hb); clear Bg5_3; have Bg6_4 := Aside0.mk (blk_below Bg6_3.out hb); clear Bg6_3; have Bg8_4 := Aside0.mk hbox; clear hbox hb hgg) | ((with_reducible refine gate_store (t := 41) (p := 8) rfl ?_); refine store_event rfl 41 _ _ rfl g8 _ rfl rfl _ _ Bg8_4.out (by kernel_rfl) rfl rfl ?_; intro wx5 hst hu; have HB_5 := Aside0.mk (below_upd HB_4.out hu (below_size HB_4.out) (fun k hk => by cases hk; exact Lg8.out)); clear HB_4; have Bg3_5 := Aside0.mk (Upd.blk hu Bg3_4.out (One.not Ng3g8.out)); clear Bg3_4; have Bg5_5 := Aside0.mk (Upd.blk hu Bg5_4.out (One.not Ng5g8.out)); clear Bg5_4; have Bg6_5 := Aside0.mk (Upd.blk hu Bg6_4.out (One.not Ng6g8.out)); clear Bg6_4; have Bg8_5 := Aside0.mk hst; clear hst hu Bg8_4) | (go_at_call 40; refine (sides_t g8 _).mono ?_; rintro e wx6 ⟨rfl, hb⟩; have HB_6 := Aside0.mk (below_step HB_5.out hb); clear HB_5; have Bg3_6 := Aside0.mk (blk_below Bg3_5.out hb); clear Bg3_5; have Bg5_6 := Aside0.mk (blk_below Bg5_5.out hb); clear Bg5_5; have Bg6_6 := Aside0.mk (blk_below Bg6_5.out hb); clear Bg6_5; have Bg8_6 := Aside0.mk (blk_below Bg8_5.out hb); clear Bg8_5; clear hb) | ((with_reducible refine gate_dst (N := 19) rfl ?_); refine load1_event rfl _ _ rfl g5 11 rfl _ _ _ _ Bg5_6.out rfl Try.underlying4 rfl ?_) | ((with_reducible refine gate_dst (N := 22) rfl ?_); (refine gate_guard (by rfl) ?_; dsimp only); refine load1_event rfl _ _ rfl g5 12 rfl _ _ _ _ Bg5_6.out rfl Try.underlying4 rfl ?_) | ((with_reducible refine gate_dst (N := 27) rfl ?_); (refine gate_guard (by rfl) ?_; dsimp only); refine load1_event rfl _ _ rfl g5 9 rfl _ _ _ _ Bg5_6.out rfl Try.underlying3 rfl ?_) | ((with_reducible refine gate_dst (N := 35) rfl ?_); refine load1_event rfl _ _ rfl g8 5 rfl _ _ _ _ Bg8_6.out rfl Try.underlying4 rfl ?_))
  refine wp_region_rg (by kernel_rfl) (fun x y => Below x.heap.size x y) (fun (i : Nat) (v : Value) (w1 : World) => match i with | 0 => v = (.bool true) | 1 => v = (.bool false) | 2 => v = (.bool false) | 3 => v = (.pointer (some ⟨g3, 0, none⟩)) | 4 => v = (.int .i64 st) | 5 => v = (.bool true) | 6 => v = (.bool true) | 7 => v = (.bool true) | 8 => v = (undef) | 9 => v = (undef) | 10 => v = (undef) | 11 => v = (.bool true) | 12 => v = (.bool true) | 13 => v = (undef) | 14 => v = (undef) | 15 => v = (undef) | 16 => v = (undef) | 17 => v = (undef) | 18 => v = (undef) | 19 => v = (undef) | 20 => v = (undef) | 21 => v = (.bool true) | 22 => v = (.bool true) | _ => True) (by kernel_rfl) (by kernel_rfl) below_tr (Below.refl _ _).drew ?hJst (obl_list ?hObl) ?hEnd
  case hJst =>
    intro i v wx wy hi hs0 hs1 hJi
    match i, hi with
    | 0, _ => exact hJi
    | 1, _ => exact hJi
    | 2, _ => exact hJi
    | 3, _ => exact hJi
    | 4, _ => exact hJi
    | 5, _ => exact hJi
    | 6, _ => exact hJi
    | 7, _ => exact hJi
    | 8, _ => exact hJi
    | 9, _ => exact hJi
    | 10, _ => exact hJi
    | 11, _ => exact hJi
    | 12, _ => exact hJi
    | 13, _ => exact hJi
    | 14, _ => exact hJi
    | 15, _ => exact hJi
    | 16, _ => exact hJi
    | 17, _ => exact hJi
    | 18, _ => exact hJi
    | 19, _ => exact hJi
    | 20, _ => exact hJi
    | 21, _ => exact hJi
    | 22, _ => exact hJi
    | _ + 23, hi => exact absurd hi (by simp)
  case hObl =>
    refine ⟨?_, ?_, ?_, ?_, ?_, ?_, ?_, ?_, ?_, ?_, ?_, ?_, ?_, ?_, ?_, ?_, ?_, ?_, ?_, ?_, ?_, ?_, ?_,  trivial⟩
    · intro listed vals a wq K hD hst hj haft hun hK
      have h1 := hD.out 1 rfl rfl
      replace hst : Below _ _ wq := hst
      clear hD hj haft hun
      have e1 := eval_of h1
      refine step_now (v := .bool true) (w' := wq) (wanted_free rfl) ?_ (hK _ _ (Below.refl _ _) rfl)
      clear hK
      first | (go_simp; done) | (go_simp; rfl) | (go_simp; (try simp only [IntKind.wrap_u32]); omega)
    · intro listed vals a wq K hD hst hj haft hun hK
      obtain ⟨v50, h50, j50⟩ := hD.dep hj haft 0 50 rfl rfl
      replace j50 : v50 = (.bool true) := j50
      subst j50
      replace hst : Below _ _ wq := hst
      clear hD hj haft hun
      have e50 := eval_of h50
      refine step_now (v := .bool false) (w' := wq) (wanted_free rfl) ?_ (hK _ _ (Below.refl _ _) rfl)
      clear hK
      first | (go_simp; done) | (go_simp; rfl) | (go_simp; (try simp only [IntKind.wrap_u32]); omega)
    · intro listed vals a wq K hD hst hj haft hun hK
      obtain ⟨v51, h51, j51⟩ := hD.dep hj haft 1 51 rfl rfl
      replace j51 : v51 = (.bool false) := j51
      subst j51
      replace hst : Below _ _ wq := hst
      clear hD hj haft hun
      have e51 := eval_of h51
      refine step_now (v := .bool false) (w' := wq) (wanted_free rfl) ?_ (hK _ _ (Below.refl _ _) rfl)
      clear hK
      first | (go_simp; done) | (go_simp; rfl) | (go_simp; (try simp only [IntKind.wrap_u32]); omega)
    · intro listed vals a wq K hD hst hj haft hun hK
      obtain ⟨v52, h52, j52⟩ := hD.dep hj haft 2 52 rfl rfl
      replace j52 : v52 = (.bool false) := j52
      subst j52
      have h3 := hD.out 3 rfl rfl
      replace hst : Below _ _ wq := hst
      clear hD hj haft hun
      have e3 := eval_of h3
      refine step_now (v := .pointer (some ⟨g3, 0, none⟩)) (w' := wq) (wanted_on (t := 52) (u := false) rfl rfl rfl h52) ?_ (hK _ _ (Below.refl _ _) rfl)
      clear hK
      first | (go_simp; done) | (go_simp; rfl) | (go_simp; (try simp only [IntKind.wrap_u32]); omega)
    · intro listed vals a wq K hD hst hj haft hun hK
      obtain ⟨v53, h53, j53⟩ := hD.dep hj haft 3 53 rfl rfl
      replace j53 : v53 = (.pointer (some ⟨g3, 0, none⟩)) := j53
      subst j53
      obtain ⟨v52, h52, j52⟩ := hD.dep hj haft 2 52 rfl rfl
      replace j52 : v52 = (.bool false) := j52
      subst j52
      replace hst : Below _ _ wq := hst
      clear hD hj haft hun
      have e53 := eval_of h53
      exact step_now (v := .int .i64 st) (w' := wq) (wanted_on (t := 52) (u := false) rfl rfl rfl h52) (rg_load rfl e53 (blk_below Bg3_6.out hst) rfl Try.underlying3 rfl) (hK _ _ (Below.refl _ _) rfl)
    · intro listed vals a wq K hD hst hj haft hun hK
      obtain ⟨v54, h54, j54⟩ := hD.dep hj haft 4 54 rfl rfl
      replace j54 : v54 = (.int .i64 st) := j54
      subst j54
      obtain ⟨v52, h52, j52⟩ := hD.dep hj haft 2 52 rfl rfl
      replace j52 : v52 = (.bool false) := j52
      subst j52
      replace hst : Below _ _ wq := hst
      clear hD hj haft hun
      have e54 := eval_of h54
      refine step_now (v := .bool true) (w' := wq) (wanted_on (t := 52) (u := false) rfl rfl rfl h52) ?_ (hK _ _ (Below.refl _ _) rfl)
      clear hK
      first | (go_simp; done) | (go_simp; rfl) | (go_simp; (try simp only [IntKind.wrap_u32]); omega)
    · intro listed vals a wq K hD hst hj haft hun hK
      obtain ⟨v52, h52, j52⟩ := hD.dep hj haft 2 52 rfl rfl
      replace j52 : v52 = (.bool false) := j52
      subst j52
      obtain ⟨v55, h55, j55⟩ := hD.dep hj haft 5 55 rfl rfl
      replace j55 : v55 = (.bool true) := j55
      subst j55
      replace hst : Below _ _ wq := hst
      clear hD hj haft hun
      have e52 := eval_of h52
      have e55 := eval_of h55
      refine step_now (v := .bool true) (w' := wq) (wanted_free rfl) ?_ (hK _ _ (Below.refl _ _) rfl)
      clear hK
      first | (go_simp; done) | (go_simp; rfl) | (go_simp; (try simp only [IntKind.wrap_u32]); omega)
    · intro listed vals a wq K hD hst hj haft hun hK
      obtain ⟨v56, h56, j56⟩ := hD.dep hj haft 6 56 rfl rfl
      replace j56 : v56 = (.bool true) := j56
      subst j56
      replace hst : Below _ _ wq := hst
      clear hD hj haft hun
      have e56 := eval_of h56
      refine step_now (v := .bool true) (w' := wq) (wanted_free rfl) ?_ (hK _ _ (Below.refl _ _) rfl)
      clear hK
      first | (go_simp; done) | (go_simp; rfl) | (go_simp; (try simp only [IntKind.wrap_u32]); omega)
    · intro listed vals a wq K hD hst hj haft hun hK
      obtain ⟨v57, h57, j57⟩ := hD.dep hj haft 7 57 rfl rfl
      replace j57 : v57 = (.bool true) := j57
      subst j57
      have h5 := hD.out 5 rfl rfl
      replace hst : Below _ _ wq := hst
      clear hD hj haft hun
      have e5 := eval_of h5
      exact step_off (wanted_off (t := 57) (u := false) rfl rfl rfl h57) (hK _ _ (Below.refl _ _) rfl)
    · intro listed vals a wq K hD hst hj haft hun hK
      obtain ⟨v58, h58, j58⟩ := hD.dep hj haft 8 58 rfl rfl
      replace j58 : v58 = (undef) := j58
      subst j58
      obtain ⟨v57, h57, j57⟩ := hD.dep hj haft 7 57 rfl rfl
      replace j57 : v57 = (.bool true) := j57
      subst j57
      replace hst : Below _ _ wq := hst
      clear hD hj haft hun
      have e58 := eval_of h58
      exact step_off (wanted_off (t := 57) (u := false) rfl rfl rfl h57) (hK _ _ (Below.refl _ _) rfl)
    · intro listed vals a wq K hD hst hj haft hun hK
      obtain ⟨v59, h59, j59⟩ := hD.dep hj haft 9 59 rfl rfl
      replace j59 : v59 = (undef) := j59
      subst j59
      obtain ⟨v57, h57, j57⟩ := hD.dep hj haft 7 57 rfl rfl
      replace j57 : v57 = (.bool true) := j57
      subst j57
      replace hst : Below _ _ wq := hst
      clear hD hj haft hun
      have e59 := eval_of h59
      exact step_off (wanted_off (t := 57) (u := false) rfl rfl rfl h57) (hK _ _ (Below.refl _ _) rfl)
    · intro listed vals a wq K hD hst hj haft hun hK
      obtain ⟨v57, h57, j57⟩ := hD.dep hj haft 7 57 rfl rfl
      replace j57 : v57 = (.bool true) := j57
      subst j57
      obtain ⟨v60, h60, j60⟩ := hD.dep hj haft 10 60 rfl rfl
      replace j60 : v60 = (undef) := j60
      subst j60
      replace hst : Below _ _ wq := hst
      clear hD hj haft hun
      have e57 := eval_of h57
      have e60 := eval_of h60
      refine step_now (v := .bool true) (w' := wq) (wanted_free rfl) ?_ (hK _ _ (Below.refl _ _) rfl)
      clear hK
      first | (go_simp; done) | (go_simp; rfl) | (go_simp; (try simp only [IntKind.wrap_u32]); omega)
    · intro listed vals a wq K hD hst hj haft hun hK
      obtain ⟨v61, h61, j61⟩ := hD.dep hj haft 11 61 rfl rfl
      replace j61 : v61 = (.bool true) := j61
      subst j61
      replace hst : Below _ _ wq := hst
      clear hD hj haft hun
      have e61 := eval_of h61
      refine step_now (v := .bool true) (w' := wq) (wanted_free rfl) ?_ (hK _ _ (Below.refl _ _) rfl)
      clear hK
      first | (go_simp; done) | (go_simp; rfl) | (go_simp; (try simp only [IntKind.wrap_u32]); omega)
    · intro listed vals a wq K hD hst hj haft hun hK
      obtain ⟨v62, h62, j62⟩ := hD.dep hj haft 12 62 rfl rfl
      replace j62 : v62 = (.bool true) := j62
      subst j62
      have h5 := hD.out 5 rfl rfl
      replace hst : Below _ _ wq := hst
      clear hD hj haft hun
      have e5 := eval_of h5
      exact step_off (wanted_off (t := 62) (u := false) rfl rfl rfl h62) (hK _ _ (Below.refl _ _) rfl)
    · intro listed vals a wq K hD hst hj haft hun hK
      obtain ⟨v63, h63, j63⟩ := hD.dep hj haft 13 63 rfl rfl
      replace j63 : v63 = (undef) := j63
      subst j63
      obtain ⟨v62, h62, j62⟩ := hD.dep hj haft 12 62 rfl rfl
      replace j62 : v62 = (.bool true) := j62
      subst j62
      replace hst : Below _ _ wq := hst
      clear hD hj haft hun
      have e63 := eval_of h63
      exact step_off (wanted_off (t := 62) (u := false) rfl rfl rfl h62) (hK _ _ (Below.refl _ _) rfl)
    · intro listed vals a wq K hD hst hj haft hun hK
      obtain ⟨v64, h64, j64⟩ := hD.dep hj haft 14 64 rfl rfl
      replace j64 : v64 = (undef) := j64
      subst j64
      obtain ⟨v62, h62, j62⟩ := hD.dep hj haft 12 62 rfl rfl
      replace j62 : v62 = (.bool true) := j62
      subst j62
      replace hst : Below _ _ wq := hst
      clear hD hj haft hun
      have e64 := eval_of h64
      exact step_off (wanted_off (t := 62) (u := false) rfl rfl rfl h62) (hK _ _ (Below.refl _ _) rfl)
    · intro listed vals a wq K hD hst hj haft hun hK
      obtain ⟨v62, h62, j62⟩ := hD.dep hj haft 12 62 rfl rfl
      replace j62 : v62 = (.bool true) := j62
      subst j62
      have h10 := hD.out 10 rfl rfl
      replace hst : Below _ _ wq := hst
      clear hD hj haft hun
      have e10 := eval_of h10
      exact step_off (wanted_off (t := 62) (u := false) rfl rfl rfl h62) (hK _ _ (Below.refl _ _) rfl)
    · intro listed vals a wq K hD hst hj haft hun hK
      obtain ⟨v66, h66, j66⟩ := hD.dep hj haft 16 66 rfl rfl
      replace j66 : v66 = (undef) := j66
      subst j66
      obtain ⟨v62, h62, j62⟩ := hD.dep hj haft 12 62 rfl rfl
      replace j62 : v62 = (.bool true) := j62
      subst j62
      replace hst : Below _ _ wq := hst
      clear hD hj haft hun
      have e66 := eval_of h66
      exact step_off (wanted_off (t := 62) (u := false) rfl rfl rfl h62) (hK _ _ (Below.refl _ _) rfl)
    · intro listed vals a wq K hD hst hj haft hun hK
      obtain ⟨v67, h67, j67⟩ := hD.dep hj haft 17 67 rfl rfl
      replace j67 : v67 = (undef) := j67
      subst j67
      obtain ⟨v62, h62, j62⟩ := hD.dep hj haft 12 62 rfl rfl
      replace j62 : v62 = (.bool true) := j62
      subst j62
      replace hst : Below _ _ wq := hst
      clear hD hj haft hun
      have e67 := eval_of h67
      exact step_off (wanted_off (t := 62) (u := false) rfl rfl rfl h62) (hK _ _ (Below.refl _ _) rfl)
    · intro listed vals a wq K hD hst hj haft hun hK
      obtain ⟨v68, h68, j68⟩ := hD.dep hj haft 18 68 rfl rfl
      replace j68 : v68 = (undef) := j68
      subst j68
      obtain ⟨v62, h62, j62⟩ := hD.dep hj haft 12 62 rfl rfl
      replace j62 : v62 = (.bool true) := j62
      subst j62
      replace hst : Below _ _ wq := hst
      clear hD hj haft hun
      have e68 := eval_of h68
      exact step_off (wanted_off (t := 62) (u := false) rfl rfl rfl h62) (hK _ _ (Below.refl _ _) rfl)
    · intro listed vals a wq K hD hst hj haft hun hK
      obtain ⟨v65, h65, j65⟩ := hD.dep hj haft 15 65 rfl rfl
      replace j65 : v65 = (undef) := j65
      subst j65
      obtain ⟨v69, h69, j69⟩ := hD.dep hj haft 19 69 rfl rfl
      replace j69 : v69 = (undef) := j69
      subst j69
      obtain ⟨v62, h62, j62⟩ := hD.dep hj haft 12 62 rfl rfl
      replace j62 : v62 = (.bool true) := j62
      subst j62
      replace hst : Below _ _ wq := hst
      clear hD hj haft hun
      have e65 := eval_of h65
      have e69 := eval_of h69
      exact step_off (wanted_off (t := 62) (u := false) rfl rfl rfl h62) (hK _ _ (Below.refl _ _) rfl)
    · intro listed vals a wq K hD hst hj haft hun hK
      obtain ⟨v62, h62, j62⟩ := hD.dep hj haft 12 62 rfl rfl
      replace j62 : v62 = (.bool true) := j62
      subst j62
      obtain ⟨v70, h70, j70⟩ := hD.dep hj haft 20 70 rfl rfl
      replace j70 : v70 = (undef) := j70
      subst j70
      replace hst : Below _ _ wq := hst
      clear hD hj haft hun
      have e62 := eval_of h62
      have e70 := eval_of h70
      refine step_now (v := .bool true) (w' := wq) (wanted_free rfl) ?_ (hK _ _ (Below.refl _ _) rfl)
      clear hK
      first | (go_simp; done) | (go_simp; rfl) | (go_simp; (try simp only [IntKind.wrap_u32]); omega)
    · intro listed vals a wq K hD hst hj haft hun hK
      obtain ⟨v71, h71, j71⟩ := hD.dep hj haft 21 71 rfl rfl
      replace j71 : v71 = (.bool true) := j71
      subst j71
      replace hst : Below _ _ wq := hst
      clear hD hj haft hun
      have e71 := eval_of h71
      refine step_now (v := .bool true) (w' := wq) (wanted_free rfl) ?_ (hK _ _ (Below.refl _ _) rfl)
      clear hK
      first | (go_simp; done) | (go_simp; rfl) | (go_simp; (try simp only [IntKind.wrap_u32]); omega)
  case hEnd =>
    intro vals wend hst hj
    have j0 : vals 0 = (.bool true) := hj 0 (by decide)
    have j1 : vals 1 = (.bool false) := hj 1 (by decide)
    have j2 : vals 2 = (.bool false) := hj 2 (by decide)
    have j3 : vals 3 = (.pointer (some ⟨g3, 0, none⟩)) := hj 3 (by decide)
    have j4 : vals 4 = (.int .i64 st) := hj 4 (by decide)
    have j5 : vals 5 = (.bool true) := hj 5 (by decide)
    have j6 : vals 6 = (.bool true) := hj 6 (by decide)
    have j7 : vals 7 = (.bool true) := hj 7 (by decide)
    have j8 : vals 8 = (undef) := hj 8 (by decide)
    have j9 : vals 9 = (undef) := hj 9 (by decide)
    have j10 : vals 10 = (undef) := hj 10 (by decide)
    have j11 : vals 11 = (.bool true) := hj 11 (by decide)
    have j12 : vals 12 = (.bool true) := hj 12 (by decide)
    have j13 : vals 13 = (undef) := hj 13 (by decide)
    have j14 : vals 14 = (undef) := hj 14 (by decide)
    have j15 : vals 15 = (undef) := hj 15 (by decide)
    have j16 : vals 16 = (undef) := hj 16 (by decide)
    have j17 : vals 17 = (undef) := hj 17 (by decide)
    have j18 : vals 18 = (undef) := hj 18 (by decide)
    have j19 : vals 19 = (undef) := hj 19 (by decide)
    have j20 : vals 20 = (undef) := hj 20 (by decide)
    have j21 : vals 21 = (.bool true) := hj 21 (by decide)
    have j22 : vals 22 = (.bool true) := hj 22 (by decide)
    replace hst : Below _ _ wend := hst
    clear hj
    rw [putAll_list]
    simp only [putL, Act.put, List.setIfInBounds_toArray, List.set_cons_zero, List.set_cons_succ, j0, j1, j2, j3, j4, j5, j6, j7, j8, j9, j10, j11, j12, j13, j14, j15, j16, j17, j18, j19, j20, j21, j22]
    clear j0 j1 j2 j3 j4 j5 j6 j7 j8 j9 j10 j11 j12 j13 j14 j15 j16 j17 j18 j19 j20 j21 j22
    have HB_7 := Aside0.mk (below_step HB_6.out hst)
    clear HB_6
    have Bg3_7 := Aside0.mk (blk_below Bg3_6.out hst)
    clear Bg3_6
    have Bg5_7 := Aside0.mk (blk_below Bg5_6.out hst)
    clear Bg5_6
    have Bg6_7 := Aside0.mk (blk_below Bg6_6.out hst)
    clear Bg6_6
    have Bg8_7 := Aside0.mk (blk_below Bg8_6.out hst)
    clear Bg8_6
    clear hst
    go_wp2_with (first | ((with_reducible refine gate_dst (N := 72) rfl ?_); refine load_event rfl 41 _ rfl g3 rfl _ _ _ Bg3_7.out Try.underlying41 rfl (by kernel_rfl) ?_) | ((with_reducible refine gate_store (t := 41) (p := 6) rfl ?_); refine store_event rfl 41 _ _ rfl g6 _ rfl rfl _ _ Bg6_7.out (by kernel_rfl) rfl rfl ?_; intro wx8 hst hu; have HB_8 := Aside0.mk (below_upd HB_7.out hu (below_size HB_7.out) (fun k hk => by cases hk; exact Lg6.out)); clear HB_7; have Bg3_8 := Aside0.mk (Upd.blk hu Bg3_7.out (One.not Ng3g6.out)); clear Bg3_7; have Bg5_8 := Aside0.mk (Upd.blk hu Bg5_7.out (One.not Ng5g6.out)); clear Bg5_7; have Bg8_8 := Aside0.mk (Upd.blk hu Bg8_7.out (One.not (Ne.symm Ng6g8.out))); clear Bg8_7; have Bg6_8 := Aside0.mk hst; clear hst hu Bg6_7))
    exact bodyPost_ret (results_ct rfl _ _ g6 41 #[.int .i64 st, .bool s1, .int .u32 e1, .int .u32 m1, .bool f1, .bool false, .int .u32 e2, .int .u32 m2, .bool f2] (0, 0) _ rfl Bg6_8.out Try.underlying41 rfl (by kernel_rfl)) rfl ⟨rfl, HB_8.out⟩
set_option maxRecDepth 100000 in
set_option maxHeartbeats 4000000 in
theorem sy_t_noack (st e1 m1 e2 m2 : Int) (s1 f1 f2 : Bool) (sp dp sq ak fl wi ty co he da en : Int) (sy : Bool) (w : World) (hd : (da != 0) = false) (h1 : (st != 1) = false) : Calls Try.prog 42 #[.agg #[.int .i64 st, .bool s1, .int .u32 e1, .int .u32 m1, .bool f1, .bool false, .int .u32 e2, .int .u32 m2, .bool f2], .bool true, .agg #[.int .i64 sp, .int .i64 dp, .int .u32 sq, .int .u32 ak, .int .i64 fl, .int .i64 wi, .int .i64 ty, .int .i64 co, .int .i64 he, .int .i64 da, .bool sy, .bool false, .bool false, .bool false, .int .u32 en]] w fun e w' => e = .returned (.tuple #[.agg #[.int .i64 st, .bool s1, .int .u32 e1, .int .u32 m1, .bool f1, .bool false, .int .u32 e2, .int .u32 m2, .bool f2], .bool false]) ∧ Below w.heap.size w w' := by
  go_enter Try.func42, Try.ntmps42
  go_upto_region 7 with (first | ((with_reducible refine gate_dst (N := 3) rfl ?_); refine box_event ?hg (N := 3) ?hd (cs := #[.int .i64 st, .bool s1, .int .u32 e1, .int .u32 m1, .bool f1, .bool false, .int .u32 e2, .int .u32 m2, .bool f2]) (t := 41) ?hr ?_; (case hd => rfl); (case hg => rfl); (case hr => first | (go_simp; done) | (go_simp; rfl)); intro g3 hgg wx1 hbox hb; have Lg3 := Aside0.mk (show w.heap.size ≤ g3 by rw [hgg]; exact Nat.le_refl _); have HB_1 := Aside0.mk (hb); have Bg3_1 := Aside0.mk hbox; clear hbox hb hgg) | ((with_reducible refine gate_dst (N := 5) rfl ?_); refine box_event ?hg (N := 5) ?hd (cs := #[.int .i64 sp, .int .i64 dp, .int .u32 sq, .int .u32 ak, .int .i64 fl, .int .i64 wi, .int .i64 ty, .int .i64 co, .int .i64 he, .int .i64 da, .bool sy, .bool false, .bool false, .bool false, .int .u32 en]) (t := 95) ?hr ?_; (case hd => rfl); (case hg => rfl); (case hr => first | (go_simp; done) | (go_simp; rfl)); intro g5 hgg wx2 hbox hb; have Ng3g5 := Aside0.mk (show g3 ≠ g5 by rw [hgg]; exact Nat.ne_of_lt (blk_lt Bg3_1.out)); have Lg5 := Aside0.mk (show w.heap.size ≤ g5 by rw [hgg]; exact below_size HB_1.out); have HB_2 := Aside0.mk (below_step HB_1.out hb); clear HB_1; have Bg3_2 := Aside0.mk (blk_below Bg3_1.out hb); clear Bg3_1; have Bg5_2 := Aside0.mk hbox; clear hbox hb hgg) | ((with_reducible refine gate_dst (N := 6) rfl ?_); refine box_event ?hg (N := 6) ?hd (cs := #[.int .i64 0, .bool false, .int .u32 0, .int .u32 0, .bool false, .bool false, .int .u32 0, .int .u32 0, .bool false]) (t := 41) ?hr ?_; (case hd => rfl); (case hg => rfl); (case hr => first | (go_simp; done) | (go_simp; rfl)); intro g6 hgg wx3 hbox hb; have Ng3g6 := Aside0.mk (show g3 ≠ g6 by rw [hgg]; exact Nat.ne_of_lt (blk_lt Bg3_2.out)); have Ng5g6 := Aside0.mk (show g5 ≠ g6 by rw [hgg]; exact Nat.ne_of_lt (blk_lt Bg5_2.out)); have Lg6 := Aside0.mk (show w.heap.size ≤ g6 by rw [hgg]; exact below_size HB_2.out); have HB_3 := Aside0.mk (below_step HB_2.out hb); clear HB_2; have Bg3_3 := Aside0.mk (blk_below Bg3_2.out hb); clear Bg3_2; have Bg5_3 := Aside0.mk (blk_below Bg5_2.out hb); clear Bg5_2; have Bg6_3 := Aside0.mk hbox; clear hbox hb hgg) | ((with_reducible refine gate_dst (N := 11) rfl ?_); refine load_event rfl 41 _ rfl g3 rfl _ _ _ Bg3_3.out Try.underlying41 rfl (by kernel_rfl) ?_) | ((with_reducible refine gate_dst (N := 8) rfl ?_); refine box_event ?hg (N := 8) ?hd (cs := #[.int .i64 0, .bool false, .int .u32 0, .int .u32 0, .bool false, .bool false, .int .u32 0, .int .u32 0, .bool false]) (t := 41) ?hr ?_; (case hd => rfl); (case hg => rfl); (case hr => first | (go_simp; done) | (go_simp; rfl)); intro g8 hgg wx4 hbox hb; have Ng3g8 := Aside0.mk (show g3 ≠ g8 by rw [hgg]; exact Nat.ne_of_lt (blk_lt Bg3_3.out)); have Ng5g8 := Aside0.mk (show g5 ≠ g8 by rw [hgg]; exact Nat.ne_of_lt (blk_lt Bg5_3.out)); have Ng6g8 := Aside0.mk (show g6 ≠ g8 by rw [hgg]; exact Nat.ne_of_lt (blk_lt Bg6_3.out)); have Lg8 := Aside0.mk (show w.heap.size ≤ g8 by rw [hgg]; exact below_size HB_3.out); have HB_4 := Aside0.mk (below_step HB_3.out hb); clear HB_3; have Bg3_4 := Aside0.mk (blk_below Bg3_3.out hb); clear Bg3_3; have Bg5_4 := Aside0.mk (blk_below Bg5_3.out hb); clear Bg5_3; have Bg6_4 := Aside0.mk (blk_below Bg6_3.out hb); clear Bg6_3; have Bg8_4 := Aside0.mk hbox; clear hbox hb hgg) | ((with_reducible refine gate_store (t := 41) (p := 8) rfl ?_); refine store_event rfl 41 _ _ rfl g8 _ rfl rfl _ _ Bg8_4.out (by kernel_rfl) rfl rfl ?_; intro wx5 hst hu; have HB_5 := Aside0.mk (below_upd HB_4.out hu (below_size HB_4.out) (fun k hk => by cases hk; exact Lg8.out)); clear HB_4; have Bg3_5 := Aside0.mk (Upd.blk hu Bg3_4.out (One.not Ng3g8.out)); clear Bg3_4; have Bg5_5 := Aside0.mk (Upd.blk hu Bg5_4.out (One.not Ng5g8.out)); clear Bg5_4; have Bg6_5 := Aside0.mk (Upd.blk hu Bg6_4.out (One.not Ng6g8.out)); clear Bg6_4; have Bg8_5 := Aside0.mk hst; clear hst hu Bg8_4) | (go_at_call 40; refine (sides_t g8 _).mono ?_; rintro e wx6 ⟨rfl, hb⟩; have HB_6 := Aside0.mk (below_step HB_5.out hb); clear HB_5; have Bg3_6 := Aside0.mk (blk_below Bg3_5.out hb); clear Bg3_5; have Bg5_6 := Aside0.mk (blk_below Bg5_5.out hb); clear Bg5_5; have Bg6_6 := Aside0.mk (blk_below Bg6_5.out hb); clear Bg6_5; have Bg8_6 := Aside0.mk (blk_below Bg8_5.out hb); clear Bg8_5; clear hb) | ((with_reducible refine gate_dst (N := 19) rfl ?_); refine load1_event rfl _ _ rfl g5 11 rfl _ _ _ _ Bg5_6.out rfl Try.underlying4 rfl ?_) | ((with_reducible refine gate_dst (N := 22) rfl ?_); (refine gate_guard (by rfl) ?_; dsimp only); refine load1_event rfl _ _ rfl g5 12 rfl _ _ _ _ Bg5_6.out rfl Try.underlying4 rfl ?_) | ((with_reducible refine gate_dst (N := 27) rfl ?_); (refine gate_guard (by rfl) ?_; dsimp only); refine load1_event rfl _ _ rfl g5 9 rfl _ _ _ _ Bg5_6.out rfl Try.underlying3 rfl ?_) | ((with_reducible refine gate_dst (N := 35) rfl ?_); refine load1_event rfl _ _ rfl g8 5 rfl _ _ _ _ Bg8_6.out rfl Try.underlying4 rfl ?_))
  refine wp_region_rg (by kernel_rfl) (fun x y => Below x.heap.size x y) (fun (i : Nat) (v : Value) (w1 : World) => match i with | 0 => v = (.bool true) | 1 => v = (.bool false) | 2 => v = (.bool false) | 3 => v = (.pointer (some ⟨g3, 0, none⟩)) | 4 => v = (.int .i64 st) | 5 => v = (.bool false) | 6 => v = (.bool false) | 7 => v = (.bool false) | 8 => v = (.pointer (some ⟨g5, 13, none⟩)) | 9 => v = (.bool false) | 10 => v = (.bool true) | 11 => v = (.bool true) | 12 => v = (.bool true) | 13 => v = (undef) | 14 => v = (undef) | 15 => v = (undef) | 16 => v = (undef) | 17 => v = (undef) | 18 => v = (undef) | 19 => v = (undef) | 20 => v = (undef) | 21 => v = (.bool true) | 22 => v = (.bool true) | _ => True) (by kernel_rfl) (by kernel_rfl) below_tr (Below.refl _ _).drew ?hJst (obl_list ?hObl) ?hEnd
  case hJst =>
    intro i v wx wy hi hs0 hs1 hJi
    match i, hi with
    | 0, _ => exact hJi
    | 1, _ => exact hJi
    | 2, _ => exact hJi
    | 3, _ => exact hJi
    | 4, _ => exact hJi
    | 5, _ => exact hJi
    | 6, _ => exact hJi
    | 7, _ => exact hJi
    | 8, _ => exact hJi
    | 9, _ => exact hJi
    | 10, _ => exact hJi
    | 11, _ => exact hJi
    | 12, _ => exact hJi
    | 13, _ => exact hJi
    | 14, _ => exact hJi
    | 15, _ => exact hJi
    | 16, _ => exact hJi
    | 17, _ => exact hJi
    | 18, _ => exact hJi
    | 19, _ => exact hJi
    | 20, _ => exact hJi
    | 21, _ => exact hJi
    | 22, _ => exact hJi
    | _ + 23, hi => exact absurd hi (by simp)
  case hObl =>
    refine ⟨?_, ?_, ?_, ?_, ?_, ?_, ?_, ?_, ?_, ?_, ?_, ?_, ?_, ?_, ?_, ?_, ?_, ?_, ?_, ?_, ?_, ?_, ?_,  trivial⟩
    · intro listed vals a wq K hD hst hj haft hun hK
      have h1 := hD.out 1 rfl rfl
      replace hst : Below _ _ wq := hst
      clear hD hj haft hun
      have e1 := eval_of h1
      refine step_now (v := .bool true) (w' := wq) (wanted_free rfl) ?_ (hK _ _ (Below.refl _ _) rfl)
      clear hK
      first | (go_simp; done) | (go_simp; rfl) | (go_simp; (try simp only [IntKind.wrap_u32]); omega)
    · intro listed vals a wq K hD hst hj haft hun hK
      obtain ⟨v50, h50, j50⟩ := hD.dep hj haft 0 50 rfl rfl
      replace j50 : v50 = (.bool true) := j50
      subst j50
      replace hst : Below _ _ wq := hst
      clear hD hj haft hun
      have e50 := eval_of h50
      refine step_now (v := .bool false) (w' := wq) (wanted_free rfl) ?_ (hK _ _ (Below.refl _ _) rfl)
      clear hK
      first | (go_simp; done) | (go_simp; rfl) | (go_simp; (try simp only [IntKind.wrap_u32]); omega)
    · intro listed vals a wq K hD hst hj haft hun hK
      obtain ⟨v51, h51, j51⟩ := hD.dep hj haft 1 51 rfl rfl
      replace j51 : v51 = (.bool false) := j51
      subst j51
      replace hst : Below _ _ wq := hst
      clear hD hj haft hun
      have e51 := eval_of h51
      refine step_now (v := .bool false) (w' := wq) (wanted_free rfl) ?_ (hK _ _ (Below.refl _ _) rfl)
      clear hK
      first | (go_simp; done) | (go_simp; rfl) | (go_simp; (try simp only [IntKind.wrap_u32]); omega)
    · intro listed vals a wq K hD hst hj haft hun hK
      obtain ⟨v52, h52, j52⟩ := hD.dep hj haft 2 52 rfl rfl
      replace j52 : v52 = (.bool false) := j52
      subst j52
      have h3 := hD.out 3 rfl rfl
      replace hst : Below _ _ wq := hst
      clear hD hj haft hun
      have e3 := eval_of h3
      refine step_now (v := .pointer (some ⟨g3, 0, none⟩)) (w' := wq) (wanted_on (t := 52) (u := false) rfl rfl rfl h52) ?_ (hK _ _ (Below.refl _ _) rfl)
      clear hK
      first | (go_simp; done) | (go_simp; rfl) | (go_simp; (try simp only [IntKind.wrap_u32]); omega)
    · intro listed vals a wq K hD hst hj haft hun hK
      obtain ⟨v53, h53, j53⟩ := hD.dep hj haft 3 53 rfl rfl
      replace j53 : v53 = (.pointer (some ⟨g3, 0, none⟩)) := j53
      subst j53
      obtain ⟨v52, h52, j52⟩ := hD.dep hj haft 2 52 rfl rfl
      replace j52 : v52 = (.bool false) := j52
      subst j52
      replace hst : Below _ _ wq := hst
      clear hD hj haft hun
      have e53 := eval_of h53
      exact step_now (v := .int .i64 st) (w' := wq) (wanted_on (t := 52) (u := false) rfl rfl rfl h52) (rg_load rfl e53 (blk_below Bg3_6.out hst) rfl Try.underlying3 rfl) (hK _ _ (Below.refl _ _) rfl)
    · intro listed vals a wq K hD hst hj haft hun hK
      obtain ⟨v54, h54, j54⟩ := hD.dep hj haft 4 54 rfl rfl
      replace j54 : v54 = (.int .i64 st) := j54
      subst j54
      obtain ⟨v52, h52, j52⟩ := hD.dep hj haft 2 52 rfl rfl
      replace j52 : v52 = (.bool false) := j52
      subst j52
      replace hst : Below _ _ wq := hst
      clear hD hj haft hun
      have e54 := eval_of h54
      refine step_now (v := .bool false) (w' := wq) (wanted_on (t := 52) (u := false) rfl rfl rfl h52) ?_ (hK _ _ (Below.refl _ _) rfl)
      clear hK
      first | (go_simp; done) | (go_simp; rfl) | (go_simp; (try simp only [IntKind.wrap_u32]); omega)
    · intro listed vals a wq K hD hst hj haft hun hK
      obtain ⟨v52, h52, j52⟩ := hD.dep hj haft 2 52 rfl rfl
      replace j52 : v52 = (.bool false) := j52
      subst j52
      obtain ⟨v55, h55, j55⟩ := hD.dep hj haft 5 55 rfl rfl
      replace j55 : v55 = (.bool false) := j55
      subst j55
      replace hst : Below _ _ wq := hst
      clear hD hj haft hun
      have e52 := eval_of h52
      have e55 := eval_of h55
      refine step_now (v := .bool false) (w' := wq) (wanted_free rfl) ?_ (hK _ _ (Below.refl _ _) rfl)
      clear hK
      first | (go_simp; done) | (go_simp; rfl) | (go_simp; (try simp only [IntKind.wrap_u32]); omega)
    · intro listed vals a wq K hD hst hj haft hun hK
      obtain ⟨v56, h56, j56⟩ := hD.dep hj haft 6 56 rfl rfl
      replace j56 : v56 = (.bool false) := j56
      subst j56
      replace hst : Below _ _ wq := hst
      clear hD hj haft hun
      have e56 := eval_of h56
      refine step_now (v := .bool false) (w' := wq) (wanted_free rfl) ?_ (hK _ _ (Below.refl _ _) rfl)
      clear hK
      first | (go_simp; done) | (go_simp; rfl) | (go_simp; (try simp only [IntKind.wrap_u32]); omega)
    · intro listed vals a wq K hD hst hj haft hun hK
      obtain ⟨v57, h57, j57⟩ := hD.dep hj haft 7 57 rfl rfl
      replace j57 : v57 = (.bool false) := j57
      subst j57
      have h5 := hD.out 5 rfl rfl
      replace hst : Below _ _ wq := hst
      clear hD hj haft hun
      have e5 := eval_of h5
      refine step_now (v := .pointer (some ⟨g5, 13, none⟩)) (w' := wq) (wanted_on (t := 57) (u := false) rfl rfl rfl h57) ?_ (hK _ _ (Below.refl _ _) rfl)
      clear hK
      first | (go_simp; done) | (go_simp; rfl) | (go_simp; (try simp only [IntKind.wrap_u32]); omega)
    · intro listed vals a wq K hD hst hj haft hun hK
      obtain ⟨v58, h58, j58⟩ := hD.dep hj haft 8 58 rfl rfl
      replace j58 : v58 = (.pointer (some ⟨g5, 13, none⟩)) := j58
      subst j58
      obtain ⟨v57, h57, j57⟩ := hD.dep hj haft 7 57 rfl rfl
      replace j57 : v57 = (.bool false) := j57
      subst j57
      replace hst : Below _ _ wq := hst
      clear hD hj haft hun
      have e58 := eval_of h58
      exact step_now (v := .bool false) (w' := wq) (wanted_on (t := 57) (u := false) rfl rfl rfl h57) (rg_load rfl e58 (blk_below Bg5_6.out hst) rfl Try.underlying4 rfl) (hK _ _ (Below.refl _ _) rfl)
    · intro listed vals a wq K hD hst hj haft hun hK
      obtain ⟨v59, h59, j59⟩ := hD.dep hj haft 9 59 rfl rfl
      replace j59 : v59 = (.bool false) := j59
      subst j59
      obtain ⟨v57, h57, j57⟩ := hD.dep hj haft 7 57 rfl rfl
      replace j57 : v57 = (.bool false) := j57
      subst j57
      replace hst : Below _ _ wq := hst
      clear hD hj haft hun
      have e59 := eval_of h59
      refine step_now (v := .bool true) (w' := wq) (wanted_on (t := 57) (u := false) rfl rfl rfl h57) ?_ (hK _ _ (Below.refl _ _) rfl)
      clear hK
      first | (go_simp; done) | (go_simp; rfl) | (go_simp; (try simp only [IntKind.wrap_u32]); omega)
    · intro listed vals a wq K hD hst hj haft hun hK
      obtain ⟨v57, h57, j57⟩ := hD.dep hj haft 7 57 rfl rfl
      replace j57 : v57 = (.bool false) := j57
      subst j57
      obtain ⟨v60, h60, j60⟩ := hD.dep hj haft 10 60 rfl rfl
      replace j60 : v60 = (.bool true) := j60
      subst j60
      replace hst : Below _ _ wq := hst
      clear hD hj haft hun
      have e57 := eval_of h57
      have e60 := eval_of h60
      refine step_now (v := .bool true) (w' := wq) (wanted_free rfl) ?_ (hK _ _ (Below.refl _ _) rfl)
      clear hK
      first | (go_simp; done) | (go_simp; rfl) | (go_simp; (try simp only [IntKind.wrap_u32]); omega)
    · intro listed vals a wq K hD hst hj haft hun hK
      obtain ⟨v61, h61, j61⟩ := hD.dep hj haft 11 61 rfl rfl
      replace j61 : v61 = (.bool true) := j61
      subst j61
      replace hst : Below _ _ wq := hst
      clear hD hj haft hun
      have e61 := eval_of h61
      refine step_now (v := .bool true) (w' := wq) (wanted_free rfl) ?_ (hK _ _ (Below.refl _ _) rfl)
      clear hK
      first | (go_simp; done) | (go_simp; rfl) | (go_simp; (try simp only [IntKind.wrap_u32]); omega)
    · intro listed vals a wq K hD hst hj haft hun hK
      obtain ⟨v62, h62, j62⟩ := hD.dep hj haft 12 62 rfl rfl
      replace j62 : v62 = (.bool true) := j62
      subst j62
      have h5 := hD.out 5 rfl rfl
      replace hst : Below _ _ wq := hst
      clear hD hj haft hun
      have e5 := eval_of h5
      exact step_off (wanted_off (t := 62) (u := false) rfl rfl rfl h62) (hK _ _ (Below.refl _ _) rfl)
    · intro listed vals a wq K hD hst hj haft hun hK
      obtain ⟨v63, h63, j63⟩ := hD.dep hj haft 13 63 rfl rfl
      replace j63 : v63 = (undef) := j63
      subst j63
      obtain ⟨v62, h62, j62⟩ := hD.dep hj haft 12 62 rfl rfl
      replace j62 : v62 = (.bool true) := j62
      subst j62
      replace hst : Below _ _ wq := hst
      clear hD hj haft hun
      have e63 := eval_of h63
      exact step_off (wanted_off (t := 62) (u := false) rfl rfl rfl h62) (hK _ _ (Below.refl _ _) rfl)
    · intro listed vals a wq K hD hst hj haft hun hK
      obtain ⟨v64, h64, j64⟩ := hD.dep hj haft 14 64 rfl rfl
      replace j64 : v64 = (undef) := j64
      subst j64
      obtain ⟨v62, h62, j62⟩ := hD.dep hj haft 12 62 rfl rfl
      replace j62 : v62 = (.bool true) := j62
      subst j62
      replace hst : Below _ _ wq := hst
      clear hD hj haft hun
      have e64 := eval_of h64
      exact step_off (wanted_off (t := 62) (u := false) rfl rfl rfl h62) (hK _ _ (Below.refl _ _) rfl)
    · intro listed vals a wq K hD hst hj haft hun hK
      obtain ⟨v62, h62, j62⟩ := hD.dep hj haft 12 62 rfl rfl
      replace j62 : v62 = (.bool true) := j62
      subst j62
      have h10 := hD.out 10 rfl rfl
      replace hst : Below _ _ wq := hst
      clear hD hj haft hun
      have e10 := eval_of h10
      exact step_off (wanted_off (t := 62) (u := false) rfl rfl rfl h62) (hK _ _ (Below.refl _ _) rfl)
    · intro listed vals a wq K hD hst hj haft hun hK
      obtain ⟨v66, h66, j66⟩ := hD.dep hj haft 16 66 rfl rfl
      replace j66 : v66 = (undef) := j66
      subst j66
      obtain ⟨v62, h62, j62⟩ := hD.dep hj haft 12 62 rfl rfl
      replace j62 : v62 = (.bool true) := j62
      subst j62
      replace hst : Below _ _ wq := hst
      clear hD hj haft hun
      have e66 := eval_of h66
      exact step_off (wanted_off (t := 62) (u := false) rfl rfl rfl h62) (hK _ _ (Below.refl _ _) rfl)
    · intro listed vals a wq K hD hst hj haft hun hK
      obtain ⟨v67, h67, j67⟩ := hD.dep hj haft 17 67 rfl rfl
      replace j67 : v67 = (undef) := j67
      subst j67
      obtain ⟨v62, h62, j62⟩ := hD.dep hj haft 12 62 rfl rfl
      replace j62 : v62 = (.bool true) := j62
      subst j62
      replace hst : Below _ _ wq := hst
      clear hD hj haft hun
      have e67 := eval_of h67
      exact step_off (wanted_off (t := 62) (u := false) rfl rfl rfl h62) (hK _ _ (Below.refl _ _) rfl)
    · intro listed vals a wq K hD hst hj haft hun hK
      obtain ⟨v68, h68, j68⟩ := hD.dep hj haft 18 68 rfl rfl
      replace j68 : v68 = (undef) := j68
      subst j68
      obtain ⟨v62, h62, j62⟩ := hD.dep hj haft 12 62 rfl rfl
      replace j62 : v62 = (.bool true) := j62
      subst j62
      replace hst : Below _ _ wq := hst
      clear hD hj haft hun
      have e68 := eval_of h68
      exact step_off (wanted_off (t := 62) (u := false) rfl rfl rfl h62) (hK _ _ (Below.refl _ _) rfl)
    · intro listed vals a wq K hD hst hj haft hun hK
      obtain ⟨v65, h65, j65⟩ := hD.dep hj haft 15 65 rfl rfl
      replace j65 : v65 = (undef) := j65
      subst j65
      obtain ⟨v69, h69, j69⟩ := hD.dep hj haft 19 69 rfl rfl
      replace j69 : v69 = (undef) := j69
      subst j69
      obtain ⟨v62, h62, j62⟩ := hD.dep hj haft 12 62 rfl rfl
      replace j62 : v62 = (.bool true) := j62
      subst j62
      replace hst : Below _ _ wq := hst
      clear hD hj haft hun
      have e65 := eval_of h65
      have e69 := eval_of h69
      exact step_off (wanted_off (t := 62) (u := false) rfl rfl rfl h62) (hK _ _ (Below.refl _ _) rfl)
    · intro listed vals a wq K hD hst hj haft hun hK
      obtain ⟨v62, h62, j62⟩ := hD.dep hj haft 12 62 rfl rfl
      replace j62 : v62 = (.bool true) := j62
      subst j62
      obtain ⟨v70, h70, j70⟩ := hD.dep hj haft 20 70 rfl rfl
      replace j70 : v70 = (undef) := j70
      subst j70
      replace hst : Below _ _ wq := hst
      clear hD hj haft hun
      have e62 := eval_of h62
      have e70 := eval_of h70
      refine step_now (v := .bool true) (w' := wq) (wanted_free rfl) ?_ (hK _ _ (Below.refl _ _) rfl)
      clear hK
      first | (go_simp; done) | (go_simp; rfl) | (go_simp; (try simp only [IntKind.wrap_u32]); omega)
    · intro listed vals a wq K hD hst hj haft hun hK
      obtain ⟨v71, h71, j71⟩ := hD.dep hj haft 21 71 rfl rfl
      replace j71 : v71 = (.bool true) := j71
      subst j71
      replace hst : Below _ _ wq := hst
      clear hD hj haft hun
      have e71 := eval_of h71
      refine step_now (v := .bool true) (w' := wq) (wanted_free rfl) ?_ (hK _ _ (Below.refl _ _) rfl)
      clear hK
      first | (go_simp; done) | (go_simp; rfl) | (go_simp; (try simp only [IntKind.wrap_u32]); omega)
  case hEnd =>
    intro vals wend hst hj
    have j0 : vals 0 = (.bool true) := hj 0 (by decide)
    have j1 : vals 1 = (.bool false) := hj 1 (by decide)
    have j2 : vals 2 = (.bool false) := hj 2 (by decide)
    have j3 : vals 3 = (.pointer (some ⟨g3, 0, none⟩)) := hj 3 (by decide)
    have j4 : vals 4 = (.int .i64 st) := hj 4 (by decide)
    have j5 : vals 5 = (.bool false) := hj 5 (by decide)
    have j6 : vals 6 = (.bool false) := hj 6 (by decide)
    have j7 : vals 7 = (.bool false) := hj 7 (by decide)
    have j8 : vals 8 = (.pointer (some ⟨g5, 13, none⟩)) := hj 8 (by decide)
    have j9 : vals 9 = (.bool false) := hj 9 (by decide)
    have j10 : vals 10 = (.bool true) := hj 10 (by decide)
    have j11 : vals 11 = (.bool true) := hj 11 (by decide)
    have j12 : vals 12 = (.bool true) := hj 12 (by decide)
    have j13 : vals 13 = (undef) := hj 13 (by decide)
    have j14 : vals 14 = (undef) := hj 14 (by decide)
    have j15 : vals 15 = (undef) := hj 15 (by decide)
    have j16 : vals 16 = (undef) := hj 16 (by decide)
    have j17 : vals 17 = (undef) := hj 17 (by decide)
    have j18 : vals 18 = (undef) := hj 18 (by decide)
    have j19 : vals 19 = (undef) := hj 19 (by decide)
    have j20 : vals 20 = (undef) := hj 20 (by decide)
    have j21 : vals 21 = (.bool true) := hj 21 (by decide)
    have j22 : vals 22 = (.bool true) := hj 22 (by decide)
    replace hst : Below _ _ wend := hst
    clear hj
    rw [putAll_list]
    simp only [putL, Act.put, List.setIfInBounds_toArray, List.set_cons_zero, List.set_cons_succ, j0, j1, j2, j3, j4, j5, j6, j7, j8, j9, j10, j11, j12, j13, j14, j15, j16, j17, j18, j19, j20, j21, j22]
    clear j0 j1 j2 j3 j4 j5 j6 j7 j8 j9 j10 j11 j12 j13 j14 j15 j16 j17 j18 j19 j20 j21 j22
    have HB_7 := Aside0.mk (below_step HB_6.out hst)
    clear HB_6
    have Bg3_7 := Aside0.mk (blk_below Bg3_6.out hst)
    clear Bg3_6
    have Bg5_7 := Aside0.mk (blk_below Bg5_6.out hst)
    clear Bg5_6
    have Bg6_7 := Aside0.mk (blk_below Bg6_6.out hst)
    clear Bg6_6
    have Bg8_7 := Aside0.mk (blk_below Bg8_6.out hst)
    clear Bg8_6
    clear hst
    go_wp2_with (first | ((with_reducible refine gate_dst (N := 72) rfl ?_); refine load_event rfl 41 _ rfl g3 rfl _ _ _ Bg3_7.out Try.underlying41 rfl (by kernel_rfl) ?_) | ((with_reducible refine gate_store (t := 41) (p := 6) rfl ?_); refine store_event rfl 41 _ _ rfl g6 _ rfl rfl _ _ Bg6_7.out (by kernel_rfl) rfl rfl ?_; intro wx8 hst hu; have HB_8 := Aside0.mk (below_upd HB_7.out hu (below_size HB_7.out) (fun k hk => by cases hk; exact Lg6.out)); clear HB_7; have Bg3_8 := Aside0.mk (Upd.blk hu Bg3_7.out (One.not Ng3g6.out)); clear Bg3_7; have Bg5_8 := Aside0.mk (Upd.blk hu Bg5_7.out (One.not Ng5g6.out)); clear Bg5_7; have Bg8_8 := Aside0.mk (Upd.blk hu Bg8_7.out (One.not (Ne.symm Ng6g8.out))); clear Bg8_7; have Bg6_8 := Aside0.mk hst; clear hst hu Bg6_7))
    exact bodyPost_ret (results_ct rfl _ _ g6 41 #[.int .i64 st, .bool s1, .int .u32 e1, .int .u32 m1, .bool f1, .bool false, .int .u32 e2, .int .u32 m2, .bool f2] (0, 0) _ rfl Bg6_8.out Try.underlying41 rfl (by kernel_rfl)) rfl ⟨rfl, HB_8.out⟩
set_option maxRecDepth 100000 in
set_option maxHeartbeats 4000000 in
theorem sy_t_ak (st e1 m1 e2 m2 : Int) (s1 f1 f2 : Bool) (sp dp sq ak fl wi ty co he da en : Int) (sy : Bool) (w : World) (hd : (da != 0) = false) (h1 : (st != 1) = false) (h2 : (ak != e1) = true) : Calls Try.prog 42 #[.agg #[.int .i64 st, .bool s1, .int .u32 e1, .int .u32 m1, .bool f1, .bool false, .int .u32 e2, .int .u32 m2, .bool f2], .bool true, .agg #[.int .i64 sp, .int .i64 dp, .int .u32 sq, .int .u32 ak, .int .i64 fl, .int .i64 wi, .int .i64 ty, .int .i64 co, .int .i64 he, .int .i64 da, .bool sy, .bool false, .bool false, .bool true, .int .u32 en]] w fun e w' => e = .returned (.tuple #[.agg #[.int .i64 st, .bool s1, .int .u32 e1, .int .u32 m1, .bool f1, .bool false, .int .u32 e2, .int .u32 m2, .bool f2], .bool false]) ∧ Below w.heap.size w w' := by
  go_enter Try.func42, Try.ntmps42
  go_upto_region 7 with (first | ((with_reducible refine gate_dst (N := 3) rfl ?_); refine box_event ?hg (N := 3) ?hd (cs := #[.int .i64 st, .bool s1, .int .u32 e1, .int .u32 m1, .bool f1, .bool false, .int .u32 e2, .int .u32 m2, .bool f2]) (t := 41) ?hr ?_; (case hd => rfl); (case hg => rfl); (case hr => first | (go_simp; done) | (go_simp; rfl)); intro g3 hgg wx1 hbox hb; have Lg3 := Aside0.mk (show w.heap.size ≤ g3 by rw [hgg]; exact Nat.le_refl _); have HB_1 := Aside0.mk (hb); have Bg3_1 := Aside0.mk hbox; clear hbox hb hgg) | ((with_reducible refine gate_dst (N := 5) rfl ?_); refine box_event ?hg (N := 5) ?hd (cs := #[.int .i64 sp, .int .i64 dp, .int .u32 sq, .int .u32 ak, .int .i64 fl, .int .i64 wi, .int .i64 ty, .int .i64 co, .int .i64 he, .int .i64 da, .bool sy, .bool false, .bool false, .bool true, .int .u32 en]) (t := 95) ?hr ?_; (case hd => rfl); (case hg => rfl); (case hr => first | (go_simp; done) | (go_simp; rfl)); intro g5 hgg wx2 hbox hb; have Ng3g5 := Aside0.mk (show g3 ≠ g5 by rw [hgg]; exact Nat.ne_of_lt (blk_lt Bg3_1.out)); have Lg5 := Aside0.mk (show w.heap.size ≤ g5 by rw [hgg]; exact below_size HB_1.out); have HB_2 := Aside0.mk (below_step HB_1.out hb); clear HB_1; have Bg3_2 := Aside0.mk (blk_below Bg3_1.out hb); clear Bg3_1; have Bg5_2 := Aside0.mk hbox; clear hbox hb hgg) | ((with_reducible refine gate_dst (N := 6) rfl ?_); refine box_event ?hg (N := 6) ?hd (cs := #[.int .i64 0, .bool false, .int .u32 0, .int .u32 0, .bool false, .bool false, .int .u32 0, .int .u32 0, .bool false]) (t := 41) ?hr ?_; (case hd => rfl); (case hg => rfl); (case hr => first | (go_simp; done) | (go_simp; rfl)); intro g6 hgg wx3 hbox hb; have Ng3g6 := Aside0.mk (show g3 ≠ g6 by rw [hgg]; exact Nat.ne_of_lt (blk_lt Bg3_2.out)); have Ng5g6 := Aside0.mk (show g5 ≠ g6 by rw [hgg]; exact Nat.ne_of_lt (blk_lt Bg5_2.out)); have Lg6 := Aside0.mk (show w.heap.size ≤ g6 by rw [hgg]; exact below_size HB_2.out); have HB_3 := Aside0.mk (below_step HB_2.out hb); clear HB_2; have Bg3_3 := Aside0.mk (blk_below Bg3_2.out hb); clear Bg3_2; have Bg5_3 := Aside0.mk (blk_below Bg5_2.out hb); clear Bg5_2; have Bg6_3 := Aside0.mk hbox; clear hbox hb hgg) | ((with_reducible refine gate_dst (N := 11) rfl ?_); refine load_event rfl 41 _ rfl g3 rfl _ _ _ Bg3_3.out Try.underlying41 rfl (by kernel_rfl) ?_) | ((with_reducible refine gate_dst (N := 8) rfl ?_); refine box_event ?hg (N := 8) ?hd (cs := #[.int .i64 0, .bool false, .int .u32 0, .int .u32 0, .bool false, .bool false, .int .u32 0, .int .u32 0, .bool false]) (t := 41) ?hr ?_; (case hd => rfl); (case hg => rfl); (case hr => first | (go_simp; done) | (go_simp; rfl)); intro g8 hgg wx4 hbox hb; have Ng3g8 := Aside0.mk (show g3 ≠ g8 by rw [hgg]; exact Nat.ne_of_lt (blk_lt Bg3_3.out)); have Ng5g8 := Aside0.mk (show g5 ≠ g8 by rw [hgg]; exact Nat.ne_of_lt (blk_lt Bg5_3.out)); have Ng6g8 := Aside0.mk (show g6 ≠ g8 by rw [hgg]; exact Nat.ne_of_lt (blk_lt Bg6_3.out)); have Lg8 := Aside0.mk (show w.heap.size ≤ g8 by rw [hgg]; exact below_size HB_3.out); have HB_4 := Aside0.mk (below_step HB_3.out hb); clear HB_3; have Bg3_4 := Aside0.mk (blk_below Bg3_3.out hb); clear Bg3_3; have Bg5_4 := Aside0.mk (blk_below Bg5_3.out hb); clear Bg5_3; have Bg6_4 := Aside0.mk (blk_below Bg6_3.out hb); clear Bg6_3; have Bg8_4 := Aside0.mk hbox; clear hbox hb hgg) | ((with_reducible refine gate_store (t := 41) (p := 8) rfl ?_); refine store_event rfl 41 _ _ rfl g8 _ rfl rfl _ _ Bg8_4.out (by kernel_rfl) rfl rfl ?_; intro wx5 hst hu; have HB_5 := Aside0.mk (below_upd HB_4.out hu (below_size HB_4.out) (fun k hk => by cases hk; exact Lg8.out)); clear HB_4; have Bg3_5 := Aside0.mk (Upd.blk hu Bg3_4.out (One.not Ng3g8.out)); clear Bg3_4; have Bg5_5 := Aside0.mk (Upd.blk hu Bg5_4.out (One.not Ng5g8.out)); clear Bg5_4; have Bg6_5 := Aside0.mk (Upd.blk hu Bg6_4.out (One.not Ng6g8.out)); clear Bg6_4; have Bg8_5 := Aside0.mk hst; clear hst hu Bg8_4) | (go_at_call 40; refine (sides_t g8 _).mono ?_; rintro e wx6 ⟨rfl, hb⟩; have HB_6 := Aside0.mk (below_step HB_5.out hb); clear HB_5; have Bg3_6 := Aside0.mk (blk_below Bg3_5.out hb); clear Bg3_5; have Bg5_6 := Aside0.mk (blk_below Bg5_5.out hb); clear Bg5_5; have Bg6_6 := Aside0.mk (blk_below Bg6_5.out hb); clear Bg6_5; have Bg8_6 := Aside0.mk (blk_below Bg8_5.out hb); clear Bg8_5; clear hb) | ((with_reducible refine gate_dst (N := 19) rfl ?_); refine load1_event rfl _ _ rfl g5 11 rfl _ _ _ _ Bg5_6.out rfl Try.underlying4 rfl ?_) | ((with_reducible refine gate_dst (N := 22) rfl ?_); (refine gate_guard (by rfl) ?_; dsimp only); refine load1_event rfl _ _ rfl g5 12 rfl _ _ _ _ Bg5_6.out rfl Try.underlying4 rfl ?_) | ((with_reducible refine gate_dst (N := 27) rfl ?_); (refine gate_guard (by rfl) ?_; dsimp only); refine load1_event rfl _ _ rfl g5 9 rfl _ _ _ _ Bg5_6.out rfl Try.underlying3 rfl ?_) | ((with_reducible refine gate_dst (N := 35) rfl ?_); refine load1_event rfl _ _ rfl g8 5 rfl _ _ _ _ Bg8_6.out rfl Try.underlying4 rfl ?_))
  refine wp_region_rg (by kernel_rfl) (fun x y => Below x.heap.size x y) (fun (i : Nat) (v : Value) (w1 : World) => match i with | 0 => v = (.bool true) | 1 => v = (.bool false) | 2 => v = (.bool false) | 3 => v = (.pointer (some ⟨g3, 0, none⟩)) | 4 => v = (.int .i64 st) | 5 => v = (.bool false) | 6 => v = (.bool false) | 7 => v = (.bool false) | 8 => v = (.pointer (some ⟨g5, 13, none⟩)) | 9 => v = (.bool true) | 10 => v = (.bool false) | 11 => v = (.bool false) | 12 => v = (.bool false) | 13 => v = (.pointer (some ⟨g5, 0, none⟩)) | 14 => v = (.pointer (some ⟨g5, 3, none⟩)) | 15 => v = (.int .u32 ak) | 16 => v = (.pointer (some ⟨g8, 1, none⟩)) | 17 => v = (.pointer (some ⟨g8, 1, none⟩)) | 18 => v = (.pointer (some ⟨g8, 2, none⟩)) | 19 => v = (.int .u32 e1) | 20 => v = (.bool true) | 21 => v = (.bool true) | 22 => v = (.bool true) | _ => True) (by kernel_rfl) (by kernel_rfl) below_tr (Below.refl _ _).drew ?hJst (obl_list ?hObl) ?hEnd
  case hJst =>
    intro i v wx wy hi hs0 hs1 hJi
    match i, hi with
    | 0, _ => exact hJi
    | 1, _ => exact hJi
    | 2, _ => exact hJi
    | 3, _ => exact hJi
    | 4, _ => exact hJi
    | 5, _ => exact hJi
    | 6, _ => exact hJi
    | 7, _ => exact hJi
    | 8, _ => exact hJi
    | 9, _ => exact hJi
    | 10, _ => exact hJi
    | 11, _ => exact hJi
    | 12, _ => exact hJi
    | 13, _ => exact hJi
    | 14, _ => exact hJi
    | 15, _ => exact hJi
    | 16, _ => exact hJi
    | 17, _ => exact hJi
    | 18, _ => exact hJi
    | 19, _ => exact hJi
    | 20, _ => exact hJi
    | 21, _ => exact hJi
    | 22, _ => exact hJi
    | _ + 23, hi => exact absurd hi (by simp)
  case hObl =>
    refine ⟨?_, ?_, ?_, ?_, ?_, ?_, ?_, ?_, ?_, ?_, ?_, ?_, ?_, ?_, ?_, ?_, ?_, ?_, ?_, ?_, ?_, ?_, ?_,  trivial⟩
    · intro listed vals a wq K hD hst hj haft hun hK
      have h1 := hD.out 1 rfl rfl
      replace hst : Below _ _ wq := hst
      clear hD hj haft hun
      have e1 := eval_of h1
      refine step_now (v := .bool true) (w' := wq) (wanted_free rfl) ?_ (hK _ _ (Below.refl _ _) rfl)
      clear hK
      first | (go_simp; done) | (go_simp; rfl) | (go_simp; (try simp only [IntKind.wrap_u32]); omega)
    · intro listed vals a wq K hD hst hj haft hun hK
      obtain ⟨v50, h50, j50⟩ := hD.dep hj haft 0 50 rfl rfl
      replace j50 : v50 = (.bool true) := j50
      subst j50
      replace hst : Below _ _ wq := hst
      clear hD hj haft hun
      have e50 := eval_of h50
      refine step_now (v := .bool false) (w' := wq) (wanted_free rfl) ?_ (hK _ _ (Below.refl _ _) rfl)
      clear hK
      first | (go_simp; done) | (go_simp; rfl) | (go_simp; (try simp only [IntKind.wrap_u32]); omega)
    · intro listed vals a wq K hD hst hj haft hun hK
      obtain ⟨v51, h51, j51⟩ := hD.dep hj haft 1 51 rfl rfl
      replace j51 : v51 = (.bool false) := j51
      subst j51
      replace hst : Below _ _ wq := hst
      clear hD hj haft hun
      have e51 := eval_of h51
      refine step_now (v := .bool false) (w' := wq) (wanted_free rfl) ?_ (hK _ _ (Below.refl _ _) rfl)
      clear hK
      first | (go_simp; done) | (go_simp; rfl) | (go_simp; (try simp only [IntKind.wrap_u32]); omega)
    · intro listed vals a wq K hD hst hj haft hun hK
      obtain ⟨v52, h52, j52⟩ := hD.dep hj haft 2 52 rfl rfl
      replace j52 : v52 = (.bool false) := j52
      subst j52
      have h3 := hD.out 3 rfl rfl
      replace hst : Below _ _ wq := hst
      clear hD hj haft hun
      have e3 := eval_of h3
      refine step_now (v := .pointer (some ⟨g3, 0, none⟩)) (w' := wq) (wanted_on (t := 52) (u := false) rfl rfl rfl h52) ?_ (hK _ _ (Below.refl _ _) rfl)
      clear hK
      first | (go_simp; done) | (go_simp; rfl) | (go_simp; (try simp only [IntKind.wrap_u32]); omega)
    · intro listed vals a wq K hD hst hj haft hun hK
      obtain ⟨v53, h53, j53⟩ := hD.dep hj haft 3 53 rfl rfl
      replace j53 : v53 = (.pointer (some ⟨g3, 0, none⟩)) := j53
      subst j53
      obtain ⟨v52, h52, j52⟩ := hD.dep hj haft 2 52 rfl rfl
      replace j52 : v52 = (.bool false) := j52
      subst j52
      replace hst : Below _ _ wq := hst
      clear hD hj haft hun
      have e53 := eval_of h53
      exact step_now (v := .int .i64 st) (w' := wq) (wanted_on (t := 52) (u := false) rfl rfl rfl h52) (rg_load rfl e53 (blk_below Bg3_6.out hst) rfl Try.underlying3 rfl) (hK _ _ (Below.refl _ _) rfl)
    · intro listed vals a wq K hD hst hj haft hun hK
      obtain ⟨v54, h54, j54⟩ := hD.dep hj haft 4 54 rfl rfl
      replace j54 : v54 = (.int .i64 st) := j54
      subst j54
      obtain ⟨v52, h52, j52⟩ := hD.dep hj haft 2 52 rfl rfl
      replace j52 : v52 = (.bool false) := j52
      subst j52
      replace hst : Below _ _ wq := hst
      clear hD hj haft hun
      have e54 := eval_of h54
      refine step_now (v := .bool false) (w' := wq) (wanted_on (t := 52) (u := false) rfl rfl rfl h52) ?_ (hK _ _ (Below.refl _ _) rfl)
      clear hK
      first | (go_simp; done) | (go_simp; rfl) | (go_simp; (try simp only [IntKind.wrap_u32]); omega)
    · intro listed vals a wq K hD hst hj haft hun hK
      obtain ⟨v52, h52, j52⟩ := hD.dep hj haft 2 52 rfl rfl
      replace j52 : v52 = (.bool false) := j52
      subst j52
      obtain ⟨v55, h55, j55⟩ := hD.dep hj haft 5 55 rfl rfl
      replace j55 : v55 = (.bool false) := j55
      subst j55
      replace hst : Below _ _ wq := hst
      clear hD hj haft hun
      have e52 := eval_of h52
      have e55 := eval_of h55
      refine step_now (v := .bool false) (w' := wq) (wanted_free rfl) ?_ (hK _ _ (Below.refl _ _) rfl)
      clear hK
      first | (go_simp; done) | (go_simp; rfl) | (go_simp; (try simp only [IntKind.wrap_u32]); omega)
    · intro listed vals a wq K hD hst hj haft hun hK
      obtain ⟨v56, h56, j56⟩ := hD.dep hj haft 6 56 rfl rfl
      replace j56 : v56 = (.bool false) := j56
      subst j56
      replace hst : Below _ _ wq := hst
      clear hD hj haft hun
      have e56 := eval_of h56
      refine step_now (v := .bool false) (w' := wq) (wanted_free rfl) ?_ (hK _ _ (Below.refl _ _) rfl)
      clear hK
      first | (go_simp; done) | (go_simp; rfl) | (go_simp; (try simp only [IntKind.wrap_u32]); omega)
    · intro listed vals a wq K hD hst hj haft hun hK
      obtain ⟨v57, h57, j57⟩ := hD.dep hj haft 7 57 rfl rfl
      replace j57 : v57 = (.bool false) := j57
      subst j57
      have h5 := hD.out 5 rfl rfl
      replace hst : Below _ _ wq := hst
      clear hD hj haft hun
      have e5 := eval_of h5
      refine step_now (v := .pointer (some ⟨g5, 13, none⟩)) (w' := wq) (wanted_on (t := 57) (u := false) rfl rfl rfl h57) ?_ (hK _ _ (Below.refl _ _) rfl)
      clear hK
      first | (go_simp; done) | (go_simp; rfl) | (go_simp; (try simp only [IntKind.wrap_u32]); omega)
    · intro listed vals a wq K hD hst hj haft hun hK
      obtain ⟨v58, h58, j58⟩ := hD.dep hj haft 8 58 rfl rfl
      replace j58 : v58 = (.pointer (some ⟨g5, 13, none⟩)) := j58
      subst j58
      obtain ⟨v57, h57, j57⟩ := hD.dep hj haft 7 57 rfl rfl
      replace j57 : v57 = (.bool false) := j57
      subst j57
      replace hst : Below _ _ wq := hst
      clear hD hj haft hun
      have e58 := eval_of h58
      exact step_now (v := .bool true) (w' := wq) (wanted_on (t := 57) (u := false) rfl rfl rfl h57) (rg_load rfl e58 (blk_below Bg5_6.out hst) rfl Try.underlying4 rfl) (hK _ _ (Below.refl _ _) rfl)
    · intro listed vals a wq K hD hst hj haft hun hK
      obtain ⟨v59, h59, j59⟩ := hD.dep hj haft 9 59 rfl rfl
      replace j59 : v59 = (.bool true) := j59
      subst j59
      obtain ⟨v57, h57, j57⟩ := hD.dep hj haft 7 57 rfl rfl
      replace j57 : v57 = (.bool false) := j57
      subst j57
      replace hst : Below _ _ wq := hst
      clear hD hj haft hun
      have e59 := eval_of h59
      refine step_now (v := .bool false) (w' := wq) (wanted_on (t := 57) (u := false) rfl rfl rfl h57) ?_ (hK _ _ (Below.refl _ _) rfl)
      clear hK
      first | (go_simp; done) | (go_simp; rfl) | (go_simp; (try simp only [IntKind.wrap_u32]); omega)
    · intro listed vals a wq K hD hst hj haft hun hK
      obtain ⟨v57, h57, j57⟩ := hD.dep hj haft 7 57 rfl rfl
      replace j57 : v57 = (.bool false) := j57
      subst j57
      obtain ⟨v60, h60, j60⟩ := hD.dep hj haft 10 60 rfl rfl
      replace j60 : v60 = (.bool false) := j60
      subst j60
      replace hst : Below _ _ wq := hst
      clear hD hj haft hun
      have e57 := eval_of h57
      have e60 := eval_of h60
      refine step_now (v := .bool false) (w' := wq) (wanted_free rfl) ?_ (hK _ _ (Below.refl _ _) rfl)
      clear hK
      first | (go_simp; done) | (go_simp; rfl) | (go_simp; (try simp only [IntKind.wrap_u32]); omega)
    · intro listed vals a wq K hD hst hj haft hun hK
      obtain ⟨v61, h61, j61⟩ := hD.dep hj haft 11 61 rfl rfl
      replace j61 : v61 = (.bool false) := j61
      subst j61
      replace hst : Below _ _ wq := hst
      clear hD hj haft hun
      have e61 := eval_of h61
      refine step_now (v := .bool false) (w' := wq) (wanted_free rfl) ?_ (hK _ _ (Below.refl _ _) rfl)
      clear hK
      first | (go_simp; done) | (go_simp; rfl) | (go_simp; (try simp only [IntKind.wrap_u32]); omega)
    · intro listed vals a wq K hD hst hj haft hun hK
      obtain ⟨v62, h62, j62⟩ := hD.dep hj haft 12 62 rfl rfl
      replace j62 : v62 = (.bool false) := j62
      subst j62
      have h5 := hD.out 5 rfl rfl
      replace hst : Below _ _ wq := hst
      clear hD hj haft hun
      have e5 := eval_of h5
      refine step_now (v := .pointer (some ⟨g5, 0, none⟩)) (w' := wq) (wanted_on (t := 62) (u := false) rfl rfl rfl h62) ?_ (hK _ _ (Below.refl _ _) rfl)
      clear hK
      first | (go_simp; done) | (go_simp; rfl) | (go_simp; (try simp only [IntKind.wrap_u32]); omega)
    · intro listed vals a wq K hD hst hj haft hun hK
      obtain ⟨v63, h63, j63⟩ := hD.dep hj haft 13 63 rfl rfl
      replace j63 : v63 = (.pointer (some ⟨g5, 0, none⟩)) := j63
      subst j63
      obtain ⟨v62, h62, j62⟩ := hD.dep hj haft 12 62 rfl rfl
      replace j62 : v62 = (.bool false) := j62
      subst j62
      replace hst : Below _ _ wq := hst
      clear hD hj haft hun
      have e63 := eval_of h63
      refine step_now (v := .pointer (some ⟨g5, 3, none⟩)) (w' := wq) (wanted_on (t := 62) (u := false) rfl rfl rfl h62) ?_ (hK _ _ (Below.refl _ _) rfl)
      clear hK
      first | (go_simp; done) | (go_simp; rfl) | (go_simp; (try simp only [IntKind.wrap_u32]); omega)
    · intro listed vals a wq K hD hst hj haft hun hK
      obtain ⟨v64, h64, j64⟩ := hD.dep hj haft 14 64 rfl rfl
      replace j64 : v64 = (.pointer (some ⟨g5, 3, none⟩)) := j64
      subst j64
      obtain ⟨v62, h62, j62⟩ := hD.dep hj haft 12 62 rfl rfl
      replace j62 : v62 = (.bool false) := j62
      subst j62
      replace hst : Below _ _ wq := hst
      clear hD hj haft hun
      have e64 := eval_of h64
      exact step_now (v := .int .u32 ak) (w' := wq) (wanted_on (t := 62) (u := false) rfl rfl rfl h62) (rg_load rfl e64 (blk_below Bg5_6.out hst) rfl Try.underlying33 rfl) (hK _ _ (Below.refl _ _) rfl)
    · intro listed vals a wq K hD hst hj haft hun hK
      obtain ⟨v62, h62, j62⟩ := hD.dep hj haft 12 62 rfl rfl
      replace j62 : v62 = (.bool false) := j62
      subst j62
      have h10 := hD.out 10 rfl rfl
      replace hst : Below _ _ wq := hst
      clear hD hj haft hun
      have e10 := eval_of h10
      refine step_now (v := .pointer (some ⟨g8, 1, none⟩)) (w' := wq) (wanted_on (t := 62) (u := false) rfl rfl rfl h62) ?_ (hK _ _ (Below.refl _ _) rfl)
      clear hK
      first | (go_simp; done) | (go_simp; rfl) | (go_simp; (try simp only [IntKind.wrap_u32]); omega)
    · intro listed vals a wq K hD hst hj haft hun hK
      obtain ⟨v66, h66, j66⟩ := hD.dep hj haft 16 66 rfl rfl
      replace j66 : v66 = (.pointer (some ⟨g8, 1, none⟩)) := j66
      subst j66
      obtain ⟨v62, h62, j62⟩ := hD.dep hj haft 12 62 rfl rfl
      replace j62 : v62 = (.bool false) := j62
      subst j62
      replace hst : Below _ _ wq := hst
      clear hD hj haft hun
      have e66 := eval_of h66
      refine step_now (v := .pointer (some ⟨g8, 1, none⟩)) (w' := wq) (wanted_on (t := 62) (u := false) rfl rfl rfl h62) ?_ (hK _ _ (Below.refl _ _) rfl)
      clear hK
      first | (go_simp; done) | (go_simp; rfl) | (go_simp; (try simp only [IntKind.wrap_u32]); omega)
    · intro listed vals a wq K hD hst hj haft hun hK
      obtain ⟨v67, h67, j67⟩ := hD.dep hj haft 17 67 rfl rfl
      replace j67 : v67 = (.pointer (some ⟨g8, 1, none⟩)) := j67
      subst j67
      obtain ⟨v62, h62, j62⟩ := hD.dep hj haft 12 62 rfl rfl
      replace j62 : v62 = (.bool false) := j62
      subst j62
      replace hst : Below _ _ wq := hst
      clear hD hj haft hun
      have e67 := eval_of h67
      refine step_now (v := .pointer (some ⟨g8, 2, none⟩)) (w' := wq) (wanted_on (t := 62) (u := false) rfl rfl rfl h62) ?_ (hK _ _ (Below.refl _ _) rfl)
      clear hK
      first | (go_simp; done) | (go_simp; rfl) | (go_simp; (try simp only [IntKind.wrap_u32]); omega)
    · intro listed vals a wq K hD hst hj haft hun hK
      obtain ⟨v68, h68, j68⟩ := hD.dep hj haft 18 68 rfl rfl
      replace j68 : v68 = (.pointer (some ⟨g8, 2, none⟩)) := j68
      subst j68
      obtain ⟨v62, h62, j62⟩ := hD.dep hj haft 12 62 rfl rfl
      replace j62 : v62 = (.bool false) := j62
      subst j62
      replace hst : Below _ _ wq := hst
      clear hD hj haft hun
      have e68 := eval_of h68
      exact step_now (v := .int .u32 e1) (w' := wq) (wanted_on (t := 62) (u := false) rfl rfl rfl h62) (rg_load rfl e68 (blk_below Bg8_6.out hst) rfl Try.underlying33 rfl) (hK _ _ (Below.refl _ _) rfl)
    · intro listed vals a wq K hD hst hj haft hun hK
      obtain ⟨v65, h65, j65⟩ := hD.dep hj haft 15 65 rfl rfl
      replace j65 : v65 = (.int .u32 ak) := j65
      subst j65
      obtain ⟨v69, h69, j69⟩ := hD.dep hj haft 19 69 rfl rfl
      replace j69 : v69 = (.int .u32 e1) := j69
      subst j69
      obtain ⟨v62, h62, j62⟩ := hD.dep hj haft 12 62 rfl rfl
      replace j62 : v62 = (.bool false) := j62
      subst j62
      replace hst : Below _ _ wq := hst
      clear hD hj haft hun
      have e65 := eval_of h65
      have e69 := eval_of h69
      refine step_now (v := .bool true) (w' := wq) (wanted_on (t := 62) (u := false) rfl rfl rfl h62) ?_ (hK _ _ (Below.refl _ _) rfl)
      clear hK
      first | (go_simp; done) | (go_simp; rfl) | (go_simp; (try simp only [IntKind.wrap_u32]); omega)
    · intro listed vals a wq K hD hst hj haft hun hK
      obtain ⟨v62, h62, j62⟩ := hD.dep hj haft 12 62 rfl rfl
      replace j62 : v62 = (.bool false) := j62
      subst j62
      obtain ⟨v70, h70, j70⟩ := hD.dep hj haft 20 70 rfl rfl
      replace j70 : v70 = (.bool true) := j70
      subst j70
      replace hst : Below _ _ wq := hst
      clear hD hj haft hun
      have e62 := eval_of h62
      have e70 := eval_of h70
      refine step_now (v := .bool true) (w' := wq) (wanted_free rfl) ?_ (hK _ _ (Below.refl _ _) rfl)
      clear hK
      first | (go_simp; done) | (go_simp; rfl) | (go_simp; (try simp only [IntKind.wrap_u32]); omega)
    · intro listed vals a wq K hD hst hj haft hun hK
      obtain ⟨v71, h71, j71⟩ := hD.dep hj haft 21 71 rfl rfl
      replace j71 : v71 = (.bool true) := j71
      subst j71
      replace hst : Below _ _ wq := hst
      clear hD hj haft hun
      have e71 := eval_of h71
      refine step_now (v := .bool true) (w' := wq) (wanted_free rfl) ?_ (hK _ _ (Below.refl _ _) rfl)
      clear hK
      first | (go_simp; done) | (go_simp; rfl) | (go_simp; (try simp only [IntKind.wrap_u32]); omega)
  case hEnd =>
    intro vals wend hst hj
    have j0 : vals 0 = (.bool true) := hj 0 (by decide)
    have j1 : vals 1 = (.bool false) := hj 1 (by decide)
    have j2 : vals 2 = (.bool false) := hj 2 (by decide)
    have j3 : vals 3 = (.pointer (some ⟨g3, 0, none⟩)) := hj 3 (by decide)
    have j4 : vals 4 = (.int .i64 st) := hj 4 (by decide)
    have j5 : vals 5 = (.bool false) := hj 5 (by decide)
    have j6 : vals 6 = (.bool false) := hj 6 (by decide)
    have j7 : vals 7 = (.bool false) := hj 7 (by decide)
    have j8 : vals 8 = (.pointer (some ⟨g5, 13, none⟩)) := hj 8 (by decide)
    have j9 : vals 9 = (.bool true) := hj 9 (by decide)
    have j10 : vals 10 = (.bool false) := hj 10 (by decide)
    have j11 : vals 11 = (.bool false) := hj 11 (by decide)
    have j12 : vals 12 = (.bool false) := hj 12 (by decide)
    have j13 : vals 13 = (.pointer (some ⟨g5, 0, none⟩)) := hj 13 (by decide)
    have j14 : vals 14 = (.pointer (some ⟨g5, 3, none⟩)) := hj 14 (by decide)
    have j15 : vals 15 = (.int .u32 ak) := hj 15 (by decide)
    have j16 : vals 16 = (.pointer (some ⟨g8, 1, none⟩)) := hj 16 (by decide)
    have j17 : vals 17 = (.pointer (some ⟨g8, 1, none⟩)) := hj 17 (by decide)
    have j18 : vals 18 = (.pointer (some ⟨g8, 2, none⟩)) := hj 18 (by decide)
    have j19 : vals 19 = (.int .u32 e1) := hj 19 (by decide)
    have j20 : vals 20 = (.bool true) := hj 20 (by decide)
    have j21 : vals 21 = (.bool true) := hj 21 (by decide)
    have j22 : vals 22 = (.bool true) := hj 22 (by decide)
    replace hst : Below _ _ wend := hst
    clear hj
    rw [putAll_list]
    simp only [putL, Act.put, List.setIfInBounds_toArray, List.set_cons_zero, List.set_cons_succ, j0, j1, j2, j3, j4, j5, j6, j7, j8, j9, j10, j11, j12, j13, j14, j15, j16, j17, j18, j19, j20, j21, j22]
    clear j0 j1 j2 j3 j4 j5 j6 j7 j8 j9 j10 j11 j12 j13 j14 j15 j16 j17 j18 j19 j20 j21 j22
    have HB_7 := Aside0.mk (below_step HB_6.out hst)
    clear HB_6
    have Bg3_7 := Aside0.mk (blk_below Bg3_6.out hst)
    clear Bg3_6
    have Bg5_7 := Aside0.mk (blk_below Bg5_6.out hst)
    clear Bg5_6
    have Bg6_7 := Aside0.mk (blk_below Bg6_6.out hst)
    clear Bg6_6
    have Bg8_7 := Aside0.mk (blk_below Bg8_6.out hst)
    clear Bg8_6
    clear hst
    go_wp2_with (first | ((with_reducible refine gate_dst (N := 72) rfl ?_); refine load_event rfl 41 _ rfl g3 rfl _ _ _ Bg3_7.out Try.underlying41 rfl (by kernel_rfl) ?_) | ((with_reducible refine gate_store (t := 41) (p := 6) rfl ?_); refine store_event rfl 41 _ _ rfl g6 _ rfl rfl _ _ Bg6_7.out (by kernel_rfl) rfl rfl ?_; intro wx8 hst hu; have HB_8 := Aside0.mk (below_upd HB_7.out hu (below_size HB_7.out) (fun k hk => by cases hk; exact Lg6.out)); clear HB_7; have Bg3_8 := Aside0.mk (Upd.blk hu Bg3_7.out (One.not Ng3g6.out)); clear Bg3_7; have Bg5_8 := Aside0.mk (Upd.blk hu Bg5_7.out (One.not Ng5g6.out)); clear Bg5_7; have Bg8_8 := Aside0.mk (Upd.blk hu Bg8_7.out (One.not (Ne.symm Ng6g8.out))); clear Bg8_7; have Bg6_8 := Aside0.mk hst; clear hst hu Bg6_7))
    exact bodyPost_ret (results_ct rfl _ _ g6 41 #[.int .i64 st, .bool s1, .int .u32 e1, .int .u32 m1, .bool f1, .bool false, .int .u32 e2, .int .u32 m2, .bool f2] (0, 0) _ rfl Bg6_8.out Try.underlying41 rfl (by kernel_rfl)) rfl ⟨rfl, HB_8.out⟩
set_option maxRecDepth 100000 in
set_option maxHeartbeats 4000000 in
theorem sy_t_yes (st e1 m1 e2 m2 : Int) (s1 f1 f2 : Bool) (sp dp sq ak fl wi ty co he da en : Int) (sy : Bool) (w : World) (hd : (da != 0) = false) (h1 : (st != 1) = false) (h2 : (ak != e1) = false) : Calls Try.prog 42 #[.agg #[.int .i64 st, .bool s1, .int .u32 e1, .int .u32 m1, .bool f1, .bool false, .int .u32 e2, .int .u32 m2, .bool f2], .bool true, .agg #[.int .i64 sp, .int .i64 dp, .int .u32 sq, .int .u32 ak, .int .i64 fl, .int .i64 wi, .int .i64 ty, .int .i64 co, .int .i64 he, .int .i64 da, .bool sy, .bool false, .bool false, .bool true, .int .u32 en]] w fun e w' => e = .returned (.tuple #[.agg #[.int .i64 2, .bool s1, .int .u32 e1, .int .u32 (grant s1 true m1 ak wi), .bool f1, .bool true, .int .u32 en, .int .u32 ((en + wi) % 4294967296), .bool false], .bool true]) ∧ Below w.heap.size w w' := by
  go_enter Try.func42, Try.ntmps42
  go_upto_region 7 with (first | ((with_reducible refine gate_dst (N := 3) rfl ?_); refine box_event ?hg (N := 3) ?hd (cs := #[.int .i64 st, .bool s1, .int .u32 e1, .int .u32 m1, .bool f1, .bool false, .int .u32 e2, .int .u32 m2, .bool f2]) (t := 41) ?hr ?_; (case hd => rfl); (case hg => rfl); (case hr => first | (go_simp; done) | (go_simp; rfl)); intro g3 hgg wx1 hbox hb; have Lg3 := Aside0.mk (show w.heap.size ≤ g3 by rw [hgg]; exact Nat.le_refl _); have HB_1 := Aside0.mk (hb); have Bg3_1 := Aside0.mk hbox; clear hbox hb hgg) | ((with_reducible refine gate_dst (N := 5) rfl ?_); refine box_event ?hg (N := 5) ?hd (cs := #[.int .i64 sp, .int .i64 dp, .int .u32 sq, .int .u32 ak, .int .i64 fl, .int .i64 wi, .int .i64 ty, .int .i64 co, .int .i64 he, .int .i64 da, .bool sy, .bool false, .bool false, .bool true, .int .u32 en]) (t := 95) ?hr ?_; (case hd => rfl); (case hg => rfl); (case hr => first | (go_simp; done) | (go_simp; rfl)); intro g5 hgg wx2 hbox hb; have Ng3g5 := Aside0.mk (show g3 ≠ g5 by rw [hgg]; exact Nat.ne_of_lt (blk_lt Bg3_1.out)); have Lg5 := Aside0.mk (show w.heap.size ≤ g5 by rw [hgg]; exact below_size HB_1.out); have HB_2 := Aside0.mk (below_step HB_1.out hb); clear HB_1; have Bg3_2 := Aside0.mk (blk_below Bg3_1.out hb); clear Bg3_1; have Bg5_2 := Aside0.mk hbox; clear hbox hb hgg) | ((with_reducible refine gate_dst (N := 6) rfl ?_); refine box_event ?hg (N := 6) ?hd (cs := #[.int .i64 0, .bool false, .int .u32 0, .int .u32 0, .bool false, .bool false, .int .u32 0, .int .u32 0, .bool false]) (t := 41) ?hr ?_; (case hd => rfl); (case hg => rfl); (case hr => first | (go_simp; done) | (go_simp; rfl)); intro g6 hgg wx3 hbox hb; have Ng3g6 := Aside0.mk (show g3 ≠ g6 by rw [hgg]; exact Nat.ne_of_lt (blk_lt Bg3_2.out)); have Ng5g6 := Aside0.mk (show g5 ≠ g6 by rw [hgg]; exact Nat.ne_of_lt (blk_lt Bg5_2.out)); have Lg6 := Aside0.mk (show w.heap.size ≤ g6 by rw [hgg]; exact below_size HB_2.out); have HB_3 := Aside0.mk (below_step HB_2.out hb); clear HB_2; have Bg3_3 := Aside0.mk (blk_below Bg3_2.out hb); clear Bg3_2; have Bg5_3 := Aside0.mk (blk_below Bg5_2.out hb); clear Bg5_2; have Bg6_3 := Aside0.mk hbox; clear hbox hb hgg) | ((with_reducible refine gate_dst (N := 11) rfl ?_); refine load_event rfl 41 _ rfl g3 rfl _ _ _ Bg3_3.out Try.underlying41 rfl (by kernel_rfl) ?_) | ((with_reducible refine gate_dst (N := 8) rfl ?_); refine box_event ?hg (N := 8) ?hd (cs := #[.int .i64 0, .bool false, .int .u32 0, .int .u32 0, .bool false, .bool false, .int .u32 0, .int .u32 0, .bool false]) (t := 41) ?hr ?_; (case hd => rfl); (case hg => rfl); (case hr => first | (go_simp; done) | (go_simp; rfl)); intro g8 hgg wx4 hbox hb; have Ng3g8 := Aside0.mk (show g3 ≠ g8 by rw [hgg]; exact Nat.ne_of_lt (blk_lt Bg3_3.out)); have Ng5g8 := Aside0.mk (show g5 ≠ g8 by rw [hgg]; exact Nat.ne_of_lt (blk_lt Bg5_3.out)); have Ng6g8 := Aside0.mk (show g6 ≠ g8 by rw [hgg]; exact Nat.ne_of_lt (blk_lt Bg6_3.out)); have Lg8 := Aside0.mk (show w.heap.size ≤ g8 by rw [hgg]; exact below_size HB_3.out); have HB_4 := Aside0.mk (below_step HB_3.out hb); clear HB_3; have Bg3_4 := Aside0.mk (blk_below Bg3_3.out hb); clear Bg3_3; have Bg5_4 := Aside0.mk (blk_below Bg5_3.out hb); clear Bg5_3; have Bg6_4 := Aside0.mk (blk_below Bg6_3.out hb); clear Bg6_3; have Bg8_4 := Aside0.mk hbox; clear hbox hb hgg) | ((with_reducible refine gate_store (t := 41) (p := 8) rfl ?_); refine store_event rfl 41 _ _ rfl g8 _ rfl rfl _ _ Bg8_4.out (by kernel_rfl) rfl rfl ?_; intro wx5 hst hu; have HB_5 := Aside0.mk (below_upd HB_4.out hu (below_size HB_4.out) (fun k hk => by cases hk; exact Lg8.out)); clear HB_4; have Bg3_5 := Aside0.mk (Upd.blk hu Bg3_4.out (One.not Ng3g8.out)); clear Bg3_4; have Bg5_5 := Aside0.mk (Upd.blk hu Bg5_4.out (One.not Ng5g8.out)); clear Bg5_4; have Bg6_5 := Aside0.mk (Upd.blk hu Bg6_4.out (One.not Ng6g8.out)); clear Bg6_4; have Bg8_5 := Aside0.mk hst; clear hst hu Bg8_4) | (go_at_call 40; refine (sides_t g8 _).mono ?_; rintro e wx6 ⟨rfl, hb⟩; have HB_6 := Aside0.mk (below_step HB_5.out hb); clear HB_5; have Bg3_6 := Aside0.mk (blk_below Bg3_5.out hb); clear Bg3_5; have Bg5_6 := Aside0.mk (blk_below Bg5_5.out hb); clear Bg5_5; have Bg6_6 := Aside0.mk (blk_below Bg6_5.out hb); clear Bg6_5; have Bg8_6 := Aside0.mk (blk_below Bg8_5.out hb); clear Bg8_5; clear hb) | ((with_reducible refine gate_dst (N := 19) rfl ?_); refine load1_event rfl _ _ rfl g5 11 rfl _ _ _ _ Bg5_6.out rfl Try.underlying4 rfl ?_) | ((with_reducible refine gate_dst (N := 22) rfl ?_); (refine gate_guard (by rfl) ?_; dsimp only); refine load1_event rfl _ _ rfl g5 12 rfl _ _ _ _ Bg5_6.out rfl Try.underlying4 rfl ?_) | ((with_reducible refine gate_dst (N := 27) rfl ?_); (refine gate_guard (by rfl) ?_; dsimp only); refine load1_event rfl _ _ rfl g5 9 rfl _ _ _ _ Bg5_6.out rfl Try.underlying3 rfl ?_) | ((with_reducible refine gate_dst (N := 35) rfl ?_); refine load1_event rfl _ _ rfl g8 5 rfl _ _ _ _ Bg8_6.out rfl Try.underlying4 rfl ?_))
  refine wp_region_rg (by kernel_rfl) (fun x y => Below x.heap.size x y) (fun (i : Nat) (v : Value) (w1 : World) => match i with | 0 => v = (.bool true) | 1 => v = (.bool false) | 2 => v = (.bool false) | 3 => v = (.pointer (some ⟨g3, 0, none⟩)) | 4 => v = (.int .i64 st) | 5 => v = (.bool false) | 6 => v = (.bool false) | 7 => v = (.bool false) | 8 => v = (.pointer (some ⟨g5, 13, none⟩)) | 9 => v = (.bool true) | 10 => v = (.bool false) | 11 => v = (.bool false) | 12 => v = (.bool false) | 13 => v = (.pointer (some ⟨g5, 0, none⟩)) | 14 => v = (.pointer (some ⟨g5, 3, none⟩)) | 15 => v = (.int .u32 ak) | 16 => v = (.pointer (some ⟨g8, 1, none⟩)) | 17 => v = (.pointer (some ⟨g8, 1, none⟩)) | 18 => v = (.pointer (some ⟨g8, 2, none⟩)) | 19 => v = (.int .u32 e1) | 20 => v = (.bool false) | 21 => v = (.bool false) | 22 => v = (.bool false) | _ => True) (by kernel_rfl) (by kernel_rfl) below_tr (Below.refl _ _).drew ?hJst (obl_list ?hObl) ?hEnd
  case hJst =>
    intro i v wx wy hi hs0 hs1 hJi
    match i, hi with
    | 0, _ => exact hJi
    | 1, _ => exact hJi
    | 2, _ => exact hJi
    | 3, _ => exact hJi
    | 4, _ => exact hJi
    | 5, _ => exact hJi
    | 6, _ => exact hJi
    | 7, _ => exact hJi
    | 8, _ => exact hJi
    | 9, _ => exact hJi
    | 10, _ => exact hJi
    | 11, _ => exact hJi
    | 12, _ => exact hJi
    | 13, _ => exact hJi
    | 14, _ => exact hJi
    | 15, _ => exact hJi
    | 16, _ => exact hJi
    | 17, _ => exact hJi
    | 18, _ => exact hJi
    | 19, _ => exact hJi
    | 20, _ => exact hJi
    | 21, _ => exact hJi
    | 22, _ => exact hJi
    | _ + 23, hi => exact absurd hi (by simp)
  case hObl =>
    refine ⟨?_, ?_, ?_, ?_, ?_, ?_, ?_, ?_, ?_, ?_, ?_, ?_, ?_, ?_, ?_, ?_, ?_, ?_, ?_, ?_, ?_, ?_, ?_,  trivial⟩
    · intro listed vals a wq K hD hst hj haft hun hK
      have h1 := hD.out 1 rfl rfl
      replace hst : Below _ _ wq := hst
      clear hD hj haft hun
      have e1 := eval_of h1
      refine step_now (v := .bool true) (w' := wq) (wanted_free rfl) ?_ (hK _ _ (Below.refl _ _) rfl)
      clear hK
      first | (go_simp; done) | (go_simp; rfl) | (go_simp; (try simp only [IntKind.wrap_u32]); omega)
    · intro listed vals a wq K hD hst hj haft hun hK
      obtain ⟨v50, h50, j50⟩ := hD.dep hj haft 0 50 rfl rfl
      replace j50 : v50 = (.bool true) := j50
      subst j50
      replace hst : Below _ _ wq := hst
      clear hD hj haft hun
      have e50 := eval_of h50
      refine step_now (v := .bool false) (w' := wq) (wanted_free rfl) ?_ (hK _ _ (Below.refl _ _) rfl)
      clear hK
      first | (go_simp; done) | (go_simp; rfl) | (go_simp; (try simp only [IntKind.wrap_u32]); omega)
    · intro listed vals a wq K hD hst hj haft hun hK
      obtain ⟨v51, h51, j51⟩ := hD.dep hj haft 1 51 rfl rfl
      replace j51 : v51 = (.bool false) := j51
      subst j51
      replace hst : Below _ _ wq := hst
      clear hD hj haft hun
      have e51 := eval_of h51
      refine step_now (v := .bool false) (w' := wq) (wanted_free rfl) ?_ (hK _ _ (Below.refl _ _) rfl)
      clear hK
      first | (go_simp; done) | (go_simp; rfl) | (go_simp; (try simp only [IntKind.wrap_u32]); omega)
    · intro listed vals a wq K hD hst hj haft hun hK
      obtain ⟨v52, h52, j52⟩ := hD.dep hj haft 2 52 rfl rfl
      replace j52 : v52 = (.bool false) := j52
      subst j52
      have h3 := hD.out 3 rfl rfl
      replace hst : Below _ _ wq := hst
      clear hD hj haft hun
      have e3 := eval_of h3
      refine step_now (v := .pointer (some ⟨g3, 0, none⟩)) (w' := wq) (wanted_on (t := 52) (u := false) rfl rfl rfl h52) ?_ (hK _ _ (Below.refl _ _) rfl)
      clear hK
      first | (go_simp; done) | (go_simp; rfl) | (go_simp; (try simp only [IntKind.wrap_u32]); omega)
    · intro listed vals a wq K hD hst hj haft hun hK
      obtain ⟨v53, h53, j53⟩ := hD.dep hj haft 3 53 rfl rfl
      replace j53 : v53 = (.pointer (some ⟨g3, 0, none⟩)) := j53
      subst j53
      obtain ⟨v52, h52, j52⟩ := hD.dep hj haft 2 52 rfl rfl
      replace j52 : v52 = (.bool false) := j52
      subst j52
      replace hst : Below _ _ wq := hst
      clear hD hj haft hun
      have e53 := eval_of h53
      exact step_now (v := .int .i64 st) (w' := wq) (wanted_on (t := 52) (u := false) rfl rfl rfl h52) (rg_load rfl e53 (blk_below Bg3_6.out hst) rfl Try.underlying3 rfl) (hK _ _ (Below.refl _ _) rfl)
    · intro listed vals a wq K hD hst hj haft hun hK
      obtain ⟨v54, h54, j54⟩ := hD.dep hj haft 4 54 rfl rfl
      replace j54 : v54 = (.int .i64 st) := j54
      subst j54
      obtain ⟨v52, h52, j52⟩ := hD.dep hj haft 2 52 rfl rfl
      replace j52 : v52 = (.bool false) := j52
      subst j52
      replace hst : Below _ _ wq := hst
      clear hD hj haft hun
      have e54 := eval_of h54
      refine step_now (v := .bool false) (w' := wq) (wanted_on (t := 52) (u := false) rfl rfl rfl h52) ?_ (hK _ _ (Below.refl _ _) rfl)
      clear hK
      first | (go_simp; done) | (go_simp; rfl) | (go_simp; (try simp only [IntKind.wrap_u32]); omega)
    · intro listed vals a wq K hD hst hj haft hun hK
      obtain ⟨v52, h52, j52⟩ := hD.dep hj haft 2 52 rfl rfl
      replace j52 : v52 = (.bool false) := j52
      subst j52
      obtain ⟨v55, h55, j55⟩ := hD.dep hj haft 5 55 rfl rfl
      replace j55 : v55 = (.bool false) := j55
      subst j55
      replace hst : Below _ _ wq := hst
      clear hD hj haft hun
      have e52 := eval_of h52
      have e55 := eval_of h55
      refine step_now (v := .bool false) (w' := wq) (wanted_free rfl) ?_ (hK _ _ (Below.refl _ _) rfl)
      clear hK
      first | (go_simp; done) | (go_simp; rfl) | (go_simp; (try simp only [IntKind.wrap_u32]); omega)
    · intro listed vals a wq K hD hst hj haft hun hK
      obtain ⟨v56, h56, j56⟩ := hD.dep hj haft 6 56 rfl rfl
      replace j56 : v56 = (.bool false) := j56
      subst j56
      replace hst : Below _ _ wq := hst
      clear hD hj haft hun
      have e56 := eval_of h56
      refine step_now (v := .bool false) (w' := wq) (wanted_free rfl) ?_ (hK _ _ (Below.refl _ _) rfl)
      clear hK
      first | (go_simp; done) | (go_simp; rfl) | (go_simp; (try simp only [IntKind.wrap_u32]); omega)
    · intro listed vals a wq K hD hst hj haft hun hK
      obtain ⟨v57, h57, j57⟩ := hD.dep hj haft 7 57 rfl rfl
      replace j57 : v57 = (.bool false) := j57
      subst j57
      have h5 := hD.out 5 rfl rfl
      replace hst : Below _ _ wq := hst
      clear hD hj haft hun
      have e5 := eval_of h5
      refine step_now (v := .pointer (some ⟨g5, 13, none⟩)) (w' := wq) (wanted_on (t := 57) (u := false) rfl rfl rfl h57) ?_ (hK _ _ (Below.refl _ _) rfl)
      clear hK
      first | (go_simp; done) | (go_simp; rfl) | (go_simp; (try simp only [IntKind.wrap_u32]); omega)
    · intro listed vals a wq K hD hst hj haft hun hK
      obtain ⟨v58, h58, j58⟩ := hD.dep hj haft 8 58 rfl rfl
      replace j58 : v58 = (.pointer (some ⟨g5, 13, none⟩)) := j58
      subst j58
      obtain ⟨v57, h57, j57⟩ := hD.dep hj haft 7 57 rfl rfl
      replace j57 : v57 = (.bool false) := j57
      subst j57
      replace hst : Below _ _ wq := hst
      clear hD hj haft hun
      have e58 := eval_of h58
      exact step_now (v := .bool true) (w' := wq) (wanted_on (t := 57) (u := false) rfl rfl rfl h57) (rg_load rfl e58 (blk_below Bg5_6.out hst) rfl Try.underlying4 rfl) (hK _ _ (Below.refl _ _) rfl)
    · intro listed vals a wq K hD hst hj haft hun hK
      obtain ⟨v59, h59, j59⟩ := hD.dep hj haft 9 59 rfl rfl
      replace j59 : v59 = (.bool true) := j59
      subst j59
      obtain ⟨v57, h57, j57⟩ := hD.dep hj haft 7 57 rfl rfl
      replace j57 : v57 = (.bool false) := j57
      subst j57
      replace hst : Below _ _ wq := hst
      clear hD hj haft hun
      have e59 := eval_of h59
      refine step_now (v := .bool false) (w' := wq) (wanted_on (t := 57) (u := false) rfl rfl rfl h57) ?_ (hK _ _ (Below.refl _ _) rfl)
      clear hK
      first | (go_simp; done) | (go_simp; rfl) | (go_simp; (try simp only [IntKind.wrap_u32]); omega)
    · intro listed vals a wq K hD hst hj haft hun hK
      obtain ⟨v57, h57, j57⟩ := hD.dep hj haft 7 57 rfl rfl
      replace j57 : v57 = (.bool false) := j57
      subst j57
      obtain ⟨v60, h60, j60⟩ := hD.dep hj haft 10 60 rfl rfl
      replace j60 : v60 = (.bool false) := j60
      subst j60
      replace hst : Below _ _ wq := hst
      clear hD hj haft hun
      have e57 := eval_of h57
      have e60 := eval_of h60
      refine step_now (v := .bool false) (w' := wq) (wanted_free rfl) ?_ (hK _ _ (Below.refl _ _) rfl)
      clear hK
      first | (go_simp; done) | (go_simp; rfl) | (go_simp; (try simp only [IntKind.wrap_u32]); omega)
    · intro listed vals a wq K hD hst hj haft hun hK
      obtain ⟨v61, h61, j61⟩ := hD.dep hj haft 11 61 rfl rfl
      replace j61 : v61 = (.bool false) := j61
      subst j61
      replace hst : Below _ _ wq := hst
      clear hD hj haft hun
      have e61 := eval_of h61
      refine step_now (v := .bool false) (w' := wq) (wanted_free rfl) ?_ (hK _ _ (Below.refl _ _) rfl)
      clear hK
      first | (go_simp; done) | (go_simp; rfl) | (go_simp; (try simp only [IntKind.wrap_u32]); omega)
    · intro listed vals a wq K hD hst hj haft hun hK
      obtain ⟨v62, h62, j62⟩ := hD.dep hj haft 12 62 rfl rfl
      replace j62 : v62 = (.bool false) := j62
      subst j62
      have h5 := hD.out 5 rfl rfl
      replace hst : Below _ _ wq := hst
      clear hD hj haft hun
      have e5 := eval_of h5
      refine step_now (v := .pointer (some ⟨g5, 0, none⟩)) (w' := wq) (wanted_on (t := 62) (u := false) rfl rfl rfl h62) ?_ (hK _ _ (Below.refl _ _) rfl)
      clear hK
      first | (go_simp; done) | (go_simp; rfl) | (go_simp; (try simp only [IntKind.wrap_u32]); omega)
    · intro listed vals a wq K hD hst hj haft hun hK
      obtain ⟨v63, h63, j63⟩ := hD.dep hj haft 13 63 rfl rfl
      replace j63 : v63 = (.pointer (some ⟨g5, 0, none⟩)) := j63
      subst j63
      obtain ⟨v62, h62, j62⟩ := hD.dep hj haft 12 62 rfl rfl
      replace j62 : v62 = (.bool false) := j62
      subst j62
      replace hst : Below _ _ wq := hst
      clear hD hj haft hun
      have e63 := eval_of h63
      refine step_now (v := .pointer (some ⟨g5, 3, none⟩)) (w' := wq) (wanted_on (t := 62) (u := false) rfl rfl rfl h62) ?_ (hK _ _ (Below.refl _ _) rfl)
      clear hK
      first | (go_simp; done) | (go_simp; rfl) | (go_simp; (try simp only [IntKind.wrap_u32]); omega)
    · intro listed vals a wq K hD hst hj haft hun hK
      obtain ⟨v64, h64, j64⟩ := hD.dep hj haft 14 64 rfl rfl
      replace j64 : v64 = (.pointer (some ⟨g5, 3, none⟩)) := j64
      subst j64
      obtain ⟨v62, h62, j62⟩ := hD.dep hj haft 12 62 rfl rfl
      replace j62 : v62 = (.bool false) := j62
      subst j62
      replace hst : Below _ _ wq := hst
      clear hD hj haft hun
      have e64 := eval_of h64
      exact step_now (v := .int .u32 ak) (w' := wq) (wanted_on (t := 62) (u := false) rfl rfl rfl h62) (rg_load rfl e64 (blk_below Bg5_6.out hst) rfl Try.underlying33 rfl) (hK _ _ (Below.refl _ _) rfl)
    · intro listed vals a wq K hD hst hj haft hun hK
      obtain ⟨v62, h62, j62⟩ := hD.dep hj haft 12 62 rfl rfl
      replace j62 : v62 = (.bool false) := j62
      subst j62
      have h10 := hD.out 10 rfl rfl
      replace hst : Below _ _ wq := hst
      clear hD hj haft hun
      have e10 := eval_of h10
      refine step_now (v := .pointer (some ⟨g8, 1, none⟩)) (w' := wq) (wanted_on (t := 62) (u := false) rfl rfl rfl h62) ?_ (hK _ _ (Below.refl _ _) rfl)
      clear hK
      first | (go_simp; done) | (go_simp; rfl) | (go_simp; (try simp only [IntKind.wrap_u32]); omega)
    · intro listed vals a wq K hD hst hj haft hun hK
      obtain ⟨v66, h66, j66⟩ := hD.dep hj haft 16 66 rfl rfl
      replace j66 : v66 = (.pointer (some ⟨g8, 1, none⟩)) := j66
      subst j66
      obtain ⟨v62, h62, j62⟩ := hD.dep hj haft 12 62 rfl rfl
      replace j62 : v62 = (.bool false) := j62
      subst j62
      replace hst : Below _ _ wq := hst
      clear hD hj haft hun
      have e66 := eval_of h66
      refine step_now (v := .pointer (some ⟨g8, 1, none⟩)) (w' := wq) (wanted_on (t := 62) (u := false) rfl rfl rfl h62) ?_ (hK _ _ (Below.refl _ _) rfl)
      clear hK
      first | (go_simp; done) | (go_simp; rfl) | (go_simp; (try simp only [IntKind.wrap_u32]); omega)
    · intro listed vals a wq K hD hst hj haft hun hK
      obtain ⟨v67, h67, j67⟩ := hD.dep hj haft 17 67 rfl rfl
      replace j67 : v67 = (.pointer (some ⟨g8, 1, none⟩)) := j67
      subst j67
      obtain ⟨v62, h62, j62⟩ := hD.dep hj haft 12 62 rfl rfl
      replace j62 : v62 = (.bool false) := j62
      subst j62
      replace hst : Below _ _ wq := hst
      clear hD hj haft hun
      have e67 := eval_of h67
      refine step_now (v := .pointer (some ⟨g8, 2, none⟩)) (w' := wq) (wanted_on (t := 62) (u := false) rfl rfl rfl h62) ?_ (hK _ _ (Below.refl _ _) rfl)
      clear hK
      first | (go_simp; done) | (go_simp; rfl) | (go_simp; (try simp only [IntKind.wrap_u32]); omega)
    · intro listed vals a wq K hD hst hj haft hun hK
      obtain ⟨v68, h68, j68⟩ := hD.dep hj haft 18 68 rfl rfl
      replace j68 : v68 = (.pointer (some ⟨g8, 2, none⟩)) := j68
      subst j68
      obtain ⟨v62, h62, j62⟩ := hD.dep hj haft 12 62 rfl rfl
      replace j62 : v62 = (.bool false) := j62
      subst j62
      replace hst : Below _ _ wq := hst
      clear hD hj haft hun
      have e68 := eval_of h68
      exact step_now (v := .int .u32 e1) (w' := wq) (wanted_on (t := 62) (u := false) rfl rfl rfl h62) (rg_load rfl e68 (blk_below Bg8_6.out hst) rfl Try.underlying33 rfl) (hK _ _ (Below.refl _ _) rfl)
    · intro listed vals a wq K hD hst hj haft hun hK
      obtain ⟨v65, h65, j65⟩ := hD.dep hj haft 15 65 rfl rfl
      replace j65 : v65 = (.int .u32 ak) := j65
      subst j65
      obtain ⟨v69, h69, j69⟩ := hD.dep hj haft 19 69 rfl rfl
      replace j69 : v69 = (.int .u32 e1) := j69
      subst j69
      obtain ⟨v62, h62, j62⟩ := hD.dep hj haft 12 62 rfl rfl
      replace j62 : v62 = (.bool false) := j62
      subst j62
      replace hst : Below _ _ wq := hst
      clear hD hj haft hun
      have e65 := eval_of h65
      have e69 := eval_of h69
      refine step_now (v := .bool false) (w' := wq) (wanted_on (t := 62) (u := false) rfl rfl rfl h62) ?_ (hK _ _ (Below.refl _ _) rfl)
      clear hK
      first | (go_simp; done) | (go_simp; rfl) | (go_simp; (try simp only [IntKind.wrap_u32]); omega)
    · intro listed vals a wq K hD hst hj haft hun hK
      obtain ⟨v62, h62, j62⟩ := hD.dep hj haft 12 62 rfl rfl
      replace j62 : v62 = (.bool false) := j62
      subst j62
      obtain ⟨v70, h70, j70⟩ := hD.dep hj haft 20 70 rfl rfl
      replace j70 : v70 = (.bool false) := j70
      subst j70
      replace hst : Below _ _ wq := hst
      clear hD hj haft hun
      have e62 := eval_of h62
      have e70 := eval_of h70
      refine step_now (v := .bool false) (w' := wq) (wanted_free rfl) ?_ (hK _ _ (Below.refl _ _) rfl)
      clear hK
      first | (go_simp; done) | (go_simp; rfl) | (go_simp; (try simp only [IntKind.wrap_u32]); omega)
    · intro listed vals a wq K hD hst hj haft hun hK
      obtain ⟨v71, h71, j71⟩ := hD.dep hj haft 21 71 rfl rfl
      replace j71 : v71 = (.bool false) := j71
      subst j71
      replace hst : Below _ _ wq := hst
      clear hD hj haft hun
      have e71 := eval_of h71
      refine step_now (v := .bool false) (w' := wq) (wanted_free rfl) ?_ (hK _ _ (Below.refl _ _) rfl)
      clear hK
      first | (go_simp; done) | (go_simp; rfl) | (go_simp; (try simp only [IntKind.wrap_u32]); omega)
  case hEnd =>
    intro vals wend hst hj
    have j0 : vals 0 = (.bool true) := hj 0 (by decide)
    have j1 : vals 1 = (.bool false) := hj 1 (by decide)
    have j2 : vals 2 = (.bool false) := hj 2 (by decide)
    have j3 : vals 3 = (.pointer (some ⟨g3, 0, none⟩)) := hj 3 (by decide)
    have j4 : vals 4 = (.int .i64 st) := hj 4 (by decide)
    have j5 : vals 5 = (.bool false) := hj 5 (by decide)
    have j6 : vals 6 = (.bool false) := hj 6 (by decide)
    have j7 : vals 7 = (.bool false) := hj 7 (by decide)
    have j8 : vals 8 = (.pointer (some ⟨g5, 13, none⟩)) := hj 8 (by decide)
    have j9 : vals 9 = (.bool true) := hj 9 (by decide)
    have j10 : vals 10 = (.bool false) := hj 10 (by decide)
    have j11 : vals 11 = (.bool false) := hj 11 (by decide)
    have j12 : vals 12 = (.bool false) := hj 12 (by decide)
    have j13 : vals 13 = (.pointer (some ⟨g5, 0, none⟩)) := hj 13 (by decide)
    have j14 : vals 14 = (.pointer (some ⟨g5, 3, none⟩)) := hj 14 (by decide)
    have j15 : vals 15 = (.int .u32 ak) := hj 15 (by decide)
    have j16 : vals 16 = (.pointer (some ⟨g8, 1, none⟩)) := hj 16 (by decide)
    have j17 : vals 17 = (.pointer (some ⟨g8, 1, none⟩)) := hj 17 (by decide)
    have j18 : vals 18 = (.pointer (some ⟨g8, 2, none⟩)) := hj 18 (by decide)
    have j19 : vals 19 = (.int .u32 e1) := hj 19 (by decide)
    have j20 : vals 20 = (.bool false) := hj 20 (by decide)
    have j21 : vals 21 = (.bool false) := hj 21 (by decide)
    have j22 : vals 22 = (.bool false) := hj 22 (by decide)
    replace hst : Below _ _ wend := hst
    clear hj
    rw [putAll_list]
    simp only [putL, Act.put, List.setIfInBounds_toArray, List.set_cons_zero, List.set_cons_succ, j0, j1, j2, j3, j4, j5, j6, j7, j8, j9, j10, j11, j12, j13, j14, j15, j16, j17, j18, j19, j20, j21, j22]
    clear j0 j1 j2 j3 j4 j5 j6 j7 j8 j9 j10 j11 j12 j13 j14 j15 j16 j17 j18 j19 j20 j21 j22
    have HB_7 := Aside0.mk (below_step HB_6.out hst)
    clear HB_6
    have Bg3_7 := Aside0.mk (blk_below Bg3_6.out hst)
    clear Bg3_6
    have Bg5_7 := Aside0.mk (blk_below Bg5_6.out hst)
    clear Bg5_6
    have Bg6_7 := Aside0.mk (blk_below Bg6_6.out hst)
    clear Bg6_6
    have Bg8_7 := Aside0.mk (blk_below Bg8_6.out hst)
    clear Bg8_6
    clear hst
    go_wp2_with (first | ((with_reducible refine gate_dst (N := 74) rfl ?_); refine load_event rfl 95 _ rfl g5 rfl _ _ _ Bg5_7.out Try.underlying95 rfl (by kernel_rfl) ?_) | (go_at_call 50; refine (begun_any sp dp sq ak fl wi ty co he da sy false false true en _).mono ?_; rintro e wx8 ⟨rfl, hb⟩; have HB_8 := Aside0.mk (below_step HB_7.out hb); clear HB_7; have Bg3_8 := Aside0.mk (blk_below Bg3_7.out hb); clear Bg3_7; have Bg5_8 := Aside0.mk (blk_below Bg5_7.out hb); clear Bg5_7; have Bg6_8 := Aside0.mk (blk_below Bg6_7.out hb); clear Bg6_7; have Bg8_8 := Aside0.mk (blk_below Bg8_7.out hb); clear Bg8_7; clear hb) | ((with_reducible refine gate_store (t := 39) (p := 76) rfl ?_); refine storemid_event rfl 39 _ _ rfl g8 5 rfl #[.bool true, .int .u32 en, .int .u32 ((en + wi) % 4294967296), .bool false] rfl _ _ #[.int .i64 st, .bool s1, .int .u32 e1, .int .u32 m1, .bool f1, .bool true, .int .u32 en, .int .u32 ((en + wi) % 4294967296), .bool false] Bg8_8.out rfl (by kernel_rfl) rfl rfl ?_; intro wx9 hst hu; have HB_9 := Aside0.mk (below_upd HB_8.out hu (below_size HB_8.out) (fun k hk => by cases hk; exact Lg8.out)); clear HB_8; have Bg3_9 := Aside0.mk (Upd.blk hu Bg3_8.out (One.not Ng3g8.out)); clear Bg3_8; have Bg5_9 := Aside0.mk (Upd.blk hu Bg5_8.out (One.not Ng5g8.out)); clear Bg5_8; have Bg6_9 := Aside0.mk (Upd.blk hu Bg6_8.out (One.not Ng6g8.out)); clear Bg6_8; have Bg8_9 := Aside0.mk hst; clear hst hu Bg8_8) | ((with_reducible refine gate_dst (N := 78) rfl ?_); refine load_event rfl 95 _ rfl g5 rfl _ _ _ Bg5_9.out Try.underlying95 rfl (by kernel_rfl) ?_) | (go_at_call 44; refine (grants_any g8 1 #[.int .i64 st, .bool s1, .int .u32 e1, .int .u32 m1, .bool f1, .bool true, .int .u32 en, .int .u32 ((en + wi) % 4294967296), .bool false] m1 sp dp sq ak fl wi ty co he da s1 sy false false true en _ Bg8_9.out rfl rfl).mono ?_; rintro e wx10 ⟨rfl, hst, hu⟩; have HB_10 := Aside0.mk (below_upd HB_9.out hu (below_size HB_9.out) (fun k hk => by cases hk; exact Lg8.out)); clear HB_9; have Bg3_10 := Aside0.mk (Upd.blk hu Bg3_9.out (One.not Ng3g8.out)); clear Bg3_9; have Bg5_10 := Aside0.mk (Upd.blk hu Bg5_9.out (One.not Ng5g8.out)); clear Bg5_9; have Bg6_10 := Aside0.mk (Upd.blk hu Bg6_9.out (One.not Ng6g8.out)); clear Bg6_9; have Bg8_10 := Aside0.mk (show wx10.heap[g8]? = some (.cells #[.int .i64 st, .bool s1, .int .u32 e1, .int .u32 (grant s1 true m1 ak wi), .bool f1, .bool true, .int .u32 en, .int .u32 ((en + wi) % 4294967296), .bool false] 41 (0, 0)) from hst); clear hst hu Bg8_9) | ((with_reducible refine gate_store (t := 3) (p := 80) rfl ?_); refine store1_event rfl _ _ _ rfl g8 0 rfl (.int .i64 2) _ ?hy _ _ #[.int .i64 2, .bool s1, .int .u32 e1, .int .u32 (grant s1 true m1 ak wi), .bool f1, .bool true, .int .u32 en, .int .u32 ((en + wi) % 4294967296), .bool false] Bg8_10.out rfl (by kernel_rfl) rfl rfl rfl ?_; (case hy => first | (with_reducible rfl) | rfl | (refine congrArg (Value.int _) ?_; omega)); intro wx11 hst hu; have HB_11 := Aside0.mk (below_upd HB_10.out hu (below_size HB_10.out) (fun k hk => by cases hk; exact Lg8.out)); clear HB_10; have Bg3_11 := Aside0.mk (Upd.blk hu Bg3_10.out (One.not Ng3g8.out)); clear Bg3_10; have Bg5_11 := Aside0.mk (Upd.blk hu Bg5_10.out (One.not Ng5g8.out)); clear Bg5_10; have Bg6_11 := Aside0.mk (Upd.blk hu Bg6_10.out (One.not Ng6g8.out)); clear Bg6_10; have Bg8_11 := Aside0.mk hst; clear hst hu Bg8_10) | ((with_reducible refine gate_dst (N := 81) rfl ?_); refine load_event rfl 41 _ rfl g8 rfl _ _ _ Bg8_11.out Try.underlying41 rfl (by kernel_rfl) ?_) | ((with_reducible refine gate_store (t := 41) (p := 6) rfl ?_); refine store_event rfl 41 _ _ rfl g6 _ rfl rfl _ _ Bg6_11.out (by kernel_rfl) rfl rfl ?_; intro wx12 hst hu; have HB_12 := Aside0.mk (below_upd HB_11.out hu (below_size HB_11.out) (fun k hk => by cases hk; exact Lg6.out)); clear HB_11; have Bg3_12 := Aside0.mk (Upd.blk hu Bg3_11.out (One.not Ng3g6.out)); clear Bg3_11; have Bg5_12 := Aside0.mk (Upd.blk hu Bg5_11.out (One.not Ng5g6.out)); clear Bg5_11; have Bg8_12 := Aside0.mk (Upd.blk hu Bg8_11.out (One.not (Ne.symm Ng6g8.out))); clear Bg8_11; have Bg6_12 := Aside0.mk hst; clear hst hu Bg6_11))
    exact bodyPost_ret (results_ct rfl _ _ g6 41 #[.int .i64 2, .bool s1, .int .u32 e1, .int .u32 (grant s1 true m1 ak wi), .bool f1, .bool true, .int .u32 en, .int .u32 ((en + wi) % 4294967296), .bool false] (0, 0) _ rfl Bg6_12.out Try.underlying41 rfl (by kernel_rfl)) rfl ⟨rfl, HB_12.out⟩
set_option maxRecDepth 100000 in
set_option maxHeartbeats 4000000 in
theorem sy_f_fin (st e1 m1 e2 m2 : Int) (s1 f1 s2 f2 : Bool) (sp dp sq ak fl wi ty co he da en : Int) (sy rs ac : Bool) (w : World)  : Calls Try.prog 42 #[.agg #[.int .i64 st, .bool s1, .int .u32 e1, .int .u32 m1, .bool f1, .bool s2, .int .u32 e2, .int .u32 m2, .bool f2], .bool false, .agg #[.int .i64 sp, .int .i64 dp, .int .u32 sq, .int .u32 ak, .int .i64 fl, .int .i64 wi, .int .i64 ty, .int .i64 co, .int .i64 he, .int .i64 da, .bool sy, .bool true, .bool rs, .bool ac, .int .u32 en]] w fun e w' => e = .returned (.tuple #[.agg #[.int .i64 st, .bool s1, .int .u32 e1, .int .u32 m1, .bool f1, .bool s2, .int .u32 e2, .int .u32 m2, .bool f2], .bool false]) ∧ Below w.heap.size w w' := by
  go_enter Try.func42, Try.ntmps42
  go_wp2_with (first | ((with_reducible refine gate_dst (N := 3) rfl ?_); refine box_event ?hg (N := 3) ?hd (cs := #[.int .i64 st, .bool s1, .int .u32 e1, .int .u32 m1, .bool f1, .bool s2, .int .u32 e2, .int .u32 m2, .bool f2]) (t := 41) ?hr ?_; (case hd => rfl); (case hg => rfl); (case hr => first | (go_simp; done) | (go_simp; rfl)); intro g3 hgg wx1 hbox hb; have Lg3 := Aside0.mk (show w.heap.size ≤ g3 by rw [hgg]; exact Nat.le_refl _); have HB_1 := Aside0.mk (hb); have Bg3_1 := Aside0.mk hbox; clear hbox hb hgg) | ((with_reducible refine gate_dst (N := 5) rfl ?_); refine box_event ?hg (N := 5) ?hd (cs := #[.int .i64 sp, .int .i64 dp, .int .u32 sq, .int .u32 ak, .int .i64 fl, .int .i64 wi, .int .i64 ty, .int .i64 co, .int .i64 he, .int .i64 da, .bool sy, .bool true, .bool rs, .bool ac, .int .u32 en]) (t := 95) ?hr ?_; (case hd => rfl); (case hg => rfl); (case hr => first | (go_simp; done) | (go_simp; rfl)); intro g5 hgg wx2 hbox hb; have Ng3g5 := Aside0.mk (show g3 ≠ g5 by rw [hgg]; exact Nat.ne_of_lt (blk_lt Bg3_1.out)); have Lg5 := Aside0.mk (show w.heap.size ≤ g5 by rw [hgg]; exact below_size HB_1.out); have HB_2 := Aside0.mk (below_step HB_1.out hb); clear HB_1; have Bg3_2 := Aside0.mk (blk_below Bg3_1.out hb); clear Bg3_1; have Bg5_2 := Aside0.mk hbox; clear hbox hb hgg) | ((with_reducible refine gate_dst (N := 6) rfl ?_); refine box_event ?hg (N := 6) ?hd (cs := #[.int .i64 0, .bool false, .int .u32 0, .int .u32 0, .bool false, .bool false, .int .u32 0, .int .u32 0, .bool false]) (t := 41) ?hr ?_; (case hd => rfl); (case hg => rfl); (case hr => first | (go_simp; done) | (go_simp; rfl)); intro g6 hgg wx3 hbox hb; have Ng3g6 := Aside0.mk (show g3 ≠ g6 by rw [hgg]; exact Nat.ne_of_lt (blk_lt Bg3_2.out)); have Ng5g6 := Aside0.mk (show g5 ≠ g6 by rw [hgg]; exact Nat.ne_of_lt (blk_lt Bg5_2.out)); have Lg6 := Aside0.mk (show w.heap.size ≤ g6 by rw [hgg]; exact below_size HB_2.out); have HB_3 := Aside0.mk (below_step HB_2.out hb); clear HB_2; have Bg3_3 := Aside0.mk (blk_below Bg3_2.out hb); clear Bg3_2; have Bg5_3 := Aside0.mk (blk_below Bg5_2.out hb); clear Bg5_2; have Bg6_3 := Aside0.mk hbox; clear hbox hb hgg) | ((with_reducible refine gate_dst (N := 11) rfl ?_); refine load_event rfl 41 _ rfl g3 rfl _ _ _ Bg3_3.out Try.underlying41 rfl (by kernel_rfl) ?_) | ((with_reducible refine gate_dst (N := 8) rfl ?_); refine box_event ?hg (N := 8) ?hd (cs := #[.int .i64 0, .bool false, .int .u32 0, .int .u32 0, .bool false, .bool false, .int .u32 0, .int .u32 0, .bool false]) (t := 41) ?hr ?_; (case hd => rfl); (case hg => rfl); (case hr => first | (go_simp; done) | (go_simp; rfl)); intro g8 hgg wx4 hbox hb; have Ng3g8 := Aside0.mk (show g3 ≠ g8 by rw [hgg]; exact Nat.ne_of_lt (blk_lt Bg3_3.out)); have Ng5g8 := Aside0.mk (show g5 ≠ g8 by rw [hgg]; exact Nat.ne_of_lt (blk_lt Bg5_3.out)); have Ng6g8 := Aside0.mk (show g6 ≠ g8 by rw [hgg]; exact Nat.ne_of_lt (blk_lt Bg6_3.out)); have Lg8 := Aside0.mk (show w.heap.size ≤ g8 by rw [hgg]; exact below_size HB_3.out); have HB_4 := Aside0.mk (below_step HB_3.out hb); clear HB_3; have Bg3_4 := Aside0.mk (blk_below Bg3_3.out hb); clear Bg3_3; have Bg5_4 := Aside0.mk (blk_below Bg5_3.out hb); clear Bg5_3; have Bg6_4 := Aside0.mk (blk_below Bg6_3.out hb); clear Bg6_3; have Bg8_4 := Aside0.mk hbox; clear hbox hb hgg) | ((with_reducible refine gate_store (t := 41) (p := 8) rfl ?_); refine store_event rfl 41 _ _ rfl g8 _ rfl rfl _ _ Bg8_4.out (by kernel_rfl) rfl rfl ?_; intro wx5 hst hu; have HB_5 := Aside0.mk (below_upd HB_4.out hu (below_size HB_4.out) (fun k hk => by cases hk; exact Lg8.out)); clear HB_4; have Bg3_5 := Aside0.mk (Upd.blk hu Bg3_4.out (One.not Ng3g8.out)); clear Bg3_4; have Bg5_5 := Aside0.mk (Upd.blk hu Bg5_4.out (One.not Ng5g8.out)); clear Bg5_4; have Bg6_5 := Aside0.mk (Upd.blk hu Bg6_4.out (One.not Ng6g8.out)); clear Bg6_4; have Bg8_5 := Aside0.mk hst; clear hst hu Bg8_4) | (go_at_call 40; refine (sides_f g8 _).mono ?_; rintro e wx6 ⟨rfl, hb⟩; have HB_6 := Aside0.mk (below_step HB_5.out hb); clear HB_5; have Bg3_6 := Aside0.mk (blk_below Bg3_5.out hb); clear Bg3_5; have Bg5_6 := Aside0.mk (blk_below Bg5_5.out hb); clear Bg5_5; have Bg6_6 := Aside0.mk (blk_below Bg6_5.out hb); clear Bg6_5; have Bg8_6 := Aside0.mk (blk_below Bg8_5.out hb); clear Bg8_5; clear hb) | ((with_reducible refine gate_dst (N := 19) rfl ?_); refine load1_event rfl _ _ rfl g5 11 rfl _ _ _ _ Bg5_6.out rfl Try.underlying4 rfl ?_) | ((with_reducible refine gate_dst (N := 30) rfl ?_); refine load_event rfl 41 _ rfl g3 rfl _ _ _ Bg3_6.out Try.underlying41 rfl (by kernel_rfl) ?_) | ((with_reducible refine gate_store (t := 41) (p := 6) rfl ?_); refine store_event rfl 41 _ _ rfl g6 _ rfl rfl _ _ Bg6_6.out (by kernel_rfl) rfl rfl ?_; intro wx7 hst hu; have HB_7 := Aside0.mk (below_upd HB_6.out hu (below_size HB_6.out) (fun k hk => by cases hk; exact Lg6.out)); clear HB_6; have Bg3_7 := Aside0.mk (Upd.blk hu Bg3_6.out (One.not Ng3g6.out)); clear Bg3_6; have Bg5_7 := Aside0.mk (Upd.blk hu Bg5_6.out (One.not Ng5g6.out)); clear Bg5_6; have Bg8_7 := Aside0.mk (Upd.blk hu Bg8_6.out (One.not (Ne.symm Ng6g8.out))); clear Bg8_6; have Bg6_7 := Aside0.mk hst; clear hst hu Bg6_6))
  exact bodyPost_ret (results_ct rfl _ _ g6 41 #[.int .i64 st, .bool s1, .int .u32 e1, .int .u32 m1, .bool f1, .bool s2, .int .u32 e2, .int .u32 m2, .bool f2] (0, 0) _ rfl Bg6_7.out Try.underlying41 rfl (by kernel_rfl)) rfl ⟨rfl, HB_7.out⟩
set_option maxRecDepth 100000 in
set_option maxHeartbeats 4000000 in
theorem sy_f_rst (st e1 m1 e2 m2 : Int) (s1 f1 s2 f2 : Bool) (sp dp sq ak fl wi ty co he da en : Int) (sy ac : Bool) (w : World)  : Calls Try.prog 42 #[.agg #[.int .i64 st, .bool s1, .int .u32 e1, .int .u32 m1, .bool f1, .bool s2, .int .u32 e2, .int .u32 m2, .bool f2], .bool false, .agg #[.int .i64 sp, .int .i64 dp, .int .u32 sq, .int .u32 ak, .int .i64 fl, .int .i64 wi, .int .i64 ty, .int .i64 co, .int .i64 he, .int .i64 da, .bool sy, .bool false, .bool true, .bool ac, .int .u32 en]] w fun e w' => e = .returned (.tuple #[.agg #[.int .i64 st, .bool s1, .int .u32 e1, .int .u32 m1, .bool f1, .bool s2, .int .u32 e2, .int .u32 m2, .bool f2], .bool false]) ∧ Below w.heap.size w w' := by
  go_enter Try.func42, Try.ntmps42
  go_wp2_with (first | ((with_reducible refine gate_dst (N := 3) rfl ?_); refine box_event ?hg (N := 3) ?hd (cs := #[.int .i64 st, .bool s1, .int .u32 e1, .int .u32 m1, .bool f1, .bool s2, .int .u32 e2, .int .u32 m2, .bool f2]) (t := 41) ?hr ?_; (case hd => rfl); (case hg => rfl); (case hr => first | (go_simp; done) | (go_simp; rfl)); intro g3 hgg wx1 hbox hb; have Lg3 := Aside0.mk (show w.heap.size ≤ g3 by rw [hgg]; exact Nat.le_refl _); have HB_1 := Aside0.mk (hb); have Bg3_1 := Aside0.mk hbox; clear hbox hb hgg) | ((with_reducible refine gate_dst (N := 5) rfl ?_); refine box_event ?hg (N := 5) ?hd (cs := #[.int .i64 sp, .int .i64 dp, .int .u32 sq, .int .u32 ak, .int .i64 fl, .int .i64 wi, .int .i64 ty, .int .i64 co, .int .i64 he, .int .i64 da, .bool sy, .bool false, .bool true, .bool ac, .int .u32 en]) (t := 95) ?hr ?_; (case hd => rfl); (case hg => rfl); (case hr => first | (go_simp; done) | (go_simp; rfl)); intro g5 hgg wx2 hbox hb; have Ng3g5 := Aside0.mk (show g3 ≠ g5 by rw [hgg]; exact Nat.ne_of_lt (blk_lt Bg3_1.out)); have Lg5 := Aside0.mk (show w.heap.size ≤ g5 by rw [hgg]; exact below_size HB_1.out); have HB_2 := Aside0.mk (below_step HB_1.out hb); clear HB_1; have Bg3_2 := Aside0.mk (blk_below Bg3_1.out hb); clear Bg3_1; have Bg5_2 := Aside0.mk hbox; clear hbox hb hgg) | ((with_reducible refine gate_dst (N := 6) rfl ?_); refine box_event ?hg (N := 6) ?hd (cs := #[.int .i64 0, .bool false, .int .u32 0, .int .u32 0, .bool false, .bool false, .int .u32 0, .int .u32 0, .bool false]) (t := 41) ?hr ?_; (case hd => rfl); (case hg => rfl); (case hr => first | (go_simp; done) | (go_simp; rfl)); intro g6 hgg wx3 hbox hb; have Ng3g6 := Aside0.mk (show g3 ≠ g6 by rw [hgg]; exact Nat.ne_of_lt (blk_lt Bg3_2.out)); have Ng5g6 := Aside0.mk (show g5 ≠ g6 by rw [hgg]; exact Nat.ne_of_lt (blk_lt Bg5_2.out)); have Lg6 := Aside0.mk (show w.heap.size ≤ g6 by rw [hgg]; exact below_size HB_2.out); have HB_3 := Aside0.mk (below_step HB_2.out hb); clear HB_2; have Bg3_3 := Aside0.mk (blk_below Bg3_2.out hb); clear Bg3_2; have Bg5_3 := Aside0.mk (blk_below Bg5_2.out hb); clear Bg5_2; have Bg6_3 := Aside0.mk hbox; clear hbox hb hgg) | ((with_reducible refine gate_dst (N := 11) rfl ?_); refine load_event rfl 41 _ rfl g3 rfl _ _ _ Bg3_3.out Try.underlying41 rfl (by kernel_rfl) ?_) | ((with_reducible refine gate_dst (N := 8) rfl ?_); refine box_event ?hg (N := 8) ?hd (cs := #[.int .i64 0, .bool false, .int .u32 0, .int .u32 0, .bool false, .bool false, .int .u32 0, .int .u32 0, .bool false]) (t := 41) ?hr ?_; (case hd => rfl); (case hg => rfl); (case hr => first | (go_simp; done) | (go_simp; rfl)); intro g8 hgg wx4 hbox hb; have Ng3g8 := Aside0.mk (show g3 ≠ g8 by rw [hgg]; exact Nat.ne_of_lt (blk_lt Bg3_3.out)); have Ng5g8 := Aside0.mk (show g5 ≠ g8 by rw [hgg]; exact Nat.ne_of_lt (blk_lt Bg5_3.out)); have Ng6g8 := Aside0.mk (show g6 ≠ g8 by rw [hgg]; exact Nat.ne_of_lt (blk_lt Bg6_3.out)); have Lg8 := Aside0.mk (show w.heap.size ≤ g8 by rw [hgg]; exact below_size HB_3.out); have HB_4 := Aside0.mk (below_step HB_3.out hb); clear HB_3; have Bg3_4 := Aside0.mk (blk_below Bg3_3.out hb); clear Bg3_3; have Bg5_4 := Aside0.mk (blk_below Bg5_3.out hb); clear Bg5_3; have Bg6_4 := Aside0.mk (blk_below Bg6_3.out hb); clear Bg6_3; have Bg8_4 := Aside0.mk hbox; clear hbox hb hgg) | ((with_reducible refine gate_store (t := 41) (p := 8) rfl ?_); refine store_event rfl 41 _ _ rfl g8 _ rfl rfl _ _ Bg8_4.out (by kernel_rfl) rfl rfl ?_; intro wx5 hst hu; have HB_5 := Aside0.mk (below_upd HB_4.out hu (below_size HB_4.out) (fun k hk => by cases hk; exact Lg8.out)); clear HB_4; have Bg3_5 := Aside0.mk (Upd.blk hu Bg3_4.out (One.not Ng3g8.out)); clear Bg3_4; have Bg5_5 := Aside0.mk (Upd.blk hu Bg5_4.out (One.not Ng5g8.out)); clear Bg5_4; have Bg6_5 := Aside0.mk (Upd.blk hu Bg6_4.out (One.not Ng6g8.out)); clear Bg6_4; have Bg8_5 := Aside0.mk hst; clear hst hu Bg8_4) | (go_at_call 40; refine (sides_f g8 _).mono ?_; rintro e wx6 ⟨rfl, hb⟩; have HB_6 := Aside0.mk (below_step HB_5.out hb); clear HB_5; have Bg3_6 := Aside0.mk (blk_below Bg3_5.out hb); clear Bg3_5; have Bg5_6 := Aside0.mk (blk_below Bg5_5.out hb); clear Bg5_5; have Bg6_6 := Aside0.mk (blk_below Bg6_5.out hb); clear Bg6_5; have Bg8_6 := Aside0.mk (blk_below Bg8_5.out hb); clear Bg8_5; clear hb) | ((with_reducible refine gate_dst (N := 19) rfl ?_); refine load1_event rfl _ _ rfl g5 11 rfl _ _ _ _ Bg5_6.out rfl Try.underlying4 rfl ?_) | ((with_reducible refine gate_dst (N := 22) rfl ?_); (refine gate_guard (by rfl) ?_; dsimp only); refine load1_event rfl _ _ rfl g5 12 rfl _ _ _ _ Bg5_6.out rfl Try.underlying4 rfl ?_) | ((with_reducible refine gate_dst (N := 30) rfl ?_); refine load_event rfl 41 _ rfl g3 rfl _ _ _ Bg3_6.out Try.underlying41 rfl (by kernel_rfl) ?_) | ((with_reducible refine gate_store (t := 41) (p := 6) rfl ?_); refine store_event rfl 41 _ _ rfl g6 _ rfl rfl _ _ Bg6_6.out (by kernel_rfl) rfl rfl ?_; intro wx7 hst hu; have HB_7 := Aside0.mk (below_upd HB_6.out hu (below_size HB_6.out) (fun k hk => by cases hk; exact Lg6.out)); clear HB_6; have Bg3_7 := Aside0.mk (Upd.blk hu Bg3_6.out (One.not Ng3g6.out)); clear Bg3_6; have Bg5_7 := Aside0.mk (Upd.blk hu Bg5_6.out (One.not Ng5g6.out)); clear Bg5_6; have Bg8_7 := Aside0.mk (Upd.blk hu Bg8_6.out (One.not (Ne.symm Ng6g8.out))); clear Bg8_6; have Bg6_7 := Aside0.mk hst; clear hst hu Bg6_6))
  exact bodyPost_ret (results_ct rfl _ _ g6 41 #[.int .i64 st, .bool s1, .int .u32 e1, .int .u32 m1, .bool f1, .bool s2, .int .u32 e2, .int .u32 m2, .bool f2] (0, 0) _ rfl Bg6_7.out Try.underlying41 rfl (by kernel_rfl)) rfl ⟨rfl, HB_7.out⟩
set_option maxRecDepth 100000 in
set_option maxHeartbeats 4000000 in
theorem sy_f_data (st e1 m1 e2 m2 : Int) (s1 f1 s2 f2 : Bool) (sp dp sq ak fl wi ty co he da en : Int) (sy ac : Bool) (w : World) (hd : (da != 0) = true) : Calls Try.prog 42 #[.agg #[.int .i64 st, .bool s1, .int .u32 e1, .int .u32 m1, .bool f1, .bool s2, .int .u32 e2, .int .u32 m2, .bool f2], .bool false, .agg #[.int .i64 sp, .int .i64 dp, .int .u32 sq, .int .u32 ak, .int .i64 fl, .int .i64 wi, .int .i64 ty, .int .i64 co, .int .i64 he, .int .i64 da, .bool sy, .bool false, .bool false, .bool ac, .int .u32 en]] w fun e w' => e = .returned (.tuple #[.agg #[.int .i64 st, .bool s1, .int .u32 e1, .int .u32 m1, .bool f1, .bool s2, .int .u32 e2, .int .u32 m2, .bool f2], .bool false]) ∧ Below w.heap.size w w' := by
  go_enter Try.func42, Try.ntmps42
  go_wp2_with (first | ((with_reducible refine gate_dst (N := 3) rfl ?_); refine box_event ?hg (N := 3) ?hd (cs := #[.int .i64 st, .bool s1, .int .u32 e1, .int .u32 m1, .bool f1, .bool s2, .int .u32 e2, .int .u32 m2, .bool f2]) (t := 41) ?hr ?_; (case hd => rfl); (case hg => rfl); (case hr => first | (go_simp; done) | (go_simp; rfl)); intro g3 hgg wx1 hbox hb; have Lg3 := Aside0.mk (show w.heap.size ≤ g3 by rw [hgg]; exact Nat.le_refl _); have HB_1 := Aside0.mk (hb); have Bg3_1 := Aside0.mk hbox; clear hbox hb hgg) | ((with_reducible refine gate_dst (N := 5) rfl ?_); refine box_event ?hg (N := 5) ?hd (cs := #[.int .i64 sp, .int .i64 dp, .int .u32 sq, .int .u32 ak, .int .i64 fl, .int .i64 wi, .int .i64 ty, .int .i64 co, .int .i64 he, .int .i64 da, .bool sy, .bool false, .bool false, .bool ac, .int .u32 en]) (t := 95) ?hr ?_; (case hd => rfl); (case hg => rfl); (case hr => first | (go_simp; done) | (go_simp; rfl)); intro g5 hgg wx2 hbox hb; have Ng3g5 := Aside0.mk (show g3 ≠ g5 by rw [hgg]; exact Nat.ne_of_lt (blk_lt Bg3_1.out)); have Lg5 := Aside0.mk (show w.heap.size ≤ g5 by rw [hgg]; exact below_size HB_1.out); have HB_2 := Aside0.mk (below_step HB_1.out hb); clear HB_1; have Bg3_2 := Aside0.mk (blk_below Bg3_1.out hb); clear Bg3_1; have Bg5_2 := Aside0.mk hbox; clear hbox hb hgg) | ((with_reducible refine gate_dst (N := 6) rfl ?_); refine box_event ?hg (N := 6) ?hd (cs := #[.int .i64 0, .bool false, .int .u32 0, .int .u32 0, .bool false, .bool false, .int .u32 0, .int .u32 0, .bool false]) (t := 41) ?hr ?_; (case hd => rfl); (case hg => rfl); (case hr => first | (go_simp; done) | (go_simp; rfl)); intro g6 hgg wx3 hbox hb; have Ng3g6 := Aside0.mk (show g3 ≠ g6 by rw [hgg]; exact Nat.ne_of_lt (blk_lt Bg3_2.out)); have Ng5g6 := Aside0.mk (show g5 ≠ g6 by rw [hgg]; exact Nat.ne_of_lt (blk_lt Bg5_2.out)); have Lg6 := Aside0.mk (show w.heap.size ≤ g6 by rw [hgg]; exact below_size HB_2.out); have HB_3 := Aside0.mk (below_step HB_2.out hb); clear HB_2; have Bg3_3 := Aside0.mk (blk_below Bg3_2.out hb); clear Bg3_2; have Bg5_3 := Aside0.mk (blk_below Bg5_2.out hb); clear Bg5_2; have Bg6_3 := Aside0.mk hbox; clear hbox hb hgg) | ((with_reducible refine gate_dst (N := 11) rfl ?_); refine load_event rfl 41 _ rfl g3 rfl _ _ _ Bg3_3.out Try.underlying41 rfl (by kernel_rfl) ?_) | ((with_reducible refine gate_dst (N := 8) rfl ?_); refine box_event ?hg (N := 8) ?hd (cs := #[.int .i64 0, .bool false, .int .u32 0, .int .u32 0, .bool false, .bool false, .int .u32 0, .int .u32 0, .bool false]) (t := 41) ?hr ?_; (case hd => rfl); (case hg => rfl); (case hr => first | (go_simp; done) | (go_simp; rfl)); intro g8 hgg wx4 hbox hb; have Ng3g8 := Aside0.mk (show g3 ≠ g8 by rw [hgg]; exact Nat.ne_of_lt (blk_lt Bg3_3.out)); have Ng5g8 := Aside0.mk (show g5 ≠ g8 by rw [hgg]; exact Nat.ne_of_lt (blk_lt Bg5_3.out)); have Ng6g8 := Aside0.mk (show g6 ≠ g8 by rw [hgg]; exact Nat.ne_of_lt (blk_lt Bg6_3.out)); have Lg8 := Aside0.mk (show w.heap.size ≤ g8 by rw [hgg]; exact below_size HB_3.out); have HB_4 := Aside0.mk (below_step HB_3.out hb); clear HB_3; have Bg3_4 := Aside0.mk (blk_below Bg3_3.out hb); clear Bg3_3; have Bg5_4 := Aside0.mk (blk_below Bg5_3.out hb); clear Bg5_3; have Bg6_4 := Aside0.mk (blk_below Bg6_3.out hb); clear Bg6_3; have Bg8_4 := Aside0.mk hbox; clear hbox hb hgg) | ((with_reducible refine gate_store (t := 41) (p := 8) rfl ?_); refine store_event rfl 41 _ _ rfl g8 _ rfl rfl _ _ Bg8_4.out (by kernel_rfl) rfl rfl ?_; intro wx5 hst hu; have HB_5 := Aside0.mk (below_upd HB_4.out hu (below_size HB_4.out) (fun k hk => by cases hk; exact Lg8.out)); clear HB_4; have Bg3_5 := Aside0.mk (Upd.blk hu Bg3_4.out (One.not Ng3g8.out)); clear Bg3_4; have Bg5_5 := Aside0.mk (Upd.blk hu Bg5_4.out (One.not Ng5g8.out)); clear Bg5_4; have Bg6_5 := Aside0.mk (Upd.blk hu Bg6_4.out (One.not Ng6g8.out)); clear Bg6_4; have Bg8_5 := Aside0.mk hst; clear hst hu Bg8_4) | (go_at_call 40; refine (sides_f g8 _).mono ?_; rintro e wx6 ⟨rfl, hb⟩; have HB_6 := Aside0.mk (below_step HB_5.out hb); clear HB_5; have Bg3_6 := Aside0.mk (blk_below Bg3_5.out hb); clear Bg3_5; have Bg5_6 := Aside0.mk (blk_below Bg5_5.out hb); clear Bg5_5; have Bg6_6 := Aside0.mk (blk_below Bg6_5.out hb); clear Bg6_5; have Bg8_6 := Aside0.mk (blk_below Bg8_5.out hb); clear Bg8_5; clear hb) | ((with_reducible refine gate_dst (N := 19) rfl ?_); refine load1_event rfl _ _ rfl g5 11 rfl _ _ _ _ Bg5_6.out rfl Try.underlying4 rfl ?_) | ((with_reducible refine gate_dst (N := 22) rfl ?_); (refine gate_guard (by rfl) ?_; dsimp only); refine load1_event rfl _ _ rfl g5 12 rfl _ _ _ _ Bg5_6.out rfl Try.underlying4 rfl ?_) | ((with_reducible refine gate_dst (N := 27) rfl ?_); (refine gate_guard (by rfl) ?_; dsimp only); refine load1_event rfl _ _ rfl g5 9 rfl _ _ _ _ Bg5_6.out rfl Try.underlying3 rfl ?_) | ((with_reducible refine gate_dst (N := 30) rfl ?_); refine load_event rfl 41 _ rfl g3 rfl _ _ _ Bg3_6.out Try.underlying41 rfl (by kernel_rfl) ?_) | ((with_reducible refine gate_store (t := 41) (p := 6) rfl ?_); refine store_event rfl 41 _ _ rfl g6 _ rfl rfl _ _ Bg6_6.out (by kernel_rfl) rfl rfl ?_; intro wx7 hst hu; have HB_7 := Aside0.mk (below_upd HB_6.out hu (below_size HB_6.out) (fun k hk => by cases hk; exact Lg6.out)); clear HB_6; have Bg3_7 := Aside0.mk (Upd.blk hu Bg3_6.out (One.not Ng3g6.out)); clear Bg3_6; have Bg5_7 := Aside0.mk (Upd.blk hu Bg5_6.out (One.not Ng5g6.out)); clear Bg5_6; have Bg8_7 := Aside0.mk (Upd.blk hu Bg8_6.out (One.not (Ne.symm Ng6g8.out))); clear Bg8_6; have Bg6_7 := Aside0.mk hst; clear hst hu Bg6_6))
  exact bodyPost_ret (results_ct rfl _ _ g6 41 #[.int .i64 st, .bool s1, .int .u32 e1, .int .u32 m1, .bool f1, .bool s2, .int .u32 e2, .int .u32 m2, .bool f2] (0, 0) _ rfl Bg6_7.out Try.underlying41 rfl (by kernel_rfl)) rfl ⟨rfl, HB_7.out⟩
set_option maxRecDepth 100000 in
set_option maxHeartbeats 4000000 in
theorem sy_f_same (st e1 m1 e2 m2 : Int) (f1 s2 f2 : Bool) (sp dp sq ak fl wi ty co he da en : Int) (sy ac : Bool) (w : World) (hd : (da != 0) = false) (hx : (en == e1) = true) : Calls Try.prog 42 #[.agg #[.int .i64 st, .bool true, .int .u32 e1, .int .u32 m1, .bool f1, .bool s2, .int .u32 e2, .int .u32 m2, .bool f2], .bool false, .agg #[.int .i64 sp, .int .i64 dp, .int .u32 sq, .int .u32 ak, .int .i64 fl, .int .i64 wi, .int .i64 ty, .int .i64 co, .int .i64 he, .int .i64 da, .bool sy, .bool false, .bool false, .bool ac, .int .u32 en]] w fun e w' => e = .returned (.tuple #[.agg #[.int .i64 st, .bool true, .int .u32 e1, .int .u32 m1, .bool f1, .bool s2, .int .u32 e2, .int .u32 m2, .bool f2], .bool (decide (st ≤ 2))]) ∧ Below w.heap.size w w' := by
  go_enter Try.func42, Try.ntmps42
  go_upto_region 6 with (first | ((with_reducible refine gate_dst (N := 3) rfl ?_); refine box_event ?hg (N := 3) ?hd (cs := #[.int .i64 st, .bool true, .int .u32 e1, .int .u32 m1, .bool f1, .bool s2, .int .u32 e2, .int .u32 m2, .bool f2]) (t := 41) ?hr ?_; (case hd => rfl); (case hg => rfl); (case hr => first | (go_simp; done) | (go_simp; rfl)); intro g3 hgg wx1 hbox hb; have Lg3 := Aside0.mk (show w.heap.size ≤ g3 by rw [hgg]; exact Nat.le_refl _); have HB_1 := Aside0.mk (hb); have Bg3_1 := Aside0.mk hbox; clear hbox hb hgg) | ((with_reducible refine gate_dst (N := 5) rfl ?_); refine box_event ?hg (N := 5) ?hd (cs := #[.int .i64 sp, .int .i64 dp, .int .u32 sq, .int .u32 ak, .int .i64 fl, .int .i64 wi, .int .i64 ty, .int .i64 co, .int .i64 he, .int .i64 da, .bool sy, .bool false, .bool false, .bool ac, .int .u32 en]) (t := 95) ?hr ?_; (case hd => rfl); (case hg => rfl); (case hr => first | (go_simp; done) | (go_simp; rfl)); intro g5 hgg wx2 hbox hb; have Ng3g5 := Aside0.mk (show g3 ≠ g5 by rw [hgg]; exact Nat.ne_of_lt (blk_lt Bg3_1.out)); have Lg5 := Aside0.mk (show w.heap.size ≤ g5 by rw [hgg]; exact below_size HB_1.out); have HB_2 := Aside0.mk (below_step HB_1.out hb); clear HB_1; have Bg3_2 := Aside0.mk (blk_below Bg3_1.out hb); clear Bg3_1; have Bg5_2 := Aside0.mk hbox; clear hbox hb hgg) | ((with_reducible refine gate_dst (N := 6) rfl ?_); refine box_event ?hg (N := 6) ?hd (cs := #[.int .i64 0, .bool false, .int .u32 0, .int .u32 0, .bool false, .bool false, .int .u32 0, .int .u32 0, .bool false]) (t := 41) ?hr ?_; (case hd => rfl); (case hg => rfl); (case hr => first | (go_simp; done) | (go_simp; rfl)); intro g6 hgg wx3 hbox hb; have Ng3g6 := Aside0.mk (show g3 ≠ g6 by rw [hgg]; exact Nat.ne_of_lt (blk_lt Bg3_2.out)); have Ng5g6 := Aside0.mk (show g5 ≠ g6 by rw [hgg]; exact Nat.ne_of_lt (blk_lt Bg5_2.out)); have Lg6 := Aside0.mk (show w.heap.size ≤ g6 by rw [hgg]; exact below_size HB_2.out); have HB_3 := Aside0.mk (below_step HB_2.out hb); clear HB_2; have Bg3_3 := Aside0.mk (blk_below Bg3_2.out hb); clear Bg3_2; have Bg5_3 := Aside0.mk (blk_below Bg5_2.out hb); clear Bg5_2; have Bg6_3 := Aside0.mk hbox; clear hbox hb hgg) | ((with_reducible refine gate_dst (N := 11) rfl ?_); refine load_event rfl 41 _ rfl g3 rfl _ _ _ Bg3_3.out Try.underlying41 rfl (by kernel_rfl) ?_) | ((with_reducible refine gate_dst (N := 8) rfl ?_); refine box_event ?hg (N := 8) ?hd (cs := #[.int .i64 0, .bool false, .int .u32 0, .int .u32 0, .bool false, .bool false, .int .u32 0, .int .u32 0, .bool false]) (t := 41) ?hr ?_; (case hd => rfl); (case hg => rfl); (case hr => first | (go_simp; done) | (go_simp; rfl)); intro g8 hgg wx4 hbox hb; have Ng3g8 := Aside0.mk (show g3 ≠ g8 by rw [hgg]; exact Nat.ne_of_lt (blk_lt Bg3_3.out)); have Ng5g8 := Aside0.mk (show g5 ≠ g8 by rw [hgg]; exact Nat.ne_of_lt (blk_lt Bg5_3.out)); have Ng6g8 := Aside0.mk (show g6 ≠ g8 by rw [hgg]; exact Nat.ne_of_lt (blk_lt Bg6_3.out)); have Lg8 := Aside0.mk (show w.heap.size ≤ g8 by rw [hgg]; exact below_size HB_3.out); have HB_4 := Aside0.mk (below_step HB_3.out hb); clear HB_3; have Bg3_4 := Aside0.mk (blk_below Bg3_3.out hb); clear Bg3_3; have Bg5_4 := Aside0.mk (blk_below Bg5_3.out hb); clear Bg5_3; have Bg6_4 := Aside0.mk (blk_below Bg6_3.out hb); clear Bg6_3; have Bg8_4 := Aside0.mk hbox; clear hbox hb hgg) | ((with_reducible refine gate_store (t := 41) (p := 8) rfl ?_); refine store_event rfl 41 _ _ rfl g8 _ rfl rfl _ _ Bg8_4.out (by kernel_rfl) rfl rfl ?_; intro wx5 hst hu; have HB_5 := Aside0.mk (below_upd HB_4.out hu (below_size HB_4.out) (fun k hk => by cases hk; exact Lg8.out)); clear HB_4; have Bg3_5 := Aside0.mk (Upd.blk hu Bg3_4.out (One.not Ng3g8.out)); clear Bg3_4; have Bg5_5 := Aside0.mk (Upd.blk hu Bg5_4.out (One.not Ng5g8.out)); clear Bg5_4; have Bg6_5 := Aside0.mk (Upd.blk hu Bg6_4.out (One.not Ng6g8.out)); clear Bg6_4; have Bg8_5 := Aside0.mk hst; clear hst hu Bg8_4) | (go_at_call 40; refine (sides_f g8 _).mono ?_; rintro e wx6 ⟨rfl, hb⟩; have HB_6 := Aside0.mk (below_step HB_5.out hb); clear HB_5; have Bg3_6 := Aside0.mk (blk_below Bg3_5.out hb); clear Bg3_5; have Bg5_6 := Aside0.mk (blk_below Bg5_5.out hb); clear Bg5_5; have Bg6_6 := Aside0.mk (blk_below Bg6_5.out hb); clear Bg6_5; have Bg8_6 := Aside0.mk (blk_below Bg8_5.out hb); clear Bg8_5; clear hb) | ((with_reducible refine gate_dst (N := 19) rfl ?_); refine load1_event rfl _ _ rfl g5 11 rfl _ _ _ _ Bg5_6.out rfl Try.underlying4 rfl ?_) | ((with_reducible refine gate_dst (N := 22) rfl ?_); (refine gate_guard (by rfl) ?_; dsimp only); refine load1_event rfl _ _ rfl g5 12 rfl _ _ _ _ Bg5_6.out rfl Try.underlying4 rfl ?_) | ((with_reducible refine gate_dst (N := 27) rfl ?_); (refine gate_guard (by rfl) ?_; dsimp only); refine load1_event rfl _ _ rfl g5 9 rfl _ _ _ _ Bg5_6.out rfl Try.underlying3 rfl ?_) | ((with_reducible refine gate_dst (N := 35) rfl ?_); refine load1_event rfl _ _ rfl g8 1 rfl _ _ _ _ Bg8_6.out rfl Try.underlying4 rfl ?_))
  refine wp_region_rg (by kernel_rfl) (StPut g6 (.cells #[.int .i64 st, .bool true, .int .u32 e1, .int .u32 m1, .bool f1, .bool s2, .int .u32 e2, .int .u32 m2, .bool f2] 41 (0, 0))) (fun (i : Nat) (v : Value) (w1 : World) => match i with | 0 => v = (.agg #[.int .i64 st, .bool true, .int .u32 e1, .int .u32 m1, .bool f1, .bool s2, .int .u32 e2, .int .u32 m2, .bool f2]) | 1 => v = (.pointer (some ⟨g5, 14, none⟩)) | 2 => v = (.int .u32 en) | 3 => v = (.pointer (some ⟨g8, 1, none⟩)) | 4 => v = (.pointer (some ⟨g8, 1, none⟩)) | 5 => v = (.pointer (some ⟨g8, 2, none⟩)) | 6 => v = (.int .u32 e1) | 7 => v = (.bool true) | 8 => v = (.bool true) | 9 => v = (.pointer (some ⟨g3, 0, none⟩)) | 10 => v = (.int .i64 st) | 11 => v = (.bool (decide (st ≤ 2))) | 12 => v = (.bool (decide (st ≤ 2))) | 13 => w1.heap[g6]? = some (.cells #[.int .i64 st, .bool true, .int .u32 e1, .int .u32 m1, .bool f1, .bool s2, .int .u32 e2, .int .u32 m2, .bool f2] 41 (0, 0)) | 14 => v = (.bool (decide (st ≤ 2))) | _ => True) (by kernel_rfl) (by kernel_rfl) (stput_tr _ _) (stput_drew _ _ _) ?hJst (obl_list ?hObl) ?hEnd
  case hJst =>
    intro i v wx wy hi hs0 hs1 hJi
    match i, hi with
    | 0, _ => exact hJi
    | 1, _ => exact hJi
    | 2, _ => exact hJi
    | 3, _ => exact hJi
    | 4, _ => exact hJi
    | 5, _ => exact hJi
    | 6, _ => exact hJi
    | 7, _ => exact hJi
    | 8, _ => exact hJi
    | 9, _ => exact hJi
    | 10, _ => exact hJi
    | 11, _ => exact hJi
    | 12, _ => exact hJi
    | 13, _ => replace hJi : (fun (v : Value) (w1 : World) => w1.heap[g6]? = some (.cells #[.int .i64 st, .bool true, .int .u32 e1, .int .u32 m1, .bool f1, .bool s2, .int .u32 e2, .int .u32 m2, .bool f2] 41 (0, 0))) v wx := hJi; exact (stput_keep hs1 hJi)
    | 14, _ => exact hJi
    | _ + 15, hi => exact absurd hi (by simp)
  case hObl =>
    refine ⟨?_, ?_, ?_, ?_, ?_, ?_, ?_, ?_, ?_, ?_, ?_, ?_, ?_, ?_, ?_,  trivial⟩
    · intro listed vals a wq K hD hst hj haft hun hK
      have h3 := hD.out 3 rfl rfl
      replace hst : StPut g6 (.cells #[.int .i64 st, .bool true, .int .u32 e1, .int .u32 m1, .bool f1, .bool s2, .int .u32 e2, .int .u32 m2, .bool f2] 41 (0, 0)) _ wq := hst
      clear hD hj haft hun
      have e3 := eval_of h3
      exact step_now (v := .agg #[.int .i64 st, .bool true, .int .u32 e1, .int .u32 m1, .bool f1, .bool s2, .int .u32 e2, .int .u32 m2, .bool f2]) (w' := wq) (wanted_free rfl) (rg_loadall rfl e3 (Upd.blk hst.1 Bg3_6.out (One.not Ng3g6.out)) Try.underlying41 rfl (by kernel_rfl)) (hK _ _ (stput_refl _ _ _) rfl)
    · intro listed vals a wq K hD hst hj haft hun hK
      have h5 := hD.out 5 rfl rfl
      replace hst : StPut g6 (.cells #[.int .i64 st, .bool true, .int .u32 e1, .int .u32 m1, .bool f1, .bool s2, .int .u32 e2, .int .u32 m2, .bool f2] 41 (0, 0)) _ wq := hst
      clear hD hj haft hun
      have e5 := eval_of h5
      refine step_now (v := .pointer (some ⟨g5, 14, none⟩)) (w' := wq) (wanted_free rfl) ?_ (hK _ _ (stput_refl _ _ _) rfl)
      clear hK
      first | (go_simp; done) | (go_simp; rfl) | (go_simp; (try simp only [IntKind.wrap_u32]); omega)
    · intro listed vals a wq K hD hst hj haft hun hK
      obtain ⟨v37, h37, j37⟩ := hD.dep hj haft 1 37 rfl rfl
      replace j37 : v37 = (.pointer (some ⟨g5, 14, none⟩)) := j37
      subst j37
      replace hst : StPut g6 (.cells #[.int .i64 st, .bool true, .int .u32 e1, .int .u32 m1, .bool f1, .bool s2, .int .u32 e2, .int .u32 m2, .bool f2] 41 (0, 0)) _ wq := hst
      clear hD hj haft hun
      have e37 := eval_of h37
      exact step_now (v := .int .u32 en) (w' := wq) (wanted_free rfl) (rg_load rfl e37 (Upd.blk hst.1 Bg5_6.out (One.not Ng5g6.out)) rfl Try.underlying33 rfl) (hK _ _ (stput_refl _ _ _) rfl)
    · intro listed vals a wq K hD hst hj haft hun hK
      have h9 := hD.out 9 rfl rfl
      replace hst : StPut g6 (.cells #[.int .i64 st, .bool true, .int .u32 e1, .int .u32 m1, .bool f1, .bool s2, .int .u32 e2, .int .u32 m2, .bool f2] 41 (0, 0)) _ wq := hst
      clear hD hj haft hun
      have e9 := eval_of h9
      refine step_now (v := .pointer (some ⟨g8, 1, none⟩)) (w' := wq) (wanted_free rfl) ?_ (hK _ _ (stput_refl _ _ _) rfl)
      clear hK
      first | (go_simp; done) | (go_simp; rfl) | (go_simp; (try simp only [IntKind.wrap_u32]); omega)
    · intro listed vals a wq K hD hst hj haft hun hK
      obtain ⟨v39, h39, j39⟩ := hD.dep hj haft 3 39 rfl rfl
      replace j39 : v39 = (.pointer (some ⟨g8, 1, none⟩)) := j39
      subst j39
      replace hst : StPut g6 (.cells #[.int .i64 st, .bool true, .int .u32 e1, .int .u32 m1, .bool f1, .bool s2, .int .u32 e2, .int .u32 m2, .bool f2] 41 (0, 0)) _ wq := hst
      clear hD hj haft hun
      have e39 := eval_of h39
      refine step_now (v := .pointer (some ⟨g8, 1, none⟩)) (w' := wq) (wanted_free rfl) ?_ (hK _ _ (stput_refl _ _ _) rfl)
      clear hK
      first | (go_simp; done) | (go_simp; rfl) | (go_simp; (try simp only [IntKind.wrap_u32]); omega)
    · intro listed vals a wq K hD hst hj haft hun hK
      obtain ⟨v40, h40, j40⟩ := hD.dep hj haft 4 40 rfl rfl
      replace j40 : v40 = (.pointer (some ⟨g8, 1, none⟩)) := j40
      subst j40
      replace hst : StPut g6 (.cells #[.int .i64 st, .bool true, .int .u32 e1, .int .u32 m1, .bool f1, .bool s2, .int .u32 e2, .int .u32 m2, .bool f2] 41 (0, 0)) _ wq := hst
      clear hD hj haft hun
      have e40 := eval_of h40
      refine step_now (v := .pointer (some ⟨g8, 2, none⟩)) (w' := wq) (wanted_free rfl) ?_ (hK _ _ (stput_refl _ _ _) rfl)
      clear hK
      first | (go_simp; done) | (go_simp; rfl) | (go_simp; (try simp only [IntKind.wrap_u32]); omega)
    · intro listed vals a wq K hD hst hj haft hun hK
      obtain ⟨v41, h41, j41⟩ := hD.dep hj haft 5 41 rfl rfl
      replace j41 : v41 = (.pointer (some ⟨g8, 2, none⟩)) := j41
      subst j41
      replace hst : StPut g6 (.cells #[.int .i64 st, .bool true, .int .u32 e1, .int .u32 m1, .bool f1, .bool s2, .int .u32 e2, .int .u32 m2, .bool f2] 41 (0, 0)) _ wq := hst
      clear hD hj haft hun
      have e41 := eval_of h41
      exact step_now (v := .int .u32 e1) (w' := wq) (wanted_free rfl) (rg_load rfl e41 (Upd.blk hst.1 Bg8_6.out (One.not (Ne.symm Ng6g8.out))) rfl Try.underlying33 rfl) (hK _ _ (stput_refl _ _ _) rfl)
    · intro listed vals a wq K hD hst hj haft hun hK
      obtain ⟨v38, h38, j38⟩ := hD.dep hj haft 2 38 rfl rfl
      replace j38 : v38 = (.int .u32 en) := j38
      subst j38
      obtain ⟨v42, h42, j42⟩ := hD.dep hj haft 6 42 rfl rfl
      replace j42 : v42 = (.int .u32 e1) := j42
      subst j42
      replace hst : StPut g6 (.cells #[.int .i64 st, .bool true, .int .u32 e1, .int .u32 m1, .bool f1, .bool s2, .int .u32 e2, .int .u32 m2, .bool f2] 41 (0, 0)) _ wq := hst
      clear hD hj haft hun
      have e38 := eval_of h38
      have e42 := eval_of h42
      refine step_now (v := .bool true) (w' := wq) (wanted_free rfl) ?_ (hK _ _ (stput_refl _ _ _) rfl)
      clear hK
      first | (go_simp; done) | (go_simp; rfl) | (go_simp; (try simp only [IntKind.wrap_u32]); omega)
    · intro listed vals a wq K hD hst hj haft hun hK
      obtain ⟨v43, h43, j43⟩ := hD.dep hj haft 7 43 rfl rfl
      replace j43 : v43 = (.bool true) := j43
      subst j43
      replace hst : StPut g6 (.cells #[.int .i64 st, .bool true, .int .u32 e1, .int .u32 m1, .bool f1, .bool s2, .int .u32 e2, .int .u32 m2, .bool f2] 41 (0, 0)) _ wq := hst
      clear hD hj haft hun
      have e43 := eval_of h43
      refine step_now (v := .bool true) (w' := wq) (wanted_free rfl) ?_ (hK _ _ (stput_refl _ _ _) rfl)
      clear hK
      first | (go_simp; done) | (go_simp; rfl) | (go_simp; (try simp only [IntKind.wrap_u32]); omega)
    · intro listed vals a wq K hD hst hj haft hun hK
      obtain ⟨v44, h44, j44⟩ := hD.dep hj haft 8 44 rfl rfl
      replace j44 : v44 = (.bool true) := j44
      subst j44
      have h3 := hD.out 3 rfl rfl
      replace hst : StPut g6 (.cells #[.int .i64 st, .bool true, .int .u32 e1, .int .u32 m1, .bool f1, .bool s2, .int .u32 e2, .int .u32 m2, .bool f2] 41 (0, 0)) _ wq := hst
      clear hD hj haft hun
      have e3 := eval_of h3
      refine step_now (v := .pointer (some ⟨g3, 0, none⟩)) (w' := wq) (wanted_on (t := 44) (u := true) rfl rfl rfl h44) ?_ (hK _ _ (stput_refl _ _ _) rfl)
      clear hK
      first | (go_simp; done) | (go_simp; rfl) | (go_simp; (try simp only [IntKind.wrap_u32]); omega)
    · intro listed vals a wq K hD hst hj haft hun hK
      obtain ⟨v45, h45, j45⟩ := hD.dep hj haft 9 45 rfl rfl
      replace j45 : v45 = (.pointer (some ⟨g3, 0, none⟩)) := j45
      subst j45
      obtain ⟨v44, h44, j44⟩ := hD.dep hj haft 8 44 rfl rfl
      replace j44 : v44 = (.bool true) := j44
      subst j44
      replace hst : StPut g6 (.cells #[.int .i64 st, .bool true, .int .u32 e1, .int .u32 m1, .bool f1, .bool s2, .int .u32 e2, .int .u32 m2, .bool f2] 41 (0, 0)) _ wq := hst
      clear hD hj haft hun
      have e45 := eval_of h45
      exact step_now (v := .int .i64 st) (w' := wq) (wanted_on (t := 44) (u := true) rfl rfl rfl h44) (rg_load rfl e45 (Upd.blk hst.1 Bg3_6.out (One.not Ng3g6.out)) rfl Try.underlying3 rfl) (hK _ _ (stput_refl _ _ _) rfl)
    · intro listed vals a wq K hD hst hj haft hun hK
      obtain ⟨v46, h46, j46⟩ := hD.dep hj haft 10 46 rfl rfl
      replace j46 : v46 = (.int .i64 st) := j46
      subst j46
      obtain ⟨v44, h44, j44⟩ := hD.dep hj haft 8 44 rfl rfl
      replace j44 : v44 = (.bool true) := j44
      subst j44
      replace hst : StPut g6 (.cells #[.int .i64 st, .bool true, .int .u32 e1, .int .u32 m1, .bool f1, .bool s2, .int .u32 e2, .int .u32 m2, .bool f2] 41 (0, 0)) _ wq := hst
      clear hD hj haft hun
      have e46 := eval_of h46
      refine step_now (v := .bool (decide (st ≤ 2))) (w' := wq) (wanted_on (t := 44) (u := true) rfl rfl rfl h44) ?_ (hK _ _ (stput_refl _ _ _) rfl)
      clear hK
      first | (go_simp; done) | (go_simp; rfl) | (go_simp; (try simp only [IntKind.wrap_u32]); omega)
    · intro listed vals a wq K hD hst hj haft hun hK
      obtain ⟨v44, h44, j44⟩ := hD.dep hj haft 8 44 rfl rfl
      replace j44 : v44 = (.bool true) := j44
      subst j44
      obtain ⟨v47, h47, j47⟩ := hD.dep hj haft 11 47 rfl rfl
      replace j47 : v47 = (.bool (decide (st ≤ 2))) := j47
      subst j47
      replace hst : StPut g6 (.cells #[.int .i64 st, .bool true, .int .u32 e1, .int .u32 m1, .bool f1, .bool s2, .int .u32 e2, .int .u32 m2, .bool f2] 41 (0, 0)) _ wq := hst
      clear hD hj haft hun
      have e44 := eval_of h44
      have e47 := eval_of h47
      refine step_now (v := .bool (decide (st ≤ 2))) (w' := wq) (wanted_free rfl) ?_ (hK _ _ (stput_refl _ _ _) rfl)
      clear hK
      first | (go_simp; done) | (go_simp; rfl) | (go_simp; (try simp only [IntKind.wrap_u32]); omega)
    · intro listed vals a wq K hD hst hj haft hun hK
      obtain ⟨v36, h36, j36⟩ := hD.dep hj haft 0 36 rfl rfl
      replace j36 : v36 = (.agg #[.int .i64 st, .bool true, .int .u32 e1, .int .u32 m1, .bool f1, .bool s2, .int .u32 e2, .int .u32 m2, .bool f2]) := j36
      subst j36
      have h6 := hD.out 6 rfl rfl
      replace hst : StPut g6 (.cells #[.int .i64 st, .bool true, .int .u32 e1, .int .u32 m1, .bool f1, .bool s2, .int .u32 e2, .int .u32 m2, .bool f2] 41 (0, 0)) _ wq := hst
      clear hD hj haft hun
      have e6 := eval_of h6
      have e36 := eval_of h36
      refine rg_step_store (cells := #[.int .i64 st, .bool true, .int .u32 e1, .int .u32 m1, .bool f1, .bool s2, .int .u32 e2, .int .u32 m2, .bool f2]) (wanted_free rfl) rfl e6 e36 Bg6_6.out hst (by kernel_rfl) rfl rfl (fun w2 hs2 hg2 => hK _ _ hs2 hg2)
    · intro listed vals a wq K hD hst hj haft hun hK
      obtain ⟨v48, h48, j48⟩ := hD.dep hj haft 12 48 rfl rfl
      replace j48 : v48 = (.bool (decide (st ≤ 2))) := j48
      subst j48
      replace hst : StPut g6 (.cells #[.int .i64 st, .bool true, .int .u32 e1, .int .u32 m1, .bool f1, .bool s2, .int .u32 e2, .int .u32 m2, .bool f2] 41 (0, 0)) _ wq := hst
      clear hD hj haft hun
      have e48 := eval_of h48
      refine step_now (v := .bool (decide (st ≤ 2))) (w' := wq) (wanted_free rfl) ?_ (hK _ _ (stput_refl _ _ _) rfl)
      clear hK
      first | (go_simp; done) | (go_simp; rfl) | (go_simp; (try simp only [IntKind.wrap_u32]); omega)
  case hEnd =>
    intro vals wend hst hj
    have j0 : vals 0 = (.agg #[.int .i64 st, .bool true, .int .u32 e1, .int .u32 m1, .bool f1, .bool s2, .int .u32 e2, .int .u32 m2, .bool f2]) := hj 0 (by decide)
    have j1 : vals 1 = (.pointer (some ⟨g5, 14, none⟩)) := hj 1 (by decide)
    have j2 : vals 2 = (.int .u32 en) := hj 2 (by decide)
    have j3 : vals 3 = (.pointer (some ⟨g8, 1, none⟩)) := hj 3 (by decide)
    have j4 : vals 4 = (.pointer (some ⟨g8, 1, none⟩)) := hj 4 (by decide)
    have j5 : vals 5 = (.pointer (some ⟨g8, 2, none⟩)) := hj 5 (by decide)
    have j6 : vals 6 = (.int .u32 e1) := hj 6 (by decide)
    have j7 : vals 7 = (.bool true) := hj 7 (by decide)
    have j8 : vals 8 = (.bool true) := hj 8 (by decide)
    have j9 : vals 9 = (.pointer (some ⟨g3, 0, none⟩)) := hj 9 (by decide)
    have j10 : vals 10 = (.int .i64 st) := hj 10 (by decide)
    have j11 : vals 11 = (.bool (decide (st ≤ 2))) := hj 11 (by decide)
    have j12 : vals 12 = (.bool (decide (st ≤ 2))) := hj 12 (by decide)
    have j13 : (fun (v : Value) (w1 : World) => w1.heap[g6]? = some (.cells #[.int .i64 st, .bool true, .int .u32 e1, .int .u32 m1, .bool f1, .bool s2, .int .u32 e2, .int .u32 m2, .bool f2] 41 (0, 0))) (vals 13) wend := hj 13 (by decide)
    have j14 : vals 14 = (.bool (decide (st ≤ 2))) := hj 14 (by decide)
    replace hst : StPut g6 (.cells #[.int .i64 st, .bool true, .int .u32 e1, .int .u32 m1, .bool f1, .bool s2, .int .u32 e2, .int .u32 m2, .bool f2] 41 (0, 0)) _ wend := hst
    clear hj
    rw [putAll_list]
    simp only [putL, Act.put, List.setIfInBounds_toArray, List.set_cons_zero, List.set_cons_succ, j0, j1, j2, j3, j4, j5, j6, j7, j8, j9, j10, j11, j12, j14]
    clear j0 j1 j2 j3 j4 j5 j6 j7 j8 j9 j10 j11 j12 j14
    have HB_7 := Aside0.mk (below_upd HB_6.out hst.1 (below_size HB_6.out) (fun k hk => by cases hk; exact Lg6.out))
    clear HB_6
    have Bg3_7 := Aside0.mk (Upd.blk hst.1 Bg3_6.out (One.not Ng3g6.out))
    clear Bg3_6
    have Bg5_7 := Aside0.mk (Upd.blk hst.1 Bg5_6.out (One.not Ng5g6.out))
    clear Bg5_6
    have Bg8_7 := Aside0.mk (Upd.blk hst.1 Bg8_6.out (One.not (Ne.symm Ng6g8.out)))
    clear Bg8_6
    have Bg6_7 := Aside0.mk (show wend.heap[g6]? = some (.cells #[.int .i64 st, .bool true, .int .u32 e1, .int .u32 m1, .bool f1, .bool s2, .int .u32 e2, .int .u32 m2, .bool f2] 41 (0, 0)) from j13)
    clear hst j13 Bg6_6
    go_wp2_with (fail)
    exact bodyPost_ret (results_ct rfl _ _ g6 41 #[.int .i64 st, .bool true, .int .u32 e1, .int .u32 m1, .bool f1, .bool s2, .int .u32 e2, .int .u32 m2, .bool f2] (0, 0) _ rfl Bg6_7.out Try.underlying41 rfl (by kernel_rfl)) rfl ⟨rfl, HB_7.out⟩
set_option maxRecDepth 100000 in
set_option maxHeartbeats 4000000 in
theorem sy_f_other (st e1 m1 e2 m2 : Int) (f1 s2 f2 : Bool) (sp dp sq ak fl wi ty co he da en : Int) (sy ac : Bool) (w : World) (hd : (da != 0) = false) (hx : (en == e1) = false) : Calls Try.prog 42 #[.agg #[.int .i64 st, .bool true, .int .u32 e1, .int .u32 m1, .bool f1, .bool s2, .int .u32 e2, .int .u32 m2, .bool f2], .bool false, .agg #[.int .i64 sp, .int .i64 dp, .int .u32 sq, .int .u32 ak, .int .i64 fl, .int .i64 wi, .int .i64 ty, .int .i64 co, .int .i64 he, .int .i64 da, .bool sy, .bool false, .bool false, .bool ac, .int .u32 en]] w fun e w' => e = .returned (.tuple #[.agg #[.int .i64 st, .bool true, .int .u32 e1, .int .u32 m1, .bool f1, .bool s2, .int .u32 e2, .int .u32 m2, .bool f2], .bool false]) ∧ Below w.heap.size w w' := by
  go_enter Try.func42, Try.ntmps42
  go_upto_region 6 with (first | ((with_reducible refine gate_dst (N := 3) rfl ?_); refine box_event ?hg (N := 3) ?hd (cs := #[.int .i64 st, .bool true, .int .u32 e1, .int .u32 m1, .bool f1, .bool s2, .int .u32 e2, .int .u32 m2, .bool f2]) (t := 41) ?hr ?_; (case hd => rfl); (case hg => rfl); (case hr => first | (go_simp; done) | (go_simp; rfl)); intro g3 hgg wx1 hbox hb; have Lg3 := Aside0.mk (show w.heap.size ≤ g3 by rw [hgg]; exact Nat.le_refl _); have HB_1 := Aside0.mk (hb); have Bg3_1 := Aside0.mk hbox; clear hbox hb hgg) | ((with_reducible refine gate_dst (N := 5) rfl ?_); refine box_event ?hg (N := 5) ?hd (cs := #[.int .i64 sp, .int .i64 dp, .int .u32 sq, .int .u32 ak, .int .i64 fl, .int .i64 wi, .int .i64 ty, .int .i64 co, .int .i64 he, .int .i64 da, .bool sy, .bool false, .bool false, .bool ac, .int .u32 en]) (t := 95) ?hr ?_; (case hd => rfl); (case hg => rfl); (case hr => first | (go_simp; done) | (go_simp; rfl)); intro g5 hgg wx2 hbox hb; have Ng3g5 := Aside0.mk (show g3 ≠ g5 by rw [hgg]; exact Nat.ne_of_lt (blk_lt Bg3_1.out)); have Lg5 := Aside0.mk (show w.heap.size ≤ g5 by rw [hgg]; exact below_size HB_1.out); have HB_2 := Aside0.mk (below_step HB_1.out hb); clear HB_1; have Bg3_2 := Aside0.mk (blk_below Bg3_1.out hb); clear Bg3_1; have Bg5_2 := Aside0.mk hbox; clear hbox hb hgg) | ((with_reducible refine gate_dst (N := 6) rfl ?_); refine box_event ?hg (N := 6) ?hd (cs := #[.int .i64 0, .bool false, .int .u32 0, .int .u32 0, .bool false, .bool false, .int .u32 0, .int .u32 0, .bool false]) (t := 41) ?hr ?_; (case hd => rfl); (case hg => rfl); (case hr => first | (go_simp; done) | (go_simp; rfl)); intro g6 hgg wx3 hbox hb; have Ng3g6 := Aside0.mk (show g3 ≠ g6 by rw [hgg]; exact Nat.ne_of_lt (blk_lt Bg3_2.out)); have Ng5g6 := Aside0.mk (show g5 ≠ g6 by rw [hgg]; exact Nat.ne_of_lt (blk_lt Bg5_2.out)); have Lg6 := Aside0.mk (show w.heap.size ≤ g6 by rw [hgg]; exact below_size HB_2.out); have HB_3 := Aside0.mk (below_step HB_2.out hb); clear HB_2; have Bg3_3 := Aside0.mk (blk_below Bg3_2.out hb); clear Bg3_2; have Bg5_3 := Aside0.mk (blk_below Bg5_2.out hb); clear Bg5_2; have Bg6_3 := Aside0.mk hbox; clear hbox hb hgg) | ((with_reducible refine gate_dst (N := 11) rfl ?_); refine load_event rfl 41 _ rfl g3 rfl _ _ _ Bg3_3.out Try.underlying41 rfl (by kernel_rfl) ?_) | ((with_reducible refine gate_dst (N := 8) rfl ?_); refine box_event ?hg (N := 8) ?hd (cs := #[.int .i64 0, .bool false, .int .u32 0, .int .u32 0, .bool false, .bool false, .int .u32 0, .int .u32 0, .bool false]) (t := 41) ?hr ?_; (case hd => rfl); (case hg => rfl); (case hr => first | (go_simp; done) | (go_simp; rfl)); intro g8 hgg wx4 hbox hb; have Ng3g8 := Aside0.mk (show g3 ≠ g8 by rw [hgg]; exact Nat.ne_of_lt (blk_lt Bg3_3.out)); have Ng5g8 := Aside0.mk (show g5 ≠ g8 by rw [hgg]; exact Nat.ne_of_lt (blk_lt Bg5_3.out)); have Ng6g8 := Aside0.mk (show g6 ≠ g8 by rw [hgg]; exact Nat.ne_of_lt (blk_lt Bg6_3.out)); have Lg8 := Aside0.mk (show w.heap.size ≤ g8 by rw [hgg]; exact below_size HB_3.out); have HB_4 := Aside0.mk (below_step HB_3.out hb); clear HB_3; have Bg3_4 := Aside0.mk (blk_below Bg3_3.out hb); clear Bg3_3; have Bg5_4 := Aside0.mk (blk_below Bg5_3.out hb); clear Bg5_3; have Bg6_4 := Aside0.mk (blk_below Bg6_3.out hb); clear Bg6_3; have Bg8_4 := Aside0.mk hbox; clear hbox hb hgg) | ((with_reducible refine gate_store (t := 41) (p := 8) rfl ?_); refine store_event rfl 41 _ _ rfl g8 _ rfl rfl _ _ Bg8_4.out (by kernel_rfl) rfl rfl ?_; intro wx5 hst hu; have HB_5 := Aside0.mk (below_upd HB_4.out hu (below_size HB_4.out) (fun k hk => by cases hk; exact Lg8.out)); clear HB_4; have Bg3_5 := Aside0.mk (Upd.blk hu Bg3_4.out (One.not Ng3g8.out)); clear Bg3_4; have Bg5_5 := Aside0.mk (Upd.blk hu Bg5_4.out (One.not Ng5g8.out)); clear Bg5_4; have Bg6_5 := Aside0.mk (Upd.blk hu Bg6_4.out (One.not Ng6g8.out)); clear Bg6_4; have Bg8_5 := Aside0.mk hst; clear hst hu Bg8_4) | (go_at_call 40; refine (sides_f g8 _).mono ?_; rintro e wx6 ⟨rfl, hb⟩; have HB_6 := Aside0.mk (below_step HB_5.out hb); clear HB_5; have Bg3_6 := Aside0.mk (blk_below Bg3_5.out hb); clear Bg3_5; have Bg5_6 := Aside0.mk (blk_below Bg5_5.out hb); clear Bg5_5; have Bg6_6 := Aside0.mk (blk_below Bg6_5.out hb); clear Bg6_5; have Bg8_6 := Aside0.mk (blk_below Bg8_5.out hb); clear Bg8_5; clear hb) | ((with_reducible refine gate_dst (N := 19) rfl ?_); refine load1_event rfl _ _ rfl g5 11 rfl _ _ _ _ Bg5_6.out rfl Try.underlying4 rfl ?_) | ((with_reducible refine gate_dst (N := 22) rfl ?_); (refine gate_guard (by rfl) ?_; dsimp only); refine load1_event rfl _ _ rfl g5 12 rfl _ _ _ _ Bg5_6.out rfl Try.underlying4 rfl ?_) | ((with_reducible refine gate_dst (N := 27) rfl ?_); (refine gate_guard (by rfl) ?_; dsimp only); refine load1_event rfl _ _ rfl g5 9 rfl _ _ _ _ Bg5_6.out rfl Try.underlying3 rfl ?_) | ((with_reducible refine gate_dst (N := 35) rfl ?_); refine load1_event rfl _ _ rfl g8 1 rfl _ _ _ _ Bg8_6.out rfl Try.underlying4 rfl ?_))
  refine wp_region_rg (by kernel_rfl) (StPut g6 (.cells #[.int .i64 st, .bool true, .int .u32 e1, .int .u32 m1, .bool f1, .bool s2, .int .u32 e2, .int .u32 m2, .bool f2] 41 (0, 0))) (fun (i : Nat) (v : Value) (w1 : World) => match i with | 0 => v = (.agg #[.int .i64 st, .bool true, .int .u32 e1, .int .u32 m1, .bool f1, .bool s2, .int .u32 e2, .int .u32 m2, .bool f2]) | 1 => v = (.pointer (some ⟨g5, 14, none⟩)) | 2 => v = (.int .u32 en) | 3 => v = (.pointer (some ⟨g8, 1, none⟩)) | 4 => v = (.pointer (some ⟨g8, 1, none⟩)) | 5 => v = (.pointer (some ⟨g8, 2, none⟩)) | 6 => v = (.int .u32 e1) | 7 => v = (.bool false) | 8 => v = (.bool false) | 9 => v = (undef) | 10 => v = (undef) | 11 => v = (undef) | 12 => v = (.bool false) | 13 => w1.heap[g6]? = some (.cells #[.int .i64 st, .bool true, .int .u32 e1, .int .u32 m1, .bool f1, .bool s2, .int .u32 e2, .int .u32 m2, .bool f2] 41 (0, 0)) | 14 => v = (.bool false) | _ => True) (by kernel_rfl) (by kernel_rfl) (stput_tr _ _) (stput_drew _ _ _) ?hJst (obl_list ?hObl) ?hEnd
  case hJst =>
    intro i v wx wy hi hs0 hs1 hJi
    match i, hi with
    | 0, _ => exact hJi
    | 1, _ => exact hJi
    | 2, _ => exact hJi
    | 3, _ => exact hJi
    | 4, _ => exact hJi
    | 5, _ => exact hJi
    | 6, _ => exact hJi
    | 7, _ => exact hJi
    | 8, _ => exact hJi
    | 9, _ => exact hJi
    | 10, _ => exact hJi
    | 11, _ => exact hJi
    | 12, _ => exact hJi
    | 13, _ => replace hJi : (fun (v : Value) (w1 : World) => w1.heap[g6]? = some (.cells #[.int .i64 st, .bool true, .int .u32 e1, .int .u32 m1, .bool f1, .bool s2, .int .u32 e2, .int .u32 m2, .bool f2] 41 (0, 0))) v wx := hJi; exact (stput_keep hs1 hJi)
    | 14, _ => exact hJi
    | _ + 15, hi => exact absurd hi (by simp)
  case hObl =>
    refine ⟨?_, ?_, ?_, ?_, ?_, ?_, ?_, ?_, ?_, ?_, ?_, ?_, ?_, ?_, ?_,  trivial⟩
    · intro listed vals a wq K hD hst hj haft hun hK
      have h3 := hD.out 3 rfl rfl
      replace hst : StPut g6 (.cells #[.int .i64 st, .bool true, .int .u32 e1, .int .u32 m1, .bool f1, .bool s2, .int .u32 e2, .int .u32 m2, .bool f2] 41 (0, 0)) _ wq := hst
      clear hD hj haft hun
      have e3 := eval_of h3
      exact step_now (v := .agg #[.int .i64 st, .bool true, .int .u32 e1, .int .u32 m1, .bool f1, .bool s2, .int .u32 e2, .int .u32 m2, .bool f2]) (w' := wq) (wanted_free rfl) (rg_loadall rfl e3 (Upd.blk hst.1 Bg3_6.out (One.not Ng3g6.out)) Try.underlying41 rfl (by kernel_rfl)) (hK _ _ (stput_refl _ _ _) rfl)
    · intro listed vals a wq K hD hst hj haft hun hK
      have h5 := hD.out 5 rfl rfl
      replace hst : StPut g6 (.cells #[.int .i64 st, .bool true, .int .u32 e1, .int .u32 m1, .bool f1, .bool s2, .int .u32 e2, .int .u32 m2, .bool f2] 41 (0, 0)) _ wq := hst
      clear hD hj haft hun
      have e5 := eval_of h5
      refine step_now (v := .pointer (some ⟨g5, 14, none⟩)) (w' := wq) (wanted_free rfl) ?_ (hK _ _ (stput_refl _ _ _) rfl)
      clear hK
      first | (go_simp; done) | (go_simp; rfl) | (go_simp; (try simp only [IntKind.wrap_u32]); omega)
    · intro listed vals a wq K hD hst hj haft hun hK
      obtain ⟨v37, h37, j37⟩ := hD.dep hj haft 1 37 rfl rfl
      replace j37 : v37 = (.pointer (some ⟨g5, 14, none⟩)) := j37
      subst j37
      replace hst : StPut g6 (.cells #[.int .i64 st, .bool true, .int .u32 e1, .int .u32 m1, .bool f1, .bool s2, .int .u32 e2, .int .u32 m2, .bool f2] 41 (0, 0)) _ wq := hst
      clear hD hj haft hun
      have e37 := eval_of h37
      exact step_now (v := .int .u32 en) (w' := wq) (wanted_free rfl) (rg_load rfl e37 (Upd.blk hst.1 Bg5_6.out (One.not Ng5g6.out)) rfl Try.underlying33 rfl) (hK _ _ (stput_refl _ _ _) rfl)
    · intro listed vals a wq K hD hst hj haft hun hK
      have h9 := hD.out 9 rfl rfl
      replace hst : StPut g6 (.cells #[.int .i64 st, .bool true, .int .u32 e1, .int .u32 m1, .bool f1, .bool s2, .int .u32 e2, .int .u32 m2, .bool f2] 41 (0, 0)) _ wq := hst
      clear hD hj haft hun
      have e9 := eval_of h9
      refine step_now (v := .pointer (some ⟨g8, 1, none⟩)) (w' := wq) (wanted_free rfl) ?_ (hK _ _ (stput_refl _ _ _) rfl)
      clear hK
      first | (go_simp; done) | (go_simp; rfl) | (go_simp; (try simp only [IntKind.wrap_u32]); omega)
    · intro listed vals a wq K hD hst hj haft hun hK
      obtain ⟨v39, h39, j39⟩ := hD.dep hj haft 3 39 rfl rfl
      replace j39 : v39 = (.pointer (some ⟨g8, 1, none⟩)) := j39
      subst j39
      replace hst : StPut g6 (.cells #[.int .i64 st, .bool true, .int .u32 e1, .int .u32 m1, .bool f1, .bool s2, .int .u32 e2, .int .u32 m2, .bool f2] 41 (0, 0)) _ wq := hst
      clear hD hj haft hun
      have e39 := eval_of h39
      refine step_now (v := .pointer (some ⟨g8, 1, none⟩)) (w' := wq) (wanted_free rfl) ?_ (hK _ _ (stput_refl _ _ _) rfl)
      clear hK
      first | (go_simp; done) | (go_simp; rfl) | (go_simp; (try simp only [IntKind.wrap_u32]); omega)
    · intro listed vals a wq K hD hst hj haft hun hK
      obtain ⟨v40, h40, j40⟩ := hD.dep hj haft 4 40 rfl rfl
      replace j40 : v40 = (.pointer (some ⟨g8, 1, none⟩)) := j40
      subst j40
      replace hst : StPut g6 (.cells #[.int .i64 st, .bool true, .int .u32 e1, .int .u32 m1, .bool f1, .bool s2, .int .u32 e2, .int .u32 m2, .bool f2] 41 (0, 0)) _ wq := hst
      clear hD hj haft hun
      have e40 := eval_of h40
      refine step_now (v := .pointer (some ⟨g8, 2, none⟩)) (w' := wq) (wanted_free rfl) ?_ (hK _ _ (stput_refl _ _ _) rfl)
      clear hK
      first | (go_simp; done) | (go_simp; rfl) | (go_simp; (try simp only [IntKind.wrap_u32]); omega)
    · intro listed vals a wq K hD hst hj haft hun hK
      obtain ⟨v41, h41, j41⟩ := hD.dep hj haft 5 41 rfl rfl
      replace j41 : v41 = (.pointer (some ⟨g8, 2, none⟩)) := j41
      subst j41
      replace hst : StPut g6 (.cells #[.int .i64 st, .bool true, .int .u32 e1, .int .u32 m1, .bool f1, .bool s2, .int .u32 e2, .int .u32 m2, .bool f2] 41 (0, 0)) _ wq := hst
      clear hD hj haft hun
      have e41 := eval_of h41
      exact step_now (v := .int .u32 e1) (w' := wq) (wanted_free rfl) (rg_load rfl e41 (Upd.blk hst.1 Bg8_6.out (One.not (Ne.symm Ng6g8.out))) rfl Try.underlying33 rfl) (hK _ _ (stput_refl _ _ _) rfl)
    · intro listed vals a wq K hD hst hj haft hun hK
      obtain ⟨v38, h38, j38⟩ := hD.dep hj haft 2 38 rfl rfl
      replace j38 : v38 = (.int .u32 en) := j38
      subst j38
      obtain ⟨v42, h42, j42⟩ := hD.dep hj haft 6 42 rfl rfl
      replace j42 : v42 = (.int .u32 e1) := j42
      subst j42
      replace hst : StPut g6 (.cells #[.int .i64 st, .bool true, .int .u32 e1, .int .u32 m1, .bool f1, .bool s2, .int .u32 e2, .int .u32 m2, .bool f2] 41 (0, 0)) _ wq := hst
      clear hD hj haft hun
      have e38 := eval_of h38
      have e42 := eval_of h42
      refine step_now (v := .bool false) (w' := wq) (wanted_free rfl) ?_ (hK _ _ (stput_refl _ _ _) rfl)
      clear hK
      first | (go_simp; done) | (go_simp; rfl) | (go_simp; (try simp only [IntKind.wrap_u32]); omega)
    · intro listed vals a wq K hD hst hj haft hun hK
      obtain ⟨v43, h43, j43⟩ := hD.dep hj haft 7 43 rfl rfl
      replace j43 : v43 = (.bool false) := j43
      subst j43
      replace hst : StPut g6 (.cells #[.int .i64 st, .bool true, .int .u32 e1, .int .u32 m1, .bool f1, .bool s2, .int .u32 e2, .int .u32 m2, .bool f2] 41 (0, 0)) _ wq := hst
      clear hD hj haft hun
      have e43 := eval_of h43
      refine step_now (v := .bool false) (w' := wq) (wanted_free rfl) ?_ (hK _ _ (stput_refl _ _ _) rfl)
      clear hK
      first | (go_simp; done) | (go_simp; rfl) | (go_simp; (try simp only [IntKind.wrap_u32]); omega)
    · intro listed vals a wq K hD hst hj haft hun hK
      obtain ⟨v44, h44, j44⟩ := hD.dep hj haft 8 44 rfl rfl
      replace j44 : v44 = (.bool false) := j44
      subst j44
      have h3 := hD.out 3 rfl rfl
      replace hst : StPut g6 (.cells #[.int .i64 st, .bool true, .int .u32 e1, .int .u32 m1, .bool f1, .bool s2, .int .u32 e2, .int .u32 m2, .bool f2] 41 (0, 0)) _ wq := hst
      clear hD hj haft hun
      have e3 := eval_of h3
      exact step_off (wanted_off (t := 44) (u := true) rfl rfl rfl h44) (hK _ _ (stput_refl _ _ _) rfl)
    · intro listed vals a wq K hD hst hj haft hun hK
      obtain ⟨v45, h45, j45⟩ := hD.dep hj haft 9 45 rfl rfl
      replace j45 : v45 = (undef) := j45
      subst j45
      obtain ⟨v44, h44, j44⟩ := hD.dep hj haft 8 44 rfl rfl
      replace j44 : v44 = (.bool false) := j44
      subst j44
      replace hst : StPut g6 (.cells #[.int .i64 st, .bool true, .int .u32 e1, .int .u32 m1, .bool f1, .bool s2, .int .u32 e2, .int .u32 m2, .bool f2] 41 (0, 0)) _ wq := hst
      clear hD hj haft hun
      have e45 := eval_of h45
      exact step_off (wanted_off (t := 44) (u := true) rfl rfl rfl h44) (hK _ _ (stput_refl _ _ _) rfl)
    · intro listed vals a wq K hD hst hj haft hun hK
      obtain ⟨v46, h46, j46⟩ := hD.dep hj haft 10 46 rfl rfl
      replace j46 : v46 = (undef) := j46
      subst j46
      obtain ⟨v44, h44, j44⟩ := hD.dep hj haft 8 44 rfl rfl
      replace j44 : v44 = (.bool false) := j44
      subst j44
      replace hst : StPut g6 (.cells #[.int .i64 st, .bool true, .int .u32 e1, .int .u32 m1, .bool f1, .bool s2, .int .u32 e2, .int .u32 m2, .bool f2] 41 (0, 0)) _ wq := hst
      clear hD hj haft hun
      have e46 := eval_of h46
      exact step_off (wanted_off (t := 44) (u := true) rfl rfl rfl h44) (hK _ _ (stput_refl _ _ _) rfl)
    · intro listed vals a wq K hD hst hj haft hun hK
      obtain ⟨v44, h44, j44⟩ := hD.dep hj haft 8 44 rfl rfl
      replace j44 : v44 = (.bool false) := j44
      subst j44
      obtain ⟨v47, h47, j47⟩ := hD.dep hj haft 11 47 rfl rfl
      replace j47 : v47 = (undef) := j47
      subst j47
      replace hst : StPut g6 (.cells #[.int .i64 st, .bool true, .int .u32 e1, .int .u32 m1, .bool f1, .bool s2, .int .u32 e2, .int .u32 m2, .bool f2] 41 (0, 0)) _ wq := hst
      clear hD hj haft hun
      have e44 := eval_of h44
      have e47 := eval_of h47
      refine step_now (v := .bool false) (w' := wq) (wanted_free rfl) ?_ (hK _ _ (stput_refl _ _ _) rfl)
      clear hK
      first | (go_simp; done) | (go_simp; rfl) | (go_simp; (try simp only [IntKind.wrap_u32]); omega)
    · intro listed vals a wq K hD hst hj haft hun hK
      obtain ⟨v36, h36, j36⟩ := hD.dep hj haft 0 36 rfl rfl
      replace j36 : v36 = (.agg #[.int .i64 st, .bool true, .int .u32 e1, .int .u32 m1, .bool f1, .bool s2, .int .u32 e2, .int .u32 m2, .bool f2]) := j36
      subst j36
      have h6 := hD.out 6 rfl rfl
      replace hst : StPut g6 (.cells #[.int .i64 st, .bool true, .int .u32 e1, .int .u32 m1, .bool f1, .bool s2, .int .u32 e2, .int .u32 m2, .bool f2] 41 (0, 0)) _ wq := hst
      clear hD hj haft hun
      have e6 := eval_of h6
      have e36 := eval_of h36
      refine rg_step_store (cells := #[.int .i64 st, .bool true, .int .u32 e1, .int .u32 m1, .bool f1, .bool s2, .int .u32 e2, .int .u32 m2, .bool f2]) (wanted_free rfl) rfl e6 e36 Bg6_6.out hst (by kernel_rfl) rfl rfl (fun w2 hs2 hg2 => hK _ _ hs2 hg2)
    · intro listed vals a wq K hD hst hj haft hun hK
      obtain ⟨v48, h48, j48⟩ := hD.dep hj haft 12 48 rfl rfl
      replace j48 : v48 = (.bool false) := j48
      subst j48
      replace hst : StPut g6 (.cells #[.int .i64 st, .bool true, .int .u32 e1, .int .u32 m1, .bool f1, .bool s2, .int .u32 e2, .int .u32 m2, .bool f2] 41 (0, 0)) _ wq := hst
      clear hD hj haft hun
      have e48 := eval_of h48
      refine step_now (v := .bool false) (w' := wq) (wanted_free rfl) ?_ (hK _ _ (stput_refl _ _ _) rfl)
      clear hK
      first | (go_simp; done) | (go_simp; rfl) | (go_simp; (try simp only [IntKind.wrap_u32]); omega)
  case hEnd =>
    intro vals wend hst hj
    have j0 : vals 0 = (.agg #[.int .i64 st, .bool true, .int .u32 e1, .int .u32 m1, .bool f1, .bool s2, .int .u32 e2, .int .u32 m2, .bool f2]) := hj 0 (by decide)
    have j1 : vals 1 = (.pointer (some ⟨g5, 14, none⟩)) := hj 1 (by decide)
    have j2 : vals 2 = (.int .u32 en) := hj 2 (by decide)
    have j3 : vals 3 = (.pointer (some ⟨g8, 1, none⟩)) := hj 3 (by decide)
    have j4 : vals 4 = (.pointer (some ⟨g8, 1, none⟩)) := hj 4 (by decide)
    have j5 : vals 5 = (.pointer (some ⟨g8, 2, none⟩)) := hj 5 (by decide)
    have j6 : vals 6 = (.int .u32 e1) := hj 6 (by decide)
    have j7 : vals 7 = (.bool false) := hj 7 (by decide)
    have j8 : vals 8 = (.bool false) := hj 8 (by decide)
    have j9 : vals 9 = (undef) := hj 9 (by decide)
    have j10 : vals 10 = (undef) := hj 10 (by decide)
    have j11 : vals 11 = (undef) := hj 11 (by decide)
    have j12 : vals 12 = (.bool false) := hj 12 (by decide)
    have j13 : (fun (v : Value) (w1 : World) => w1.heap[g6]? = some (.cells #[.int .i64 st, .bool true, .int .u32 e1, .int .u32 m1, .bool f1, .bool s2, .int .u32 e2, .int .u32 m2, .bool f2] 41 (0, 0))) (vals 13) wend := hj 13 (by decide)
    have j14 : vals 14 = (.bool false) := hj 14 (by decide)
    replace hst : StPut g6 (.cells #[.int .i64 st, .bool true, .int .u32 e1, .int .u32 m1, .bool f1, .bool s2, .int .u32 e2, .int .u32 m2, .bool f2] 41 (0, 0)) _ wend := hst
    clear hj
    rw [putAll_list]
    simp only [putL, Act.put, List.setIfInBounds_toArray, List.set_cons_zero, List.set_cons_succ, j0, j1, j2, j3, j4, j5, j6, j7, j8, j9, j10, j11, j12, j14]
    clear j0 j1 j2 j3 j4 j5 j6 j7 j8 j9 j10 j11 j12 j14
    have HB_7 := Aside0.mk (below_upd HB_6.out hst.1 (below_size HB_6.out) (fun k hk => by cases hk; exact Lg6.out))
    clear HB_6
    have Bg3_7 := Aside0.mk (Upd.blk hst.1 Bg3_6.out (One.not Ng3g6.out))
    clear Bg3_6
    have Bg5_7 := Aside0.mk (Upd.blk hst.1 Bg5_6.out (One.not Ng5g6.out))
    clear Bg5_6
    have Bg8_7 := Aside0.mk (Upd.blk hst.1 Bg8_6.out (One.not (Ne.symm Ng6g8.out)))
    clear Bg8_6
    have Bg6_7 := Aside0.mk (show wend.heap[g6]? = some (.cells #[.int .i64 st, .bool true, .int .u32 e1, .int .u32 m1, .bool f1, .bool s2, .int .u32 e2, .int .u32 m2, .bool f2] 41 (0, 0)) from j13)
    clear hst j13 Bg6_6
    go_wp2_with (fail)
    exact bodyPost_ret (results_ct rfl _ _ g6 41 #[.int .i64 st, .bool true, .int .u32 e1, .int .u32 m1, .bool f1, .bool s2, .int .u32 e2, .int .u32 m2, .bool f2] (0, 0) _ rfl Bg6_7.out Try.underlying41 rfl (by kernel_rfl)) rfl ⟨rfl, HB_7.out⟩
set_option maxRecDepth 100000 in
set_option maxHeartbeats 4000000 in
theorem sy_f_no (st e1 m1 e2 m2 : Int) (f1 s2 f2 : Bool) (sp dp sq ak fl wi ty co he da en : Int) (sy ac : Bool) (w : World) (hd : (da != 0) = false) : Calls Try.prog 42 #[.agg #[.int .i64 st, .bool false, .int .u32 e1, .int .u32 m1, .bool f1, .bool s2, .int .u32 e2, .int .u32 m2, .bool f2], .bool false, .agg #[.int .i64 sp, .int .i64 dp, .int .u32 sq, .int .u32 ak, .int .i64 fl, .int .i64 wi, .int .i64 ty, .int .i64 co, .int .i64 he, .int .i64 da, .bool sy, .bool false, .bool false, .bool ac, .int .u32 en]] w fun e w' => e = .returned (.tuple #[.agg #[.int .i64 st, .bool false, .int .u32 e1, .int .u32 m1, .bool f1, .bool s2, .int .u32 e2, .int .u32 m2, .bool f2], .bool false]) ∧ Below w.heap.size w w' := by
  go_enter Try.func42, Try.ntmps42
  go_upto_region 7 with (first | ((with_reducible refine gate_dst (N := 3) rfl ?_); refine box_event ?hg (N := 3) ?hd (cs := #[.int .i64 st, .bool false, .int .u32 e1, .int .u32 m1, .bool f1, .bool s2, .int .u32 e2, .int .u32 m2, .bool f2]) (t := 41) ?hr ?_; (case hd => rfl); (case hg => rfl); (case hr => first | (go_simp; done) | (go_simp; rfl)); intro g3 hgg wx1 hbox hb; have Lg3 := Aside0.mk (show w.heap.size ≤ g3 by rw [hgg]; exact Nat.le_refl _); have HB_1 := Aside0.mk (hb); have Bg3_1 := Aside0.mk hbox; clear hbox hb hgg) | ((with_reducible refine gate_dst (N := 5) rfl ?_); refine box_event ?hg (N := 5) ?hd (cs := #[.int .i64 sp, .int .i64 dp, .int .u32 sq, .int .u32 ak, .int .i64 fl, .int .i64 wi, .int .i64 ty, .int .i64 co, .int .i64 he, .int .i64 da, .bool sy, .bool false, .bool false, .bool ac, .int .u32 en]) (t := 95) ?hr ?_; (case hd => rfl); (case hg => rfl); (case hr => first | (go_simp; done) | (go_simp; rfl)); intro g5 hgg wx2 hbox hb; have Ng3g5 := Aside0.mk (show g3 ≠ g5 by rw [hgg]; exact Nat.ne_of_lt (blk_lt Bg3_1.out)); have Lg5 := Aside0.mk (show w.heap.size ≤ g5 by rw [hgg]; exact below_size HB_1.out); have HB_2 := Aside0.mk (below_step HB_1.out hb); clear HB_1; have Bg3_2 := Aside0.mk (blk_below Bg3_1.out hb); clear Bg3_1; have Bg5_2 := Aside0.mk hbox; clear hbox hb hgg) | ((with_reducible refine gate_dst (N := 6) rfl ?_); refine box_event ?hg (N := 6) ?hd (cs := #[.int .i64 0, .bool false, .int .u32 0, .int .u32 0, .bool false, .bool false, .int .u32 0, .int .u32 0, .bool false]) (t := 41) ?hr ?_; (case hd => rfl); (case hg => rfl); (case hr => first | (go_simp; done) | (go_simp; rfl)); intro g6 hgg wx3 hbox hb; have Ng3g6 := Aside0.mk (show g3 ≠ g6 by rw [hgg]; exact Nat.ne_of_lt (blk_lt Bg3_2.out)); have Ng5g6 := Aside0.mk (show g5 ≠ g6 by rw [hgg]; exact Nat.ne_of_lt (blk_lt Bg5_2.out)); have Lg6 := Aside0.mk (show w.heap.size ≤ g6 by rw [hgg]; exact below_size HB_2.out); have HB_3 := Aside0.mk (below_step HB_2.out hb); clear HB_2; have Bg3_3 := Aside0.mk (blk_below Bg3_2.out hb); clear Bg3_2; have Bg5_3 := Aside0.mk (blk_below Bg5_2.out hb); clear Bg5_2; have Bg6_3 := Aside0.mk hbox; clear hbox hb hgg) | ((with_reducible refine gate_dst (N := 11) rfl ?_); refine load_event rfl 41 _ rfl g3 rfl _ _ _ Bg3_3.out Try.underlying41 rfl (by kernel_rfl) ?_) | ((with_reducible refine gate_dst (N := 8) rfl ?_); refine box_event ?hg (N := 8) ?hd (cs := #[.int .i64 0, .bool false, .int .u32 0, .int .u32 0, .bool false, .bool false, .int .u32 0, .int .u32 0, .bool false]) (t := 41) ?hr ?_; (case hd => rfl); (case hg => rfl); (case hr => first | (go_simp; done) | (go_simp; rfl)); intro g8 hgg wx4 hbox hb; have Ng3g8 := Aside0.mk (show g3 ≠ g8 by rw [hgg]; exact Nat.ne_of_lt (blk_lt Bg3_3.out)); have Ng5g8 := Aside0.mk (show g5 ≠ g8 by rw [hgg]; exact Nat.ne_of_lt (blk_lt Bg5_3.out)); have Ng6g8 := Aside0.mk (show g6 ≠ g8 by rw [hgg]; exact Nat.ne_of_lt (blk_lt Bg6_3.out)); have Lg8 := Aside0.mk (show w.heap.size ≤ g8 by rw [hgg]; exact below_size HB_3.out); have HB_4 := Aside0.mk (below_step HB_3.out hb); clear HB_3; have Bg3_4 := Aside0.mk (blk_below Bg3_3.out hb); clear Bg3_3; have Bg5_4 := Aside0.mk (blk_below Bg5_3.out hb); clear Bg5_3; have Bg6_4 := Aside0.mk (blk_below Bg6_3.out hb); clear Bg6_3; have Bg8_4 := Aside0.mk hbox; clear hbox hb hgg) | ((with_reducible refine gate_store (t := 41) (p := 8) rfl ?_); refine store_event rfl 41 _ _ rfl g8 _ rfl rfl _ _ Bg8_4.out (by kernel_rfl) rfl rfl ?_; intro wx5 hst hu; have HB_5 := Aside0.mk (below_upd HB_4.out hu (below_size HB_4.out) (fun k hk => by cases hk; exact Lg8.out)); clear HB_4; have Bg3_5 := Aside0.mk (Upd.blk hu Bg3_4.out (One.not Ng3g8.out)); clear Bg3_4; have Bg5_5 := Aside0.mk (Upd.blk hu Bg5_4.out (One.not Ng5g8.out)); clear Bg5_4; have Bg6_5 := Aside0.mk (Upd.blk hu Bg6_4.out (One.not Ng6g8.out)); clear Bg6_4; have Bg8_5 := Aside0.mk hst; clear hst hu Bg8_4) | (go_at_call 40; refine (sides_f g8 _).mono ?_; rintro e wx6 ⟨rfl, hb⟩; have HB_6 := Aside0.mk (below_step HB_5.out hb); clear HB_5; have Bg3_6 := Aside0.mk (blk_below Bg3_5.out hb); clear Bg3_5; have Bg5_6 := Aside0.mk (blk_below Bg5_5.out hb); clear Bg5_5; have Bg6_6 := Aside0.mk (blk_below Bg6_5.out hb); clear Bg6_5; have Bg8_6 := Aside0.mk (blk_below Bg8_5.out hb); clear Bg8_5; clear hb) | ((with_reducible refine gate_dst (N := 19) rfl ?_); refine load1_event rfl _ _ rfl g5 11 rfl _ _ _ _ Bg5_6.out rfl Try.underlying4 rfl ?_) | ((with_reducible refine gate_dst (N := 22) rfl ?_); (refine gate_guard (by rfl) ?_; dsimp only); refine load1_event rfl _ _ rfl g5 12 rfl _ _ _ _ Bg5_6.out rfl Try.underlying4 rfl ?_) | ((with_reducible refine gate_dst (N := 27) rfl ?_); (refine gate_guard (by rfl) ?_; dsimp only); refine load1_event rfl _ _ rfl g5 9 rfl _ _ _ _ Bg5_6.out rfl Try.underlying3 rfl ?_) | ((with_reducible refine gate_dst (N := 35) rfl ?_); refine load1_event rfl _ _ rfl g8 1 rfl _ _ _ _ Bg8_6.out rfl Try.underlying4 rfl ?_))
  refine wp_region_rg (by kernel_rfl) (fun x y => Below x.heap.size x y) (fun (i : Nat) (v : Value) (w1 : World) => match i with | 0 => v = (.bool false) | 1 => v = (.bool true) | 2 => v = (.bool true) | 3 => v = (undef) | 4 => v = (undef) | 5 => v = (undef) | 6 => v = (.bool true) | 7 => v = (.bool true) | 8 => v = (undef) | 9 => v = (undef) | 10 => v = (undef) | 11 => v = (.bool true) | 12 => v = (.bool true) | 13 => v = (undef) | 14 => v = (undef) | 15 => v = (undef) | 16 => v = (undef) | 17 => v = (undef) | 18 => v = (undef) | 19 => v = (undef) | 20 => v = (undef) | 21 => v = (.bool true) | 22 => v = (.bool true) | _ => True) (by kernel_rfl) (by kernel_rfl) below_tr (Below.refl _ _).drew ?hJst (obl_list ?hObl) ?hEnd
  case hJst =>
    intro i v wx wy hi hs0 hs1 hJi
    match i, hi with
    | 0, _ => exact hJi
    | 1, _ => exact hJi
    | 2, _ => exact hJi
    | 3, _ => exact hJi
    | 4, _ => exact hJi
    | 5, _ => exact hJi
    | 6, _ => exact hJi
    | 7, _ => exact hJi
    | 8, _ => exact hJi
    | 9, _ => exact hJi
    | 10, _ => exact hJi
    | 11, _ => exact hJi
    | 12, _ => exact hJi
    | 13, _ => exact hJi
    | 14, _ => exact hJi
    | 15, _ => exact hJi
    | 16, _ => exact hJi
    | 17, _ => exact hJi
    | 18, _ => exact hJi
    | 19, _ => exact hJi
    | 20, _ => exact hJi
    | 21, _ => exact hJi
    | 22, _ => exact hJi
    | _ + 23, hi => exact absurd hi (by simp)
  case hObl =>
    refine ⟨?_, ?_, ?_, ?_, ?_, ?_, ?_, ?_, ?_, ?_, ?_, ?_, ?_, ?_, ?_, ?_, ?_, ?_, ?_, ?_, ?_, ?_, ?_,  trivial⟩
    · intro listed vals a wq K hD hst hj haft hun hK
      have h1 := hD.out 1 rfl rfl
      replace hst : Below _ _ wq := hst
      clear hD hj haft hun
      have e1 := eval_of h1
      refine step_now (v := .bool false) (w' := wq) (wanted_free rfl) ?_ (hK _ _ (Below.refl _ _) rfl)
      clear hK
      first | (go_simp; done) | (go_simp; rfl) | (go_simp; (try simp only [IntKind.wrap_u32]); omega)
    · intro listed vals a wq K hD hst hj haft hun hK
      obtain ⟨v50, h50, j50⟩ := hD.dep hj haft 0 50 rfl rfl
      replace j50 : v50 = (.bool false) := j50
      subst j50
      replace hst : Below _ _ wq := hst
      clear hD hj haft hun
      have e50 := eval_of h50
      refine step_now (v := .bool true) (w' := wq) (wanted_free rfl) ?_ (hK _ _ (Below.refl _ _) rfl)
      clear hK
      first | (go_simp; done) | (go_simp; rfl) | (go_simp; (try simp only [IntKind.wrap_u32]); omega)
    · intro listed vals a wq K hD hst hj haft hun hK
      obtain ⟨v51, h51, j51⟩ := hD.dep hj haft 1 51 rfl rfl
      replace j51 : v51 = (.bool true) := j51
      subst j51
      replace hst : Below _ _ wq := hst
      clear hD hj haft hun
      have e51 := eval_of h51
      refine step_now (v := .bool true) (w' := wq) (wanted_free rfl) ?_ (hK _ _ (Below.refl _ _) rfl)
      clear hK
      first | (go_simp; done) | (go_simp; rfl) | (go_simp; (try simp only [IntKind.wrap_u32]); omega)
    · intro listed vals a wq K hD hst hj haft hun hK
      obtain ⟨v52, h52, j52⟩ := hD.dep hj haft 2 52 rfl rfl
      replace j52 : v52 = (.bool true) := j52
      subst j52
      have h3 := hD.out 3 rfl rfl
      replace hst : Below _ _ wq := hst
      clear hD hj haft hun
      have e3 := eval_of h3
      exact step_off (wanted_off (t := 52) (u := false) rfl rfl rfl h52) (hK _ _ (Below.refl _ _) rfl)
    · intro listed vals a wq K hD hst hj haft hun hK
      obtain ⟨v53, h53, j53⟩ := hD.dep hj haft 3 53 rfl rfl
      replace j53 : v53 = (undef) := j53
      subst j53
      obtain ⟨v52, h52, j52⟩ := hD.dep hj haft 2 52 rfl rfl
      replace j52 : v52 = (.bool true) := j52
      subst j52
      replace hst : Below _ _ wq := hst
      clear hD hj haft hun
      have e53 := eval_of h53
      exact step_off (wanted_off (t := 52) (u := false) rfl rfl rfl h52) (hK _ _ (Below.refl _ _) rfl)
    · intro listed vals a wq K hD hst hj haft hun hK
      obtain ⟨v54, h54, j54⟩ := hD.dep hj haft 4 54 rfl rfl
      replace j54 : v54 = (undef) := j54
      subst j54
      obtain ⟨v52, h52, j52⟩ := hD.dep hj haft 2 52 rfl rfl
      replace j52 : v52 = (.bool true) := j52
      subst j52
      replace hst : Below _ _ wq := hst
      clear hD hj haft hun
      have e54 := eval_of h54
      exact step_off (wanted_off (t := 52) (u := false) rfl rfl rfl h52) (hK _ _ (Below.refl _ _) rfl)
    · intro listed vals a wq K hD hst hj haft hun hK
      obtain ⟨v52, h52, j52⟩ := hD.dep hj haft 2 52 rfl rfl
      replace j52 : v52 = (.bool true) := j52
      subst j52
      obtain ⟨v55, h55, j55⟩ := hD.dep hj haft 5 55 rfl rfl
      replace j55 : v55 = (undef) := j55
      subst j55
      replace hst : Below _ _ wq := hst
      clear hD hj haft hun
      have e52 := eval_of h52
      have e55 := eval_of h55
      refine step_now (v := .bool true) (w' := wq) (wanted_free rfl) ?_ (hK _ _ (Below.refl _ _) rfl)
      clear hK
      first | (go_simp; done) | (go_simp; rfl) | (go_simp; (try simp only [IntKind.wrap_u32]); omega)
    · intro listed vals a wq K hD hst hj haft hun hK
      obtain ⟨v56, h56, j56⟩ := hD.dep hj haft 6 56 rfl rfl
      replace j56 : v56 = (.bool true) := j56
      subst j56
      replace hst : Below _ _ wq := hst
      clear hD hj haft hun
      have e56 := eval_of h56
      refine step_now (v := .bool true) (w' := wq) (wanted_free rfl) ?_ (hK _ _ (Below.refl _ _) rfl)
      clear hK
      first | (go_simp; done) | (go_simp; rfl) | (go_simp; (try simp only [IntKind.wrap_u32]); omega)
    · intro listed vals a wq K hD hst hj haft hun hK
      obtain ⟨v57, h57, j57⟩ := hD.dep hj haft 7 57 rfl rfl
      replace j57 : v57 = (.bool true) := j57
      subst j57
      have h5 := hD.out 5 rfl rfl
      replace hst : Below _ _ wq := hst
      clear hD hj haft hun
      have e5 := eval_of h5
      exact step_off (wanted_off (t := 57) (u := false) rfl rfl rfl h57) (hK _ _ (Below.refl _ _) rfl)
    · intro listed vals a wq K hD hst hj haft hun hK
      obtain ⟨v58, h58, j58⟩ := hD.dep hj haft 8 58 rfl rfl
      replace j58 : v58 = (undef) := j58
      subst j58
      obtain ⟨v57, h57, j57⟩ := hD.dep hj haft 7 57 rfl rfl
      replace j57 : v57 = (.bool true) := j57
      subst j57
      replace hst : Below _ _ wq := hst
      clear hD hj haft hun
      have e58 := eval_of h58
      exact step_off (wanted_off (t := 57) (u := false) rfl rfl rfl h57) (hK _ _ (Below.refl _ _) rfl)
    · intro listed vals a wq K hD hst hj haft hun hK
      obtain ⟨v59, h59, j59⟩ := hD.dep hj haft 9 59 rfl rfl
      replace j59 : v59 = (undef) := j59
      subst j59
      obtain ⟨v57, h57, j57⟩ := hD.dep hj haft 7 57 rfl rfl
      replace j57 : v57 = (.bool true) := j57
      subst j57
      replace hst : Below _ _ wq := hst
      clear hD hj haft hun
      have e59 := eval_of h59
      exact step_off (wanted_off (t := 57) (u := false) rfl rfl rfl h57) (hK _ _ (Below.refl _ _) rfl)
    · intro listed vals a wq K hD hst hj haft hun hK
      obtain ⟨v57, h57, j57⟩ := hD.dep hj haft 7 57 rfl rfl
      replace j57 : v57 = (.bool true) := j57
      subst j57
      obtain ⟨v60, h60, j60⟩ := hD.dep hj haft 10 60 rfl rfl
      replace j60 : v60 = (undef) := j60
      subst j60
      replace hst : Below _ _ wq := hst
      clear hD hj haft hun
      have e57 := eval_of h57
      have e60 := eval_of h60
      refine step_now (v := .bool true) (w' := wq) (wanted_free rfl) ?_ (hK _ _ (Below.refl _ _) rfl)
      clear hK
      first | (go_simp; done) | (go_simp; rfl) | (go_simp; (try simp only [IntKind.wrap_u32]); omega)
    · intro listed vals a wq K hD hst hj haft hun hK
      obtain ⟨v61, h61, j61⟩ := hD.dep hj haft 11 61 rfl rfl
      replace j61 : v61 = (.bool true) := j61
      subst j61
      replace hst : Below _ _ wq := hst
      clear hD hj haft hun
      have e61 := eval_of h61
      refine step_now (v := .bool true) (w' := wq) (wanted_free rfl) ?_ (hK _ _ (Below.refl _ _) rfl)
      clear hK
      first | (go_simp; done) | (go_simp; rfl) | (go_simp; (try simp only [IntKind.wrap_u32]); omega)
    · intro listed vals a wq K hD hst hj haft hun hK
      obtain ⟨v62, h62, j62⟩ := hD.dep hj haft 12 62 rfl rfl
      replace j62 : v62 = (.bool true) := j62
      subst j62
      have h5 := hD.out 5 rfl rfl
      replace hst : Below _ _ wq := hst
      clear hD hj haft hun
      have e5 := eval_of h5
      exact step_off (wanted_off (t := 62) (u := false) rfl rfl rfl h62) (hK _ _ (Below.refl _ _) rfl)
    · intro listed vals a wq K hD hst hj haft hun hK
      obtain ⟨v63, h63, j63⟩ := hD.dep hj haft 13 63 rfl rfl
      replace j63 : v63 = (undef) := j63
      subst j63
      obtain ⟨v62, h62, j62⟩ := hD.dep hj haft 12 62 rfl rfl
      replace j62 : v62 = (.bool true) := j62
      subst j62
      replace hst : Below _ _ wq := hst
      clear hD hj haft hun
      have e63 := eval_of h63
      exact step_off (wanted_off (t := 62) (u := false) rfl rfl rfl h62) (hK _ _ (Below.refl _ _) rfl)
    · intro listed vals a wq K hD hst hj haft hun hK
      obtain ⟨v64, h64, j64⟩ := hD.dep hj haft 14 64 rfl rfl
      replace j64 : v64 = (undef) := j64
      subst j64
      obtain ⟨v62, h62, j62⟩ := hD.dep hj haft 12 62 rfl rfl
      replace j62 : v62 = (.bool true) := j62
      subst j62
      replace hst : Below _ _ wq := hst
      clear hD hj haft hun
      have e64 := eval_of h64
      exact step_off (wanted_off (t := 62) (u := false) rfl rfl rfl h62) (hK _ _ (Below.refl _ _) rfl)
    · intro listed vals a wq K hD hst hj haft hun hK
      obtain ⟨v62, h62, j62⟩ := hD.dep hj haft 12 62 rfl rfl
      replace j62 : v62 = (.bool true) := j62
      subst j62
      have h10 := hD.out 10 rfl rfl
      replace hst : Below _ _ wq := hst
      clear hD hj haft hun
      have e10 := eval_of h10
      exact step_off (wanted_off (t := 62) (u := false) rfl rfl rfl h62) (hK _ _ (Below.refl _ _) rfl)
    · intro listed vals a wq K hD hst hj haft hun hK
      obtain ⟨v66, h66, j66⟩ := hD.dep hj haft 16 66 rfl rfl
      replace j66 : v66 = (undef) := j66
      subst j66
      obtain ⟨v62, h62, j62⟩ := hD.dep hj haft 12 62 rfl rfl
      replace j62 : v62 = (.bool true) := j62
      subst j62
      replace hst : Below _ _ wq := hst
      clear hD hj haft hun
      have e66 := eval_of h66
      exact step_off (wanted_off (t := 62) (u := false) rfl rfl rfl h62) (hK _ _ (Below.refl _ _) rfl)
    · intro listed vals a wq K hD hst hj haft hun hK
      obtain ⟨v67, h67, j67⟩ := hD.dep hj haft 17 67 rfl rfl
      replace j67 : v67 = (undef) := j67
      subst j67
      obtain ⟨v62, h62, j62⟩ := hD.dep hj haft 12 62 rfl rfl
      replace j62 : v62 = (.bool true) := j62
      subst j62
      replace hst : Below _ _ wq := hst
      clear hD hj haft hun
      have e67 := eval_of h67
      exact step_off (wanted_off (t := 62) (u := false) rfl rfl rfl h62) (hK _ _ (Below.refl _ _) rfl)
    · intro listed vals a wq K hD hst hj haft hun hK
      obtain ⟨v68, h68, j68⟩ := hD.dep hj haft 18 68 rfl rfl
      replace j68 : v68 = (undef) := j68
      subst j68
      obtain ⟨v62, h62, j62⟩ := hD.dep hj haft 12 62 rfl rfl
      replace j62 : v62 = (.bool true) := j62
      subst j62
      replace hst : Below _ _ wq := hst
      clear hD hj haft hun
      have e68 := eval_of h68
      exact step_off (wanted_off (t := 62) (u := false) rfl rfl rfl h62) (hK _ _ (Below.refl _ _) rfl)
    · intro listed vals a wq K hD hst hj haft hun hK
      obtain ⟨v65, h65, j65⟩ := hD.dep hj haft 15 65 rfl rfl
      replace j65 : v65 = (undef) := j65
      subst j65
      obtain ⟨v69, h69, j69⟩ := hD.dep hj haft 19 69 rfl rfl
      replace j69 : v69 = (undef) := j69
      subst j69
      obtain ⟨v62, h62, j62⟩ := hD.dep hj haft 12 62 rfl rfl
      replace j62 : v62 = (.bool true) := j62
      subst j62
      replace hst : Below _ _ wq := hst
      clear hD hj haft hun
      have e65 := eval_of h65
      have e69 := eval_of h69
      exact step_off (wanted_off (t := 62) (u := false) rfl rfl rfl h62) (hK _ _ (Below.refl _ _) rfl)
    · intro listed vals a wq K hD hst hj haft hun hK
      obtain ⟨v62, h62, j62⟩ := hD.dep hj haft 12 62 rfl rfl
      replace j62 : v62 = (.bool true) := j62
      subst j62
      obtain ⟨v70, h70, j70⟩ := hD.dep hj haft 20 70 rfl rfl
      replace j70 : v70 = (undef) := j70
      subst j70
      replace hst : Below _ _ wq := hst
      clear hD hj haft hun
      have e62 := eval_of h62
      have e70 := eval_of h70
      refine step_now (v := .bool true) (w' := wq) (wanted_free rfl) ?_ (hK _ _ (Below.refl _ _) rfl)
      clear hK
      first | (go_simp; done) | (go_simp; rfl) | (go_simp; (try simp only [IntKind.wrap_u32]); omega)
    · intro listed vals a wq K hD hst hj haft hun hK
      obtain ⟨v71, h71, j71⟩ := hD.dep hj haft 21 71 rfl rfl
      replace j71 : v71 = (.bool true) := j71
      subst j71
      replace hst : Below _ _ wq := hst
      clear hD hj haft hun
      have e71 := eval_of h71
      refine step_now (v := .bool true) (w' := wq) (wanted_free rfl) ?_ (hK _ _ (Below.refl _ _) rfl)
      clear hK
      first | (go_simp; done) | (go_simp; rfl) | (go_simp; (try simp only [IntKind.wrap_u32]); omega)
  case hEnd =>
    intro vals wend hst hj
    have j0 : vals 0 = (.bool false) := hj 0 (by decide)
    have j1 : vals 1 = (.bool true) := hj 1 (by decide)
    have j2 : vals 2 = (.bool true) := hj 2 (by decide)
    have j3 : vals 3 = (undef) := hj 3 (by decide)
    have j4 : vals 4 = (undef) := hj 4 (by decide)
    have j5 : vals 5 = (undef) := hj 5 (by decide)
    have j6 : vals 6 = (.bool true) := hj 6 (by decide)
    have j7 : vals 7 = (.bool true) := hj 7 (by decide)
    have j8 : vals 8 = (undef) := hj 8 (by decide)
    have j9 : vals 9 = (undef) := hj 9 (by decide)
    have j10 : vals 10 = (undef) := hj 10 (by decide)
    have j11 : vals 11 = (.bool true) := hj 11 (by decide)
    have j12 : vals 12 = (.bool true) := hj 12 (by decide)
    have j13 : vals 13 = (undef) := hj 13 (by decide)
    have j14 : vals 14 = (undef) := hj 14 (by decide)
    have j15 : vals 15 = (undef) := hj 15 (by decide)
    have j16 : vals 16 = (undef) := hj 16 (by decide)
    have j17 : vals 17 = (undef) := hj 17 (by decide)
    have j18 : vals 18 = (undef) := hj 18 (by decide)
    have j19 : vals 19 = (undef) := hj 19 (by decide)
    have j20 : vals 20 = (undef) := hj 20 (by decide)
    have j21 : vals 21 = (.bool true) := hj 21 (by decide)
    have j22 : vals 22 = (.bool true) := hj 22 (by decide)
    replace hst : Below _ _ wend := hst
    clear hj
    rw [putAll_list]
    simp only [putL, Act.put, List.setIfInBounds_toArray, List.set_cons_zero, List.set_cons_succ, j0, j1, j2, j3, j4, j5, j6, j7, j8, j9, j10, j11, j12, j13, j14, j15, j16, j17, j18, j19, j20, j21, j22]
    clear j0 j1 j2 j3 j4 j5 j6 j7 j8 j9 j10 j11 j12 j13 j14 j15 j16 j17 j18 j19 j20 j21 j22
    have HB_7 := Aside0.mk (below_step HB_6.out hst)
    clear HB_6
    have Bg3_7 := Aside0.mk (blk_below Bg3_6.out hst)
    clear Bg3_6
    have Bg5_7 := Aside0.mk (blk_below Bg5_6.out hst)
    clear Bg5_6
    have Bg6_7 := Aside0.mk (blk_below Bg6_6.out hst)
    clear Bg6_6
    have Bg8_7 := Aside0.mk (blk_below Bg8_6.out hst)
    clear Bg8_6
    clear hst
    go_wp2_with (first | ((with_reducible refine gate_dst (N := 72) rfl ?_); refine load_event rfl 41 _ rfl g3 rfl _ _ _ Bg3_7.out Try.underlying41 rfl (by kernel_rfl) ?_) | ((with_reducible refine gate_store (t := 41) (p := 6) rfl ?_); refine store_event rfl 41 _ _ rfl g6 _ rfl rfl _ _ Bg6_7.out (by kernel_rfl) rfl rfl ?_; intro wx8 hst hu; have HB_8 := Aside0.mk (below_upd HB_7.out hu (below_size HB_7.out) (fun k hk => by cases hk; exact Lg6.out)); clear HB_7; have Bg3_8 := Aside0.mk (Upd.blk hu Bg3_7.out (One.not Ng3g6.out)); clear Bg3_7; have Bg5_8 := Aside0.mk (Upd.blk hu Bg5_7.out (One.not Ng5g6.out)); clear Bg5_7; have Bg8_8 := Aside0.mk (Upd.blk hu Bg8_7.out (One.not (Ne.symm Ng6g8.out))); clear Bg8_7; have Bg6_8 := Aside0.mk hst; clear hst hu Bg6_7))
    exact bodyPost_ret (results_ct rfl _ _ g6 41 #[.int .i64 st, .bool false, .int .u32 e1, .int .u32 m1, .bool f1, .bool s2, .int .u32 e2, .int .u32 m2, .bool f2] (0, 0) _ rfl Bg6_8.out Try.underlying41 rfl (by kernel_rfl)) rfl ⟨rfl, HB_8.out⟩
end Go.Proofs.Ytainkpgplmkiaaa.Win3
