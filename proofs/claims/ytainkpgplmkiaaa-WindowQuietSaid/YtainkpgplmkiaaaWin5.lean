/- window's Next: its ways. No condition. -/
import Derived.Test.YtainkpgplmkiaaaWin4
namespace Go.Proofs.Ytainkpgplmkiaaa.Win5
open Go Go.RowKit Go.Proofs.YtainkpgplmkiaaaW.PrintWords Go.Proofs.YtainkpgplmkiaaaW.PrintLast Go.Proofs.YtainkpgplmkiaaaW.PrintMore Go.Proofs.Ytainkpgplmkiaaa.MWorld Go.Proofs.Ytainkpgplmkiaaa.Ev Go.Proofs.Ytainkpgplmkiaaa.Win Go.Proofs.Ytainkpgplmkiaaa.Win2 Go.Proofs.Ytainkpgplmkiaaa.Win3 Go.Proofs.Ytainkpgplmkiaaa.Rg Go.Proofs.Ytainkpgplmkiaaa.WinModel Go.Proofs.Ytainkpgplmkiaaa.Win4
set_option linter.unusedVariables false
set_option linter.unusedSimpArgs false
set_option maxRecDepth 100000 in
set_option maxHeartbeats 16000000 in
theorem next_f (st e1 m1 e2 m2 sp dp sq ak fl wi ty co he da en : Int) (s1 f1 s2 f2 sy fi rs ac : Bool) (r : Cn × Bool) (w : World) (F2 : Aside0 (flag fl 2 = sy)) (F1 : Aside0 (flag fl 1 = fi)) (F4 : Aside0 (flag fl 4 = rs)) (F16 : Aside0 (flag fl 16 = ac)) (FE : Aside0 (endOf sq fl da = en)) (hsy : Aside0 (SyncedSays ⟨st, ⟨s1, e1, m1, f1⟩, ⟨s2, e2, m2, f2⟩⟩ false fi rs ac ak wi da en r)) (hr : Aside0 (synced ⟨st, ⟨s1, e1, m1, f1⟩, ⟨s2, e2, m2, f2⟩⟩ false fi rs ac ak wi da en = r)) : Calls Try.prog 17 #[.agg #[.int .i64 st, .bool s1, .int .u32 e1, .int .u32 m1, .bool f1, .bool s2, .int .u32 e2, .int .u32 m2, .bool f2], .bool false, .agg #[.int .i64 sp, .int .i64 dp, .int .u32 sq, .int .u32 ak, .int .i64 fl, .int .i64 wi, .int .i64 ty, .int .i64 co, .int .i64 he, .int .i64 da]] w (NextPost ⟨st, ⟨s1, e1, m1, f1⟩, ⟨s2, e2, m2, f2⟩⟩ false ⟨sp, dp, sq, ak, fl, wi, ty, co, he, da⟩ w) := by
  go_enter Try.func17, Try.ntmps17
  go_upto_region 4 with (first | ((with_reducible refine gate_dst (N := 3) rfl ?_); refine box_event ?hg (N := 3) ?hd (cs := #[.int .i64 st, .bool s1, .int .u32 e1, .int .u32 m1, .bool f1, .bool s2, .int .u32 e2, .int .u32 m2, .bool f2]) (t := 41) ?hr ?_; (case hd => rfl); (case hg => rfl); (case hr => first | (go_simp; done) | (go_simp; rfl)); intro g3 hgg wx1 hbox hb; have Lg3 := Aside0.mk (show w.heap.size ≤ g3 by rw [hgg]; exact Nat.le_refl _); have HB_1 := Aside0.mk (hb); have Bg3_1 := Aside0.mk hbox; clear hbox hb hgg) | ((with_reducible refine gate_dst (N := 5) rfl ?_); refine box_event ?hg (N := 5) ?hd (cs := #[.int .i64 sp, .int .i64 dp, .int .u32 sq, .int .u32 ak, .int .i64 fl, .int .i64 wi, .int .i64 ty, .int .i64 co, .int .i64 he, .int .i64 da]) (t := 43) ?hr ?_; (case hd => rfl); (case hg => rfl); (case hr => first | (go_simp; done) | (go_simp; rfl)); intro g5 hgg wx2 hbox hb; have Ng3g5 := Aside0.mk (show g3 ≠ g5 by rw [hgg]; exact Nat.ne_of_lt (blk_lt Bg3_1.out)); have Lg5 := Aside0.mk (show w.heap.size ≤ g5 by rw [hgg]; exact below_size HB_1.out); have HB_2 := Aside0.mk (below_step HB_1.out hb); clear HB_1; have Bg3_2 := Aside0.mk (blk_below Bg3_1.out hb); clear Bg3_1; have Bg5_2 := Aside0.mk hbox; clear hbox hb hgg) | ((with_reducible refine gate_dst (N := 6) rfl ?_); refine box_event ?hg (N := 6) ?hd (cs := #[.int .i64 0, .bool false, .int .u32 0, .int .u32 0, .bool false, .bool false, .int .u32 0, .int .u32 0, .bool false]) (t := 41) ?hr ?_; (case hd => rfl); (case hg => rfl); (case hr => first | (go_simp; done) | (go_simp; rfl)); intro g6 hgg wx3 hbox hb; have Ng3g6 := Aside0.mk (show g3 ≠ g6 by rw [hgg]; exact Nat.ne_of_lt (blk_lt Bg3_2.out)); have Ng5g6 := Aside0.mk (show g5 ≠ g6 by rw [hgg]; exact Nat.ne_of_lt (blk_lt Bg5_2.out)); have Lg6 := Aside0.mk (show w.heap.size ≤ g6 by rw [hgg]; exact below_size HB_2.out); have HB_3 := Aside0.mk (below_step HB_2.out hb); clear HB_2; have Bg3_3 := Aside0.mk (blk_below Bg3_2.out hb); clear Bg3_2; have Bg5_3 := Aside0.mk (blk_below Bg5_2.out hb); clear Bg5_2; have Bg6_3 := Aside0.mk hbox; clear hbox hb hgg) | ((with_reducible refine gate_dst (N := 12) rfl ?_); refine load_event rfl 43 _ rfl g5 rfl _ _ _ Bg5_3.out Try.underlying43 rfl (by kernel_rfl) ?_) | (go_at_call 39; refine (read_as sp dp sq ak fl wi ty co he da en sy fi rs ac _ F2.out F1.out F4.out F16.out FE.out).mono ?_; rintro e wx4 ⟨rfl, hb⟩; have HB_4 := Aside0.mk (below_step HB_3.out hb); clear HB_3; have Bg3_4 := Aside0.mk (blk_below Bg3_3.out hb); clear Bg3_3; have Bg5_4 := Aside0.mk (blk_below Bg5_3.out hb); clear Bg5_3; have Bg6_4 := Aside0.mk (blk_below Bg6_3.out hb); clear Bg6_3; clear hb) | ((with_reducible refine gate_dst (N := 8) rfl ?_); refine box_event ?hg (N := 8) ?hd (cs := #[.int .i64 0, .int .i64 0, .int .u32 0, .int .u32 0, .int .i64 0, .int .i64 0, .int .i64 0, .int .i64 0, .int .i64 0, .int .i64 0, .bool false, .bool false, .bool false, .bool false, .int .u32 0]) (t := 95) ?hr ?_; (case hd => rfl); (case hg => rfl); (case hr => first | (go_simp; done) | (go_simp; rfl)); intro g8 hgg wx5 hbox hb; have Ng3g8 := Aside0.mk (show g3 ≠ g8 by rw [hgg]; exact Nat.ne_of_lt (blk_lt Bg3_4.out)); have Ng5g8 := Aside0.mk (show g5 ≠ g8 by rw [hgg]; exact Nat.ne_of_lt (blk_lt Bg5_4.out)); have Ng6g8 := Aside0.mk (show g6 ≠ g8 by rw [hgg]; exact Nat.ne_of_lt (blk_lt Bg6_4.out)); have Lg8 := Aside0.mk (show w.heap.size ≤ g8 by rw [hgg]; exact below_size HB_4.out); have HB_5 := Aside0.mk (below_step HB_4.out hb); clear HB_4; have Bg3_5 := Aside0.mk (blk_below Bg3_4.out hb); clear Bg3_4; have Bg5_5 := Aside0.mk (blk_below Bg5_4.out hb); clear Bg5_4; have Bg6_5 := Aside0.mk (blk_below Bg6_4.out hb); clear Bg6_4; have Bg8_5 := Aside0.mk hbox; clear hbox hb hgg) | ((with_reducible refine gate_store (t := 95) (p := 8) rfl ?_); refine store_event rfl 95 _ _ rfl g8 _ rfl rfl _ _ Bg8_5.out (by kernel_rfl) rfl rfl ?_; intro wx6 hst hu; have HB_6 := Aside0.mk (below_upd HB_5.out hu (below_size HB_5.out) (fun k hk => by cases hk; exact Lg8.out)); clear HB_5; have Bg3_6 := Aside0.mk (Upd.blk hu Bg3_5.out (One.not Ng3g8.out)); clear Bg3_5; have Bg5_6 := Aside0.mk (Upd.blk hu Bg5_5.out (One.not Ng5g8.out)); clear Bg5_5; have Bg6_6 := Aside0.mk (Upd.blk hu Bg6_5.out (One.not Ng6g8.out)); clear Bg6_5; have Bg8_6 := Aside0.mk hst; clear hst hu Bg8_5) | ((with_reducible refine gate_dst (N := 14) rfl ?_); refine load_event rfl 41 _ rfl g3 rfl _ _ _ Bg3_6.out Try.underlying41 rfl (by kernel_rfl) ?_) | ((with_reducible refine gate_dst (N := 9) rfl ?_); refine box_event ?hg (N := 9) ?hd (cs := #[.int .i64 0, .bool false, .int .u32 0, .int .u32 0, .bool false, .bool false, .int .u32 0, .int .u32 0, .bool false]) (t := 41) ?hr ?_; (case hd => rfl); (case hg => rfl); (case hr => first | (go_simp; done) | (go_simp; rfl)); intro g9 hgg wx7 hbox hb; have Ng3g9 := Aside0.mk (show g3 ≠ g9 by rw [hgg]; exact Nat.ne_of_lt (blk_lt Bg3_6.out)); have Ng5g9 := Aside0.mk (show g5 ≠ g9 by rw [hgg]; exact Nat.ne_of_lt (blk_lt Bg5_6.out)); have Ng6g9 := Aside0.mk (show g6 ≠ g9 by rw [hgg]; exact Nat.ne_of_lt (blk_lt Bg6_6.out)); have Ng8g9 := Aside0.mk (show g8 ≠ g9 by rw [hgg]; exact Nat.ne_of_lt (blk_lt Bg8_6.out)); have Lg9 := Aside0.mk (show w.heap.size ≤ g9 by rw [hgg]; exact below_size HB_6.out); have HB_7 := Aside0.mk (below_step HB_6.out hb); clear HB_6; have Bg3_7 := Aside0.mk (blk_below Bg3_6.out hb); clear Bg3_6; have Bg5_7 := Aside0.mk (blk_below Bg5_6.out hb); clear Bg5_6; have Bg6_7 := Aside0.mk (blk_below Bg6_6.out hb); clear Bg6_6; have Bg8_7 := Aside0.mk (blk_below Bg8_6.out hb); clear Bg8_6; have Bg9_7 := Aside0.mk hbox; clear hbox hb hgg) | ((with_reducible refine gate_store (t := 41) (p := 9) rfl ?_); refine store_event rfl 41 _ _ rfl g9 _ rfl rfl _ _ Bg9_7.out (by kernel_rfl) rfl rfl ?_; intro wx8 hst hu; have HB_8 := Aside0.mk (below_upd HB_7.out hu (below_size HB_7.out) (fun k hk => by cases hk; exact Lg9.out)); clear HB_7; have Bg3_8 := Aside0.mk (Upd.blk hu Bg3_7.out (One.not Ng3g9.out)); clear Bg3_7; have Bg5_8 := Aside0.mk (Upd.blk hu Bg5_7.out (One.not Ng5g9.out)); clear Bg5_7; have Bg6_8 := Aside0.mk (Upd.blk hu Bg6_7.out (One.not Ng6g9.out)); clear Bg6_7; have Bg8_8 := Aside0.mk (Upd.blk hu Bg8_7.out (One.not Ng8g9.out)); clear Bg8_7; have Bg9_8 := Aside0.mk hst; clear hst hu Bg9_7) | (go_at_call 40; refine (sides_f g9 _).mono ?_; rintro e wx9 ⟨rfl, hb⟩; have HB_9 := Aside0.mk (below_step HB_8.out hb); clear HB_8; have Bg3_9 := Aside0.mk (blk_below Bg3_8.out hb); clear Bg3_8; have Bg5_9 := Aside0.mk (blk_below Bg5_8.out hb); clear Bg5_8; have Bg6_9 := Aside0.mk (blk_below Bg6_8.out hb); clear Bg6_8; have Bg8_9 := Aside0.mk (blk_below Bg8_8.out hb); clear Bg8_8; have Bg9_9 := Aside0.mk (blk_below Bg9_8.out hb); clear Bg9_8; clear hb))
  refine wp_region_rg_seq (fun x y => Below x.heap.size x y) (fun (i : Nat) (v : Value) (w1 : World) => match i with | 0 => v = (.pointer (some ⟨g3, 0, none⟩)) | 1 => v = (.int .i64 st) | 2 => v = (.bool (decide (st < 1))) | 3 => v = (.bool (decide (st < 1))) | 4 => (decide (st < 1)) = false → v = (.pointer (some ⟨g3, 0, none⟩)) | 5 => (decide (st < 1)) = false → v = (.int .i64 st) | 6 => (decide (st < 1)) = false → v = (.bool (decide (4 < st))) | 7 => v = (.bool ((decide (st < 1) || decide (4 < st)))) | 8 => v = (.bool ((decide (st < 1) || decide (4 < st)))) | _ => True) (by kernel_rfl) (by kernel_rfl) below_tr (Below.refl _ _) ?hJst ?hObl ?hEnd
  case hJst =>
    intro i v wx wy hi hs0 hs1 hJi
    match i, hi with
    | 0, _ => exact hJi
    | 1, _ => exact hJi
    | 2, _ => exact hJi
    | 3, _ => exact hJi
    | 4, _ => exact hJi
    | 5, _ => exact hJi
    | 6, _ => exact hJi
    | 7, _ => exact hJi
    | 8, _ => exact hJi
    | _ + 9, hi => exact absurd hi (by simp)
  case hObl =>
    refine ⟨?_, ?_, ?_, ?_, ?_, ?_, ?_, ?_, ?_,  trivial⟩
    · intro listed vals a wq K hD hst hj haft hun hK
      have h3 := hD.out 3 rfl rfl
      replace hst : Below _ _ wq := hst
      clear hD hj haft hun
      have e3 := eval_of h3
      refine step_now (v := .pointer (some ⟨g3, 0, none⟩)) (w' := wq) (wanted_free rfl) ?_ (hK _ _ (Below.refl _ _) rfl)
      clear hK
      first | (go_simp; done) | (go_simp; rfl) | (go_simp; (try simp only [IntKind.wrap_u32]); omega)
    · intro listed vals a wq K hD hst hj haft hun hK
      obtain ⟨v21, h21, j21⟩ := hD.dep hj haft 0 21 rfl rfl
      replace j21 : v21 = (.pointer (some ⟨g3, 0, none⟩)) := j21
      subst j21
      replace hst : Below _ _ wq := hst
      clear hD hj haft hun
      have e21 := eval_of h21
      exact step_now (v := .int .i64 st) (w' := wq) (wanted_free rfl) (rg_load rfl e21 (blk_below Bg3_9.out hst) rfl Try.underlying3 rfl) (hK _ _ (Below.refl _ _) rfl)
    · intro listed vals a wq K hD hst hj haft hun hK
      obtain ⟨v22, h22, j22⟩ := hD.dep hj haft 1 22 rfl rfl
      replace j22 : v22 = (.int .i64 st) := j22
      subst j22
      replace hst : Below _ _ wq := hst
      clear hD hj haft hun
      have e22 := eval_of h22
      refine step_now (v := .bool (decide (st < 1))) (w' := wq) (wanted_free rfl) ?_ (hK _ _ (Below.refl _ _) rfl)
      clear hK
      first | (go_simp; done) | (go_simp; rfl) | (go_simp; (try simp only [IntKind.wrap_u32]); omega)
    · intro listed vals a wq K hD hst hj haft hun hK
      obtain ⟨v23, h23, j23⟩ := hD.dep hj haft 2 23 rfl rfl
      replace j23 : v23 = (.bool (decide (st < 1))) := j23
      subst j23
      replace hst : Below _ _ wq := hst
      clear hD hj haft hun
      have e23 := eval_of h23
      refine step_now (v := .bool (decide (st < 1))) (w' := wq) (wanted_free rfl) ?_ (hK _ _ (Below.refl _ _) rfl)
      clear hK
      first | (go_simp; done) | (go_simp; rfl) | (go_simp; (try simp only [IntKind.wrap_u32]); omega)
    · intro listed vals a wq K hD hst hj haft hun hK
      obtain ⟨v24, h24, j24⟩ := hD.dep hj haft 3 24 rfl rfl
      replace j24 : v24 = (.bool (decide (st < 1))) := j24
      subst j24
      have h3 := hD.out 3 rfl rfl
      replace hst : Below _ _ wq := hst
      clear hD hj haft hun
      rcases hE : (decide (st < 1)) with _ | _
      · rw [hE] at h24
        have e3 := eval_of h3
        refine step_now (v := .pointer (some ⟨g3, 0, none⟩)) (w' := wq) (wanted_on (t := 24) (u := false) rfl rfl rfl h24) ?_ (hK _ _ (Below.refl _ _) (fun _ => rfl))
        clear hK
        first | (go_simp; done) | (go_simp; rfl) | (go_simp; (try simp only [IntKind.wrap_u32]); omega)
      · rw [hE] at h24
        exact step_off (wanted_off (t := 24) (u := false) rfl rfl rfl h24) (hK _ _ (Below.refl _ _) (fun h => by rw [hE] at h; cases h))
    · intro listed vals a wq K hD hst hj haft hun hK
      obtain ⟨v25, h25, j25⟩ := hD.dep hj haft 4 25 rfl rfl
      replace j25 : (decide (st < 1)) = false → v25 = (.pointer (some ⟨g3, 0, none⟩)) := j25
      obtain ⟨v24, h24, j24⟩ := hD.dep hj haft 3 24 rfl rfl
      replace j24 : v24 = (.bool (decide (st < 1))) := j24
      subst j24
      replace hst : Below _ _ wq := hst
      clear hD hj haft hun
      rcases hE : (decide (st < 1)) with _ | _
      · rw [hE] at h24
        obtain rfl := j25 hE
        have e25 := eval_of h25
        exact step_now (v := .int .i64 st) (w' := wq) (wanted_on (t := 24) (u := false) rfl rfl rfl h24) (rg_load rfl e25 (blk_below Bg3_9.out hst) rfl Try.underlying3 rfl) (hK _ _ (Below.refl _ _) (fun _ => rfl))
      · rw [hE] at h24
        exact step_off (wanted_off (t := 24) (u := false) rfl rfl rfl h24) (hK _ _ (Below.refl _ _) (fun h => by rw [hE] at h; cases h))
    · intro listed vals a wq K hD hst hj haft hun hK
      obtain ⟨v26, h26, j26⟩ := hD.dep hj haft 5 26 rfl rfl
      replace j26 : (decide (st < 1)) = false → v26 = (.int .i64 st) := j26
      obtain ⟨v24, h24, j24⟩ := hD.dep hj haft 3 24 rfl rfl
      replace j24 : v24 = (.bool (decide (st < 1))) := j24
      subst j24
      replace hst : Below _ _ wq := hst
      clear hD hj haft hun
      rcases hE : (decide (st < 1)) with _ | _
      · rw [hE] at h24
        obtain rfl := j26 hE
        have e26 := eval_of h26
        refine step_now (v := .bool (decide (4 < st))) (w' := wq) (wanted_on (t := 24) (u := false) rfl rfl rfl h24) ?_ (hK _ _ (Below.refl _ _) (fun _ => rfl))
        clear hK
        first | (go_simp; done) | (go_simp; rfl) | (go_simp; (try simp only [IntKind.wrap_u32]); omega)
      · rw [hE] at h24
        exact step_off (wanted_off (t := 24) (u := false) rfl rfl rfl h24) (hK _ _ (Below.refl _ _) (fun h => by rw [hE] at h; cases h))
    · intro listed vals a wq K hD hst hj haft hun hK
      obtain ⟨v24, h24, j24⟩ := hD.dep hj haft 3 24 rfl rfl
      replace j24 : v24 = (.bool (decide (st < 1))) := j24
      subst j24
      obtain ⟨v27, h27, j27⟩ := hD.dep hj haft 6 27 rfl rfl
      replace j27 : (decide (st < 1)) = false → v27 = (.bool (decide (4 < st))) := j27
      replace hst : Below _ _ wq := hst
      clear hD hj haft hun
      rcases hE : (decide (st < 1)) with _ | _
      · rw [hE] at h24
        obtain rfl := j27 hE
        have e24 := eval_of h24
        have e27 := eval_of h27
        refine step_now (v := .bool ((decide (st < 1) || decide (4 < st)))) (w' := wq) (wanted_free rfl) ?_ (hK _ _ (Below.refl _ _) rfl)
        rw [hE]
        clear hK
        first | (go_simp; done) | (go_simp; rfl) | (go_simp; (try simp only [IntKind.wrap_u32]); omega)
      · rw [hE] at h24
        have e24 := eval_of h24
        have e27 := eval_of h27
        refine step_now (v := .bool ((decide (st < 1) || decide (4 < st)))) (w' := wq) (wanted_free rfl) ?_ (hK _ _ (Below.refl _ _) rfl)
        rw [hE]
        clear hK
        first | (go_simp; done) | (go_simp; rfl) | (go_simp; (try simp only [IntKind.wrap_u32]); omega)
    · intro listed vals a wq K hD hst hj haft hun hK
      obtain ⟨v28, h28, j28⟩ := hD.dep hj haft 7 28 rfl rfl
      replace j28 : v28 = (.bool ((decide (st < 1) || decide (4 < st)))) := j28
      subst j28
      replace hst : Below _ _ wq := hst
      clear hD hj haft hun
      have e28 := eval_of h28
      refine step_now (v := .bool ((decide (st < 1) || decide (4 < st)))) (w' := wq) (wanted_free rfl) ?_ (hK _ _ (Below.refl _ _) rfl)
      clear hK
      first | (go_simp; done) | (go_simp; rfl) | (go_simp; (try simp only [IntKind.wrap_u32]); omega)
  case hEnd =>
    intro vals wend hst hj
    have j0 : vals 0 = (.pointer (some ⟨g3, 0, none⟩)) := hj 0 (by decide)
    have j1 : vals 1 = (.int .i64 st) := hj 1 (by decide)
    have j2 : vals 2 = (.bool (decide (st < 1))) := hj 2 (by decide)
    have j3 : vals 3 = (.bool (decide (st < 1))) := hj 3 (by decide)
    have j7 : vals 7 = (.bool ((decide (st < 1) || decide (4 < st)))) := hj 7 (by decide)
    have j8 : vals 8 = (.bool ((decide (st < 1) || decide (4 < st)))) := hj 8 (by decide)
    replace hst : Below _ _ wend := hst
    clear hj
    rw [putAll_list]
    simp only [putL, Act.put, List.setIfInBounds_toArray, List.set_cons_zero, List.set_cons_succ, j0, j1, j2, j3, j7, j8]
    clear j0 j1 j2 j3 j7 j8
    generalize vals 4 = u25_
    generalize vals 5 = u26_
    generalize vals 6 = u27_
    have HB_10 := Aside0.mk (below_step HB_9.out hst)
    clear HB_9
    have Bg3_10 := Aside0.mk (blk_below Bg3_9.out hst)
    clear Bg3_9
    have Bg5_10 := Aside0.mk (blk_below Bg5_9.out hst)
    clear Bg5_9
    have Bg6_10 := Aside0.mk (blk_below Bg6_9.out hst)
    clear Bg6_9
    have Bg8_10 := Aside0.mk (blk_below Bg8_9.out hst)
    clear Bg8_9
    have Bg9_10 := Aside0.mk (blk_below Bg9_9.out hst)
    clear Bg9_9
    clear hst
    rcases hc0 : ((decide (st < 1) || decide (4 < st))) with _ | _
    · go_upto_region 6 with (fail)
      refine wp_region_rg (by kernel_rfl) (fun x y => Below x.heap.size x y) (fun (i : Nat) (v : Value) (w1 : World) => match i with | 0 => v = (.pointer (some ⟨g9, 5, none⟩)) | 1 => v = (.pointer (some ⟨g9, 5, none⟩)) | 2 => v = (.pointer (some ⟨g9, 5, none⟩)) | 3 => v = (.bool s2) | 4 => v = (.bool s2) | 5 => (s2) = true → v = (.pointer (some ⟨g8, 13, none⟩)) | 6 => (s2) = true → v = (.bool ac) | 7 => v = (.bool ((s2 && ac))) | 8 => v = (.bool ((s2 && ac))) | 9 => ((s2 && ac)) = true → v = (.pointer (some ⟨g9, 5, none⟩)) | 10 => ((s2 && ac)) = true → v = (.pointer (some ⟨g9, 5, none⟩)) | 11 => ((s2 && ac)) = true → v = (.pointer (some ⟨g9, 6, none⟩)) | 12 => ((s2 && ac)) = true → v = (.int .u32 e2) | 13 => ((s2 && ac)) = true → v = (.pointer (some ⟨g5, 3, none⟩)) | 14 => ((s2 && ac)) = true → v = (.int .u32 ak) | 15 => ((s2 && ac)) = true → v = (.bool (less e2 ak)) | 16 => v = (.bool (((s2 && ac) && less e2 ak))) | 17 => v = (.bool (((s2 && ac) && less e2 ak))) | _ => True) (by kernel_rfl) (by kernel_rfl) below_tr (Below.refl _ _).drew ?hJst (obl_list ?hObl) ?hEnd
      case hJst =>
        intro i v wx wy hi hs0 hs1 hJi
        match i, hi with
        | 0, _ => exact hJi
        | 1, _ => exact hJi
        | 2, _ => exact hJi
        | 3, _ => exact hJi
        | 4, _ => exact hJi
        | 5, _ => exact hJi
        | 6, _ => exact hJi
        | 7, _ => exact hJi
        | 8, _ => exact hJi
        | 9, _ => exact hJi
        | 10, _ => exact hJi
        | 11, _ => exact hJi
        | 12, _ => exact hJi
        | 13, _ => exact hJi
        | 14, _ => exact hJi
        | 15, _ => exact hJi
        | 16, _ => exact hJi
        | 17, _ => exact hJi
        | _ + 18, hi => exact absurd hi (by simp)
      case hObl =>
        refine ⟨?_, ?_, ?_, ?_, ?_, ?_, ?_, ?_, ?_, ?_, ?_, ?_, ?_, ?_, ?_, ?_, ?_, ?_,  trivial⟩
        · intro listed vals a wq K hD hst hj haft hun hK
          have h11 := hD.out 11 rfl rfl
          replace hst : Below _ _ wq := hst
          clear hD hj haft hun
          have e11 := eval_of h11
          refine step_now (v := .pointer (some ⟨g9, 5, none⟩)) (w' := wq) (wanted_free rfl) ?_ (hK _ _ (Below.refl _ _) rfl)
          clear hK
          first | (go_simp; done) | (go_simp; rfl) | (go_simp; (try simp only [IntKind.wrap_u32]); omega)
        · intro listed vals a wq K hD hst hj haft hun hK
          obtain ⟨v31, h31, j31⟩ := hD.dep hj haft 0 31 rfl rfl
          replace j31 : v31 = (.pointer (some ⟨g9, 5, none⟩)) := j31
          subst j31
          replace hst : Below _ _ wq := hst
          clear hD hj haft hun
          have e31 := eval_of h31
          refine step_now (v := .pointer (some ⟨g9, 5, none⟩)) (w' := wq) (wanted_free rfl) ?_ (hK _ _ (Below.refl _ _) rfl)
          clear hK
          first | (go_simp; done) | (go_simp; rfl) | (go_simp; (try simp only [IntKind.wrap_u32]); omega)
        · intro listed vals a wq K hD hst hj haft hun hK
          obtain ⟨v32, h32, j32⟩ := hD.dep hj haft 1 32 rfl rfl
          replace j32 : v32 = (.pointer (some ⟨g9, 5, none⟩)) := j32
          subst j32
          replace hst : Below _ _ wq := hst
          clear hD hj haft hun
          have e32 := eval_of h32
          refine step_now (v := .pointer (some ⟨g9, 5, none⟩)) (w' := wq) (wanted_free rfl) ?_ (hK _ _ (Below.refl _ _) rfl)
          clear hK
          first | (go_simp; done) | (go_simp; rfl) | (go_simp; (try simp only [IntKind.wrap_u32]); omega)
        · intro listed vals a wq K hD hst hj haft hun hK
          obtain ⟨v33, h33, j33⟩ := hD.dep hj haft 2 33 rfl rfl
          replace j33 : v33 = (.pointer (some ⟨g9, 5, none⟩)) := j33
          subst j33
          replace hst : Below _ _ wq := hst
          clear hD hj haft hun
          have e33 := eval_of h33
          exact step_now (v := .bool s2) (w' := wq) (wanted_free rfl) (rg_load rfl e33 (blk_below Bg9_10.out hst) rfl Try.underlying4 rfl) (hK _ _ (Below.refl _ _) rfl)
        · intro listed vals a wq K hD hst hj haft hun hK
          obtain ⟨v34, h34, j34⟩ := hD.dep hj haft 3 34 rfl rfl
          replace j34 : v34 = (.bool s2) := j34
          subst j34
          replace hst : Below _ _ wq := hst
          clear hD hj haft hun
          have e34 := eval_of h34
          refine step_now (v := .bool s2) (w' := wq) (wanted_free rfl) ?_ (hK _ _ (Below.refl _ _) rfl)
          clear hK
          first | (go_simp; done) | (go_simp; rfl) | (go_simp; (try simp only [IntKind.wrap_u32]); omega)
        · intro listed vals a wq K hD hst hj haft hun hK
          obtain ⟨v35, h35, j35⟩ := hD.dep hj haft 4 35 rfl rfl
          replace j35 : v35 = (.bool s2) := j35
          subst j35
          have h8 := hD.out 8 rfl rfl
          replace hst : Below _ _ wq := hst
          clear hD hj haft hun
          rcases hE : (s2) with _ | _
          · rw [hE] at h35
            exact step_off (wanted_off (t := 35) (u := true) rfl rfl rfl h35) (hK _ _ (Below.refl _ _) (fun h => by rw [hE] at h; cases h))
          · rw [hE] at h35
            have e8 := eval_of h8
            refine step_now (v := .pointer (some ⟨g8, 13, none⟩)) (w' := wq) (wanted_on (t := 35) (u := true) rfl rfl rfl h35) ?_ (hK _ _ (Below.refl _ _) (fun _ => rfl))
            clear hK
            first | (go_simp; done) | (go_simp; rfl) | (go_simp; (try simp only [IntKind.wrap_u32]); omega)
        · intro listed vals a wq K hD hst hj haft hun hK
          obtain ⟨v36, h36, j36⟩ := hD.dep hj haft 5 36 rfl rfl
          replace j36 : (s2) = true → v36 = (.pointer (some ⟨g8, 13, none⟩)) := j36
          obtain ⟨v35, h35, j35⟩ := hD.dep hj haft 4 35 rfl rfl
          replace j35 : v35 = (.bool s2) := j35
          subst j35
          replace hst : Below _ _ wq := hst
          clear hD hj haft hun
          rcases hE : (s2) with _ | _
          · rw [hE] at h35
            exact step_off (wanted_off (t := 35) (u := true) rfl rfl rfl h35) (hK _ _ (Below.refl _ _) (fun h => by rw [hE] at h; cases h))
          · rw [hE] at h35
            obtain rfl := j36 hE
            have e36 := eval_of h36
            exact step_now (v := .bool ac) (w' := wq) (wanted_on (t := 35) (u := true) rfl rfl rfl h35) (rg_load rfl e36 (blk_below Bg8_10.out hst) rfl Try.underlying4 rfl) (hK _ _ (Below.refl _ _) (fun _ => rfl))
        · intro listed vals a wq K hD hst hj haft hun hK
          obtain ⟨v35, h35, j35⟩ := hD.dep hj haft 4 35 rfl rfl
          replace j35 : v35 = (.bool s2) := j35
          subst j35
          obtain ⟨v37, h37, j37⟩ := hD.dep hj haft 6 37 rfl rfl
          replace j37 : (s2) = true → v37 = (.bool ac) := j37
          replace hst : Below _ _ wq := hst
          clear hD hj haft hun
          rcases hE : (s2) with _ | _
          · rw [hE] at h35
            have e35 := eval_of h35
            have e37 := eval_of h37
            refine step_now (v := .bool ((s2 && ac))) (w' := wq) (wanted_free rfl) ?_ (hK _ _ (Below.refl _ _) rfl)
            rw [hE]
            clear hK
            first | (go_simp; done) | (go_simp; rfl) | (go_simp; (try simp only [IntKind.wrap_u32]); omega)
          · rw [hE] at h35
            obtain rfl := j37 hE
            have e35 := eval_of h35
            have e37 := eval_of h37
            refine step_now (v := .bool ((s2 && ac))) (w' := wq) (wanted_free rfl) ?_ (hK _ _ (Below.refl _ _) rfl)
            rw [hE]
            clear hK
            first | (go_simp; done) | (go_simp; rfl) | (go_simp; (try simp only [IntKind.wrap_u32]); omega)
        · intro listed vals a wq K hD hst hj haft hun hK
          obtain ⟨v38, h38, j38⟩ := hD.dep hj haft 7 38 rfl rfl
          replace j38 : v38 = (.bool ((s2 && ac))) := j38
          subst j38
          replace hst : Below _ _ wq := hst
          clear hD hj haft hun
          have e38 := eval_of h38
          refine step_now (v := .bool ((s2 && ac))) (w' := wq) (wanted_free rfl) ?_ (hK _ _ (Below.refl _ _) rfl)
          clear hK
          first | (go_simp; done) | (go_simp; rfl) | (go_simp; (try simp only [IntKind.wrap_u32]); omega)
        · intro listed vals a wq K hD hst hj haft hun hK
          obtain ⟨v39, h39, j39⟩ := hD.dep hj haft 8 39 rfl rfl
          replace j39 : v39 = (.bool ((s2 && ac))) := j39
          subst j39
          have h11 := hD.out 11 rfl rfl
          replace hst : Below _ _ wq := hst
          clear hD hj haft hun
          rcases hE : ((s2 && ac)) with _ | _
          · rw [hE] at h39
            exact step_off (wanted_off (t := 39) (u := true) rfl rfl rfl h39) (hK _ _ (Below.refl _ _) (fun h => by rw [hE] at h; cases h))
          · rw [hE] at h39
            have e11 := eval_of h11
            refine step_now (v := .pointer (some ⟨g9, 5, none⟩)) (w' := wq) (wanted_on (t := 39) (u := true) rfl rfl rfl h39) ?_ (hK _ _ (Below.refl _ _) (fun _ => rfl))
            clear hK
            first | (go_simp; done) | (go_simp; rfl) | (go_simp; (try simp only [IntKind.wrap_u32]); omega)
        · intro listed vals a wq K hD hst hj haft hun hK
          obtain ⟨v40, h40, j40⟩ := hD.dep hj haft 9 40 rfl rfl
          replace j40 : ((s2 && ac)) = true → v40 = (.pointer (some ⟨g9, 5, none⟩)) := j40
          obtain ⟨v39, h39, j39⟩ := hD.dep hj haft 8 39 rfl rfl
          replace j39 : v39 = (.bool ((s2 && ac))) := j39
          subst j39
          replace hst : Below _ _ wq := hst
          clear hD hj haft hun
          rcases hE : ((s2 && ac)) with _ | _
          · rw [hE] at h39
            exact step_off (wanted_off (t := 39) (u := true) rfl rfl rfl h39) (hK _ _ (Below.refl _ _) (fun h => by rw [hE] at h; cases h))
          · rw [hE] at h39
            obtain rfl := j40 hE
            have e40 := eval_of h40
            refine step_now (v := .pointer (some ⟨g9, 5, none⟩)) (w' := wq) (wanted_on (t := 39) (u := true) rfl rfl rfl h39) ?_ (hK _ _ (Below.refl _ _) (fun _ => rfl))
            clear hK
            first | (go_simp; done) | (go_simp; rfl) | (go_simp; (try simp only [IntKind.wrap_u32]); omega)
        · intro listed vals a wq K hD hst hj haft hun hK
          obtain ⟨v41, h41, j41⟩ := hD.dep hj haft 10 41 rfl rfl
          replace j41 : ((s2 && ac)) = true → v41 = (.pointer (some ⟨g9, 5, none⟩)) := j41
          obtain ⟨v39, h39, j39⟩ := hD.dep hj haft 8 39 rfl rfl
          replace j39 : v39 = (.bool ((s2 && ac))) := j39
          subst j39
          replace hst : Below _ _ wq := hst
          clear hD hj haft hun
          rcases hE : ((s2 && ac)) with _ | _
          · rw [hE] at h39
            exact step_off (wanted_off (t := 39) (u := true) rfl rfl rfl h39) (hK _ _ (Below.refl _ _) (fun h => by rw [hE] at h; cases h))
          · rw [hE] at h39
            obtain rfl := j41 hE
            have e41 := eval_of h41
            refine step_now (v := .pointer (some ⟨g9, 6, none⟩)) (w' := wq) (wanted_on (t := 39) (u := true) rfl rfl rfl h39) ?_ (hK _ _ (Below.refl _ _) (fun _ => rfl))
            clear hK
            first | (go_simp; done) | (go_simp; rfl) | (go_simp; (try simp only [IntKind.wrap_u32]); omega)
        · intro listed vals a wq K hD hst hj haft hun hK
          obtain ⟨v42, h42, j42⟩ := hD.dep hj haft 11 42 rfl rfl
          replace j42 : ((s2 && ac)) = true → v42 = (.pointer (some ⟨g9, 6, none⟩)) := j42
          obtain ⟨v39, h39, j39⟩ := hD.dep hj haft 8 39 rfl rfl
          replace j39 : v39 = (.bool ((s2 && ac))) := j39
          subst j39
          replace hst : Below _ _ wq := hst
          clear hD hj haft hun
          rcases hE : ((s2 && ac)) with _ | _
          · rw [hE] at h39
            exact step_off (wanted_off (t := 39) (u := true) rfl rfl rfl h39) (hK _ _ (Below.refl _ _) (fun h => by rw [hE] at h; cases h))
          · rw [hE] at h39
            obtain rfl := j42 hE
            have e42 := eval_of h42
            exact step_now (v := .int .u32 e2) (w' := wq) (wanted_on (t := 39) (u := true) rfl rfl rfl h39) (rg_load rfl e42 (blk_below Bg9_10.out hst) rfl Try.underlying33 rfl) (hK _ _ (Below.refl _ _) (fun _ => rfl))
        · intro listed vals a wq K hD hst hj haft hun hK
          obtain ⟨v39, h39, j39⟩ := hD.dep hj haft 8 39 rfl rfl
          replace j39 : v39 = (.bool ((s2 && ac))) := j39
          subst j39
          have h5 := hD.out 5 rfl rfl
          replace hst : Below _ _ wq := hst
          clear hD hj haft hun
          rcases hE : ((s2 && ac)) with _ | _
          · rw [hE] at h39
            exact step_off (wanted_off (t := 39) (u := true) rfl rfl rfl h39) (hK _ _ (Below.refl _ _) (fun h => by rw [hE] at h; cases h))
          · rw [hE] at h39
            have e5 := eval_of h5
            refine step_now (v := .pointer (some ⟨g5, 3, none⟩)) (w' := wq) (wanted_on (t := 39) (u := true) rfl rfl rfl h39) ?_ (hK _ _ (Below.refl _ _) (fun _ => rfl))
            clear hK
            first | (go_simp; done) | (go_simp; rfl) | (go_simp; (try simp only [IntKind.wrap_u32]); omega)
        · intro listed vals a wq K hD hst hj haft hun hK
          obtain ⟨v44, h44, j44⟩ := hD.dep hj haft 13 44 rfl rfl
          replace j44 : ((s2 && ac)) = true → v44 = (.pointer (some ⟨g5, 3, none⟩)) := j44
          obtain ⟨v39, h39, j39⟩ := hD.dep hj haft 8 39 rfl rfl
          replace j39 : v39 = (.bool ((s2 && ac))) := j39
          subst j39
          replace hst : Below _ _ wq := hst
          clear hD hj haft hun
          rcases hE : ((s2 && ac)) with _ | _
          · rw [hE] at h39
            exact step_off (wanted_off (t := 39) (u := true) rfl rfl rfl h39) (hK _ _ (Below.refl _ _) (fun h => by rw [hE] at h; cases h))
          · rw [hE] at h39
            obtain rfl := j44 hE
            have e44 := eval_of h44
            exact step_now (v := .int .u32 ak) (w' := wq) (wanted_on (t := 39) (u := true) rfl rfl rfl h39) (rg_load rfl e44 (blk_below Bg5_10.out hst) rfl Try.underlying33 rfl) (hK _ _ (Below.refl _ _) (fun _ => rfl))
        · intro listed vals a wq K hD hst hj haft hun hK
          obtain ⟨v43, h43, j43⟩ := hD.dep hj haft 12 43 rfl rfl
          replace j43 : ((s2 && ac)) = true → v43 = (.int .u32 e2) := j43
          obtain ⟨v45, h45, j45⟩ := hD.dep hj haft 14 45 rfl rfl
          replace j45 : ((s2 && ac)) = true → v45 = (.int .u32 ak) := j45
          obtain ⟨v39, h39, j39⟩ := hD.dep hj haft 8 39 rfl rfl
          replace j39 : v39 = (.bool ((s2 && ac))) := j39
          subst j39
          replace hst : Below _ _ wq := hst
          clear hD hj haft hun
          rcases hE : ((s2 && ac)) with _ | _
          · rw [hE] at h39
            exact step_off (wanted_off (t := 39) (u := true) rfl rfl rfl h39) (hK _ _ (Below.refl _ _) (fun h => by rw [hE] at h; cases h))
          · rw [hE] at h39
            obtain rfl := j43 hE
            obtain rfl := j45 hE
            have e43 := eval_of h43
            have e45 := eval_of h45
            refine step_call (f := 41) (args := #[.int .u32 e2, .int .u32 ak]) (wanted_on (t := 39) (u := true) rfl rfl rfl h39) ?_ (less_any e2 ak wq) ?_
            · clear hK; first | (go_simp; done) | (go_simp; rfl)
            · rintro e w' ⟨rfl, rfl⟩; exact ⟨_, rfl, hK _ _ (Below.refl _ _) (fun _ => rfl)⟩
        · intro listed vals a wq K hD hst hj haft hun hK
          obtain ⟨v39, h39, j39⟩ := hD.dep hj haft 8 39 rfl rfl
          replace j39 : v39 = (.bool ((s2 && ac))) := j39
          subst j39
          obtain ⟨v46, h46, j46⟩ := hD.dep hj haft 15 46 rfl rfl
          replace j46 : ((s2 && ac)) = true → v46 = (.bool (less e2 ak)) := j46
          replace hst : Below _ _ wq := hst
          clear hD hj haft hun
          rcases hE : ((s2 && ac)) with _ | _
          · rw [hE] at h39
            have e39 := eval_of h39
            have e46 := eval_of h46
            refine step_now (v := .bool (((s2 && ac) && less e2 ak))) (w' := wq) (wanted_free rfl) ?_ (hK _ _ (Below.refl _ _) rfl)
            rw [hE]
            clear hK
            first | (go_simp; done) | (go_simp; rfl) | (go_simp; (try simp only [IntKind.wrap_u32]); omega)
          · rw [hE] at h39
            obtain rfl := j46 hE
            have e39 := eval_of h39
            have e46 := eval_of h46
            refine step_now (v := .bool (((s2 && ac) && less e2 ak))) (w' := wq) (wanted_free rfl) ?_ (hK _ _ (Below.refl _ _) rfl)
            rw [hE]
            clear hK
            first | (go_simp; done) | (go_simp; rfl) | (go_simp; (try simp only [IntKind.wrap_u32]); omega)
        · intro listed vals a wq K hD hst hj haft hun hK
          obtain ⟨v47, h47, j47⟩ := hD.dep hj haft 16 47 rfl rfl
          replace j47 : v47 = (.bool (((s2 && ac) && less e2 ak))) := j47
          subst j47
          replace hst : Below _ _ wq := hst
          clear hD hj haft hun
          have e47 := eval_of h47
          refine step_now (v := .bool (((s2 && ac) && less e2 ak))) (w' := wq) (wanted_free rfl) ?_ (hK _ _ (Below.refl _ _) rfl)
          clear hK
          first | (go_simp; done) | (go_simp; rfl) | (go_simp; (try simp only [IntKind.wrap_u32]); omega)
      case hEnd =>
        intro vals wend hst hj
        have j0 : vals 0 = (.pointer (some ⟨g9, 5, none⟩)) := hj 0 (by decide)
        have j1 : vals 1 = (.pointer (some ⟨g9, 5, none⟩)) := hj 1 (by decide)
        have j2 : vals 2 = (.pointer (some ⟨g9, 5, none⟩)) := hj 2 (by decide)
        have j3 : vals 3 = (.bool s2) := hj 3 (by decide)
        have j4 : vals 4 = (.bool s2) := hj 4 (by decide)
        have j7 : vals 7 = (.bool ((s2 && ac))) := hj 7 (by decide)
        have j8 : vals 8 = (.bool ((s2 && ac))) := hj 8 (by decide)
        have j16 : vals 16 = (.bool (((s2 && ac) && less e2 ak))) := hj 16 (by decide)
        have j17 : vals 17 = (.bool (((s2 && ac) && less e2 ak))) := hj 17 (by decide)
        replace hst : Below _ _ wend := hst
        clear hj
        rw [putAll_list]
        simp only [putL, Act.put, List.setIfInBounds_toArray, List.set_cons_zero, List.set_cons_succ, j0, j1, j2, j3, j4, j7, j8, j16, j17]
        clear j0 j1 j2 j3 j4 j7 j8 j16 j17
        generalize vals 5 = u36_
        generalize vals 6 = u37_
        generalize vals 9 = u40_
        generalize vals 10 = u41_
        generalize vals 11 = u42_
        generalize vals 12 = u43_
        generalize vals 13 = u44_
        generalize vals 14 = u45_
        generalize vals 15 = u46_
        have HB_11 := Aside0.mk (below_step HB_10.out hst)
        clear HB_10
        have Bg3_11 := Aside0.mk (blk_below Bg3_10.out hst)
        clear Bg3_10
        have Bg5_11 := Aside0.mk (blk_below Bg5_10.out hst)
        clear Bg5_10
        have Bg6_11 := Aside0.mk (blk_below Bg6_10.out hst)
        clear Bg6_10
        have Bg8_11 := Aside0.mk (blk_below Bg8_10.out hst)
        clear Bg8_10
        have Bg9_11 := Aside0.mk (blk_below Bg9_10.out hst)
        clear Bg9_10
        clear hst
        rcases hc1 : (((s2 && ac) && less e2 ak)) with _ | _
        · go_upto_region 7 with (fail)
          refine wp_region_rg_seq (fun x y => Below x.heap.size x y) (fun (i : Nat) (v : Value) (w1 : World) => match i with | 0 => v = (.pointer (some ⟨g8, 13, none⟩)) | 1 => v = (.bool ac) | 2 => v = (.bool (!ac)) | 3 => v = (.bool (!ac)) | 4 => (!ac) = true → v = (.pointer (some ⟨g8, 10, none⟩)) | 5 => (!ac) = true → v = (.bool sy) | 6 => (!ac) = true → v = (.bool (!sy)) | 7 => v = (.bool ((!ac && !sy))) | 8 => v = (.bool ((!ac && !sy))) | 9 => ((!ac && !sy)) = true → v = (.pointer (some ⟨g8, 12, none⟩)) | 10 => ((!ac && !sy)) = true → v = (.bool rs) | 11 => ((!ac && !sy)) = true → v = (.bool (!rs)) | 12 => v = (.bool (((!ac && !sy) && !rs))) | 13 => v = (.bool (((!ac && !sy) && !rs))) | _ => True) (by kernel_rfl) (by kernel_rfl) below_tr (Below.refl _ _) ?hJst ?hObl ?hEnd
          case hJst =>
            intro i v wx wy hi hs0 hs1 hJi
            match i, hi with
            | 0, _ => exact hJi
            | 1, _ => exact hJi
            | 2, _ => exact hJi
            | 3, _ => exact hJi
            | 4, _ => exact hJi
            | 5, _ => exact hJi
            | 6, _ => exact hJi
            | 7, _ => exact hJi
            | 8, _ => exact hJi
            | 9, _ => exact hJi
            | 10, _ => exact hJi
            | 11, _ => exact hJi
            | 12, _ => exact hJi
            | 13, _ => exact hJi
            | _ + 14, hi => exact absurd hi (by simp)
          case hObl =>
            refine ⟨?_, ?_, ?_, ?_, ?_, ?_, ?_, ?_, ?_, ?_, ?_, ?_, ?_, ?_,  trivial⟩
            · intro listed vals a wq K hD hst hj haft hun hK
              have h8 := hD.out 8 rfl rfl
              replace hst : Below _ _ wq := hst
              clear hD hj haft hun
              have e8 := eval_of h8
              refine step_now (v := .pointer (some ⟨g8, 13, none⟩)) (w' := wq) (wanted_free rfl) ?_ (hK _ _ (Below.refl _ _) rfl)
              clear hK
              first | (go_simp; done) | (go_simp; rfl) | (go_simp; (try simp only [IntKind.wrap_u32]); omega)
            · intro listed vals a wq K hD hst hj haft hun hK
              obtain ⟨v48, h48, j48⟩ := hD.dep hj haft 0 48 rfl rfl
              replace j48 : v48 = (.pointer (some ⟨g8, 13, none⟩)) := j48
              subst j48
              replace hst : Below _ _ wq := hst
              clear hD hj haft hun
              have e48 := eval_of h48
              exact step_now (v := .bool ac) (w' := wq) (wanted_free rfl) (rg_load rfl e48 (blk_below Bg8_11.out hst) rfl Try.underlying4 rfl) (hK _ _ (Below.refl _ _) rfl)
            · intro listed vals a wq K hD hst hj haft hun hK
              obtain ⟨v49, h49, j49⟩ := hD.dep hj haft 1 49 rfl rfl
              replace j49 : v49 = (.bool ac) := j49
              subst j49
              replace hst : Below _ _ wq := hst
              clear hD hj haft hun
              have e49 := eval_of h49
              refine step_now (v := .bool (!ac)) (w' := wq) (wanted_free rfl) ?_ (hK _ _ (Below.refl _ _) rfl)
              clear hK
              first | (go_simp; done) | (go_simp; rfl) | (go_simp; (try simp only [IntKind.wrap_u32]); omega)
            · intro listed vals a wq K hD hst hj haft hun hK
              obtain ⟨v50, h50, j50⟩ := hD.dep hj haft 2 50 rfl rfl
              replace j50 : v50 = (.bool (!ac)) := j50
              subst j50
              replace hst : Below _ _ wq := hst
              clear hD hj haft hun
              have e50 := eval_of h50
              refine step_now (v := .bool (!ac)) (w' := wq) (wanted_free rfl) ?_ (hK _ _ (Below.refl _ _) rfl)
              clear hK
              first | (go_simp; done) | (go_simp; rfl) | (go_simp; (try simp only [IntKind.wrap_u32]); omega)
            · intro listed vals a wq K hD hst hj haft hun hK
              obtain ⟨v51, h51, j51⟩ := hD.dep hj haft 3 51 rfl rfl
              replace j51 : v51 = (.bool (!ac)) := j51
              subst j51
              have h8 := hD.out 8 rfl rfl
              replace hst : Below _ _ wq := hst
              clear hD hj haft hun
              rcases hE : (!ac) with _ | _
              · rw [hE] at h51
                exact step_off (wanted_off (t := 51) (u := true) rfl rfl rfl h51) (hK _ _ (Below.refl _ _) (fun h => by rw [hE] at h; cases h))
              · rw [hE] at h51
                have e8 := eval_of h8
                refine step_now (v := .pointer (some ⟨g8, 10, none⟩)) (w' := wq) (wanted_on (t := 51) (u := true) rfl rfl rfl h51) ?_ (hK _ _ (Below.refl _ _) (fun _ => rfl))
                clear hK
                first | (go_simp; done) | (go_simp; rfl) | (go_simp; (try simp only [IntKind.wrap_u32]); omega)
            · intro listed vals a wq K hD hst hj haft hun hK
              obtain ⟨v52, h52, j52⟩ := hD.dep hj haft 4 52 rfl rfl
              replace j52 : (!ac) = true → v52 = (.pointer (some ⟨g8, 10, none⟩)) := j52
              obtain ⟨v51, h51, j51⟩ := hD.dep hj haft 3 51 rfl rfl
              replace j51 : v51 = (.bool (!ac)) := j51
              subst j51
              replace hst : Below _ _ wq := hst
              clear hD hj haft hun
              rcases hE : (!ac) with _ | _
              · rw [hE] at h51
                exact step_off (wanted_off (t := 51) (u := true) rfl rfl rfl h51) (hK _ _ (Below.refl _ _) (fun h => by rw [hE] at h; cases h))
              · rw [hE] at h51
                obtain rfl := j52 hE
                have e52 := eval_of h52
                exact step_now (v := .bool sy) (w' := wq) (wanted_on (t := 51) (u := true) rfl rfl rfl h51) (rg_load rfl e52 (blk_below Bg8_11.out hst) rfl Try.underlying4 rfl) (hK _ _ (Below.refl _ _) (fun _ => rfl))
            · intro listed vals a wq K hD hst hj haft hun hK
              obtain ⟨v53, h53, j53⟩ := hD.dep hj haft 5 53 rfl rfl
              replace j53 : (!ac) = true → v53 = (.bool sy) := j53
              obtain ⟨v51, h51, j51⟩ := hD.dep hj haft 3 51 rfl rfl
              replace j51 : v51 = (.bool (!ac)) := j51
              subst j51
              replace hst : Below _ _ wq := hst
              clear hD hj haft hun
              rcases hE : (!ac) with _ | _
              · rw [hE] at h51
                exact step_off (wanted_off (t := 51) (u := true) rfl rfl rfl h51) (hK _ _ (Below.refl _ _) (fun h => by rw [hE] at h; cases h))
              · rw [hE] at h51
                obtain rfl := j53 hE
                have e53 := eval_of h53
                refine step_now (v := .bool (!sy)) (w' := wq) (wanted_on (t := 51) (u := true) rfl rfl rfl h51) ?_ (hK _ _ (Below.refl _ _) (fun _ => rfl))
                clear hK
                first | (go_simp; done) | (go_simp; rfl) | (go_simp; (try simp only [IntKind.wrap_u32]); omega)
            · intro listed vals a wq K hD hst hj haft hun hK
              obtain ⟨v51, h51, j51⟩ := hD.dep hj haft 3 51 rfl rfl
              replace j51 : v51 = (.bool (!ac)) := j51
              subst j51
              obtain ⟨v54, h54, j54⟩ := hD.dep hj haft 6 54 rfl rfl
              replace j54 : (!ac) = true → v54 = (.bool (!sy)) := j54
              replace hst : Below _ _ wq := hst
              clear hD hj haft hun
              rcases hE : (!ac) with _ | _
              · rw [hE] at h51
                have e51 := eval_of h51
                have e54 := eval_of h54
                refine step_now (v := .bool ((!ac && !sy))) (w' := wq) (wanted_free rfl) ?_ (hK _ _ (Below.refl _ _) rfl)
                rw [hE]
                clear hK
                first | (go_simp; done) | (go_simp; rfl) | (go_simp; (try simp only [IntKind.wrap_u32]); omega)
              · rw [hE] at h51
                obtain rfl := j54 hE
                have e51 := eval_of h51
                have e54 := eval_of h54
                refine step_now (v := .bool ((!ac && !sy))) (w' := wq) (wanted_free rfl) ?_ (hK _ _ (Below.refl _ _) rfl)
                rw [hE]
                clear hK
                first | (go_simp; done) | (go_simp; rfl) | (go_simp; (try simp only [IntKind.wrap_u32]); omega)
            · intro listed vals a wq K hD hst hj haft hun hK
              obtain ⟨v55, h55, j55⟩ := hD.dep hj haft 7 55 rfl rfl
              replace j55 : v55 = (.bool ((!ac && !sy))) := j55
              subst j55
              replace hst : Below _ _ wq := hst
              clear hD hj haft hun
              have e55 := eval_of h55
              refine step_now (v := .bool ((!ac && !sy))) (w' := wq) (wanted_free rfl) ?_ (hK _ _ (Below.refl _ _) rfl)
              clear hK
              first | (go_simp; done) | (go_simp; rfl) | (go_simp; (try simp only [IntKind.wrap_u32]); omega)
            · intro listed vals a wq K hD hst hj haft hun hK
              obtain ⟨v56, h56, j56⟩ := hD.dep hj haft 8 56 rfl rfl
              replace j56 : v56 = (.bool ((!ac && !sy))) := j56
              subst j56
              have h8 := hD.out 8 rfl rfl
              replace hst : Below _ _ wq := hst
              clear hD hj haft hun
              rcases hE : ((!ac && !sy)) with _ | _
              · rw [hE] at h56
                exact step_off (wanted_off (t := 56) (u := true) rfl rfl rfl h56) (hK _ _ (Below.refl _ _) (fun h => by rw [hE] at h; cases h))
              · rw [hE] at h56
                have e8 := eval_of h8
                refine step_now (v := .pointer (some ⟨g8, 12, none⟩)) (w' := wq) (wanted_on (t := 56) (u := true) rfl rfl rfl h56) ?_ (hK _ _ (Below.refl _ _) (fun _ => rfl))
                clear hK
                first | (go_simp; done) | (go_simp; rfl) | (go_simp; (try simp only [IntKind.wrap_u32]); omega)
            · intro listed vals a wq K hD hst hj haft hun hK
              obtain ⟨v57, h57, j57⟩ := hD.dep hj haft 9 57 rfl rfl
              replace j57 : ((!ac && !sy)) = true → v57 = (.pointer (some ⟨g8, 12, none⟩)) := j57
              obtain ⟨v56, h56, j56⟩ := hD.dep hj haft 8 56 rfl rfl
              replace j56 : v56 = (.bool ((!ac && !sy))) := j56
              subst j56
              replace hst : Below _ _ wq := hst
              clear hD hj haft hun
              rcases hE : ((!ac && !sy)) with _ | _
              · rw [hE] at h56
                exact step_off (wanted_off (t := 56) (u := true) rfl rfl rfl h56) (hK _ _ (Below.refl _ _) (fun h => by rw [hE] at h; cases h))
              · rw [hE] at h56
                obtain rfl := j57 hE
                have e57 := eval_of h57
                exact step_now (v := .bool rs) (w' := wq) (wanted_on (t := 56) (u := true) rfl rfl rfl h56) (rg_load rfl e57 (blk_below Bg8_11.out hst) rfl Try.underlying4 rfl) (hK _ _ (Below.refl _ _) (fun _ => rfl))
            · intro listed vals a wq K hD hst hj haft hun hK
              obtain ⟨v58, h58, j58⟩ := hD.dep hj haft 10 58 rfl rfl
              replace j58 : ((!ac && !sy)) = true → v58 = (.bool rs) := j58
              obtain ⟨v56, h56, j56⟩ := hD.dep hj haft 8 56 rfl rfl
              replace j56 : v56 = (.bool ((!ac && !sy))) := j56
              subst j56
              replace hst : Below _ _ wq := hst
              clear hD hj haft hun
              rcases hE : ((!ac && !sy)) with _ | _
              · rw [hE] at h56
                exact step_off (wanted_off (t := 56) (u := true) rfl rfl rfl h56) (hK _ _ (Below.refl _ _) (fun h => by rw [hE] at h; cases h))
              · rw [hE] at h56
                obtain rfl := j58 hE
                have e58 := eval_of h58
                refine step_now (v := .bool (!rs)) (w' := wq) (wanted_on (t := 56) (u := true) rfl rfl rfl h56) ?_ (hK _ _ (Below.refl _ _) (fun _ => rfl))
                clear hK
                first | (go_simp; done) | (go_simp; rfl) | (go_simp; (try simp only [IntKind.wrap_u32]); omega)
            · intro listed vals a wq K hD hst hj haft hun hK
              obtain ⟨v56, h56, j56⟩ := hD.dep hj haft 8 56 rfl rfl
              replace j56 : v56 = (.bool ((!ac && !sy))) := j56
              subst j56
              obtain ⟨v59, h59, j59⟩ := hD.dep hj haft 11 59 rfl rfl
              replace j59 : ((!ac && !sy)) = true → v59 = (.bool (!rs)) := j59
              replace hst : Below _ _ wq := hst
              clear hD hj haft hun
              rcases hE : ((!ac && !sy)) with _ | _
              · rw [hE] at h56
                have e56 := eval_of h56
                have e59 := eval_of h59
                refine step_now (v := .bool (((!ac && !sy) && !rs))) (w' := wq) (wanted_free rfl) ?_ (hK _ _ (Below.refl _ _) rfl)
                rw [hE]
                clear hK
                first | (go_simp; done) | (go_simp; rfl) | (go_simp; (try simp only [IntKind.wrap_u32]); omega)
              · rw [hE] at h56
                obtain rfl := j59 hE
                have e56 := eval_of h56
                have e59 := eval_of h59
                refine step_now (v := .bool (((!ac && !sy) && !rs))) (w' := wq) (wanted_free rfl) ?_ (hK _ _ (Below.refl _ _) rfl)
                rw [hE]
                clear hK
                first | (go_simp; done) | (go_simp; rfl) | (go_simp; (try simp only [IntKind.wrap_u32]); omega)
            · intro listed vals a wq K hD hst hj haft hun hK
              obtain ⟨v60, h60, j60⟩ := hD.dep hj haft 12 60 rfl rfl
              replace j60 : v60 = (.bool (((!ac && !sy) && !rs))) := j60
              subst j60
              replace hst : Below _ _ wq := hst
              clear hD hj haft hun
              have e60 := eval_of h60
              refine step_now (v := .bool (((!ac && !sy) && !rs))) (w' := wq) (wanted_free rfl) ?_ (hK _ _ (Below.refl _ _) rfl)
              clear hK
              first | (go_simp; done) | (go_simp; rfl) | (go_simp; (try simp only [IntKind.wrap_u32]); omega)
          case hEnd =>
            intro vals wend hst hj
            have j0 : vals 0 = (.pointer (some ⟨g8, 13, none⟩)) := hj 0 (by decide)
            have j1 : vals 1 = (.bool ac) := hj 1 (by decide)
            have j2 : vals 2 = (.bool (!ac)) := hj 2 (by decide)
            have j3 : vals 3 = (.bool (!ac)) := hj 3 (by decide)
            have j7 : vals 7 = (.bool ((!ac && !sy))) := hj 7 (by decide)
            have j8 : vals 8 = (.bool ((!ac && !sy))) := hj 8 (by decide)
            have j12 : vals 12 = (.bool (((!ac && !sy) && !rs))) := hj 12 (by decide)
            have j13 : vals 13 = (.bool (((!ac && !sy) && !rs))) := hj 13 (by decide)
            replace hst : Below _ _ wend := hst
            clear hj
            rw [putAll_list]
            simp only [putL, Act.put, List.setIfInBounds_toArray, List.set_cons_zero, List.set_cons_succ, j0, j1, j2, j3, j7, j8, j12, j13]
            clear j0 j1 j2 j3 j7 j8 j12 j13
            generalize vals 4 = u52_
            generalize vals 5 = u53_
            generalize vals 6 = u54_
            generalize vals 9 = u57_
            generalize vals 10 = u58_
            generalize vals 11 = u59_
            have HB_12 := Aside0.mk (below_step HB_11.out hst)
            clear HB_11
            have Bg3_12 := Aside0.mk (blk_below Bg3_11.out hst)
            clear Bg3_11
            have Bg5_12 := Aside0.mk (blk_below Bg5_11.out hst)
            clear Bg5_11
            have Bg6_12 := Aside0.mk (blk_below Bg6_11.out hst)
            clear Bg6_11
            have Bg8_12 := Aside0.mk (blk_below Bg8_11.out hst)
            clear Bg8_11
            have Bg9_12 := Aside0.mk (blk_below Bg9_11.out hst)
            clear Bg9_11
            clear hst
            rcases hc2 : (((!ac && !sy) && !rs)) with _ | _
            · rcases hsyn : (sy) with _ | _
              · rcases hx : (s1) with _ | _
                · go_upto_region 12 with (first | ((with_reducible refine gate_dst (N := 64) rfl ?_); refine load1_event rfl _ _ rfl g8 10 rfl _ _ _ _ Bg8_12.out rfl Try.underlying4 rfl ?_) | ((with_reducible refine gate_dst (N := 75) rfl ?_); refine load1_event rfl _ _ rfl g9 1 rfl _ _ _ _ Bg9_12.out rfl Try.underlying4 rfl ?_))
                  refine wp_region_rg (by kernel_rfl) (fun x y => Below x.heap.size x y) (fun (i : Nat) (v : Value) (w1 : World) => match i with | 0 => v = (.pointer (some ⟨g8, 12, none⟩)) | 1 => v = (.bool rs) | 2 => v = (.bool rs) | 3 => (rs) = true → v = (.pointer (some ⟨g8, 13, none⟩)) | 4 => (rs) = true → v = (.bool ac) | 5 => v = (.bool ((rs && ac))) | 6 => v = (.bool ((rs && ac))) | 7 => ((rs && ac)) = true → v = (.pointer (some ⟨g5, 3, none⟩)) | 8 => ((rs && ac)) = true → v = (.int .u32 ak) | 9 => ((rs && ac)) = true → v = (.pointer (some ⟨g9, 5, none⟩)) | 10 => ((rs && ac)) = true → v = (.pointer (some ⟨g9, 5, none⟩)) | 11 => ((rs && ac)) = true → v = (.pointer (some ⟨g9, 6, none⟩)) | 12 => ((rs && ac)) = true → v = (.int .u32 e2) | 13 => ((rs && ac)) = true → v = (.bool ((ak == e2))) | 14 => v = (.bool (((rs && ac) && (ak == e2)))) | _ => True) (by kernel_rfl) (by kernel_rfl) below_tr (Below.refl _ _).drew ?hJst (obl_list ?hObl) ?hEnd
                  case hJst =>
                    intro i v wx wy hi hs0 hs1 hJi
                    match i, hi with
                    | 0, _ => exact hJi
                    | 1, _ => exact hJi
                    | 2, _ => exact hJi
                    | 3, _ => exact hJi
                    | 4, _ => exact hJi
                    | 5, _ => exact hJi
                    | 6, _ => exact hJi
                    | 7, _ => exact hJi
                    | 8, _ => exact hJi
                    | 9, _ => exact hJi
                    | 10, _ => exact hJi
                    | 11, _ => exact hJi
                    | 12, _ => exact hJi
                    | 13, _ => exact hJi
                    | 14, _ => exact hJi
                    | _ + 15, hi => exact absurd hi (by simp)
                  case hObl =>
                    refine ⟨?_, ?_, ?_, ?_, ?_, ?_, ?_, ?_, ?_, ?_, ?_, ?_, ?_, ?_, ?_,  trivial⟩
                    · intro listed vals a wq K hD hst hj haft hun hK
                      have h8 := hD.out 8 rfl rfl
                      replace hst : Below _ _ wq := hst
                      clear hD hj haft hun
                      have e8 := eval_of h8
                      refine step_now (v := .pointer (some ⟨g8, 12, none⟩)) (w' := wq) (wanted_free rfl) ?_ (hK _ _ (Below.refl _ _) rfl)
                      clear hK
                      first | (go_simp; done) | (go_simp; rfl) | (go_simp; (try simp only [IntKind.wrap_u32]); omega)
                    · intro listed vals a wq K hD hst hj haft hun hK
                      obtain ⟨v77, h77, j77⟩ := hD.dep hj haft 0 77 rfl rfl
                      replace j77 : v77 = (.pointer (some ⟨g8, 12, none⟩)) := j77
                      subst j77
                      replace hst : Below _ _ wq := hst
                      clear hD hj haft hun
                      have e77 := eval_of h77
                      exact step_now (v := .bool rs) (w' := wq) (wanted_free rfl) (rg_load rfl e77 (blk_below Bg8_12.out hst) rfl Try.underlying4 rfl) (hK _ _ (Below.refl _ _) rfl)
                    · intro listed vals a wq K hD hst hj haft hun hK
                      obtain ⟨v78, h78, j78⟩ := hD.dep hj haft 1 78 rfl rfl
                      replace j78 : v78 = (.bool rs) := j78
                      subst j78
                      replace hst : Below _ _ wq := hst
                      clear hD hj haft hun
                      have e78 := eval_of h78
                      refine step_now (v := .bool rs) (w' := wq) (wanted_free rfl) ?_ (hK _ _ (Below.refl _ _) rfl)
                      clear hK
                      first | (go_simp; done) | (go_simp; rfl) | (go_simp; (try simp only [IntKind.wrap_u32]); omega)
                    · intro listed vals a wq K hD hst hj haft hun hK
                      obtain ⟨v79, h79, j79⟩ := hD.dep hj haft 2 79 rfl rfl
                      replace j79 : v79 = (.bool rs) := j79
                      subst j79
                      have h8 := hD.out 8 rfl rfl
                      replace hst : Below _ _ wq := hst
                      clear hD hj haft hun
                      rcases hE : (rs) with _ | _
                      · rw [hE] at h79
                        exact step_off (wanted_off (t := 79) (u := true) rfl rfl rfl h79) (hK _ _ (Below.refl _ _) (fun h => by rw [hE] at h; cases h))
                      · rw [hE] at h79
                        have e8 := eval_of h8
                        refine step_now (v := .pointer (some ⟨g8, 13, none⟩)) (w' := wq) (wanted_on (t := 79) (u := true) rfl rfl rfl h79) ?_ (hK _ _ (Below.refl _ _) (fun _ => rfl))
                        clear hK
                        first | (go_simp; done) | (go_simp; rfl) | (go_simp; (try simp only [IntKind.wrap_u32]); omega)
                    · intro listed vals a wq K hD hst hj haft hun hK
                      obtain ⟨v80, h80, j80⟩ := hD.dep hj haft 3 80 rfl rfl
                      replace j80 : (rs) = true → v80 = (.pointer (some ⟨g8, 13, none⟩)) := j80
                      obtain ⟨v79, h79, j79⟩ := hD.dep hj haft 2 79 rfl rfl
                      replace j79 : v79 = (.bool rs) := j79
                      subst j79
                      replace hst : Below _ _ wq := hst
                      clear hD hj haft hun
                      rcases hE : (rs) with _ | _
                      · rw [hE] at h79
                        exact step_off (wanted_off (t := 79) (u := true) rfl rfl rfl h79) (hK _ _ (Below.refl _ _) (fun h => by rw [hE] at h; cases h))
                      · rw [hE] at h79
                        obtain rfl := j80 hE
                        have e80 := eval_of h80
                        exact step_now (v := .bool ac) (w' := wq) (wanted_on (t := 79) (u := true) rfl rfl rfl h79) (rg_load rfl e80 (blk_below Bg8_12.out hst) rfl Try.underlying4 rfl) (hK _ _ (Below.refl _ _) (fun _ => rfl))
                    · intro listed vals a wq K hD hst hj haft hun hK
                      obtain ⟨v79, h79, j79⟩ := hD.dep hj haft 2 79 rfl rfl
                      replace j79 : v79 = (.bool rs) := j79
                      subst j79
                      obtain ⟨v81, h81, j81⟩ := hD.dep hj haft 4 81 rfl rfl
                      replace j81 : (rs) = true → v81 = (.bool ac) := j81
                      replace hst : Below _ _ wq := hst
                      clear hD hj haft hun
                      rcases hE : (rs) with _ | _
                      · rw [hE] at h79
                        have e79 := eval_of h79
                        have e81 := eval_of h81
                        refine step_now (v := .bool ((rs && ac))) (w' := wq) (wanted_free rfl) ?_ (hK _ _ (Below.refl _ _) rfl)
                        rw [hE]
                        clear hK
                        first | (go_simp; done) | (go_simp; rfl) | (go_simp; (try simp only [IntKind.wrap_u32]); omega)
                      · rw [hE] at h79
                        obtain rfl := j81 hE
                        have e79 := eval_of h79
                        have e81 := eval_of h81
                        refine step_now (v := .bool ((rs && ac))) (w' := wq) (wanted_free rfl) ?_ (hK _ _ (Below.refl _ _) rfl)
                        rw [hE]
                        clear hK
                        first | (go_simp; done) | (go_simp; rfl) | (go_simp; (try simp only [IntKind.wrap_u32]); omega)
                    · intro listed vals a wq K hD hst hj haft hun hK
                      obtain ⟨v82, h82, j82⟩ := hD.dep hj haft 5 82 rfl rfl
                      replace j82 : v82 = (.bool ((rs && ac))) := j82
                      subst j82
                      replace hst : Below _ _ wq := hst
                      clear hD hj haft hun
                      have e82 := eval_of h82
                      refine step_now (v := .bool ((rs && ac))) (w' := wq) (wanted_free rfl) ?_ (hK _ _ (Below.refl _ _) rfl)
                      clear hK
                      first | (go_simp; done) | (go_simp; rfl) | (go_simp; (try simp only [IntKind.wrap_u32]); omega)
                    · intro listed vals a wq K hD hst hj haft hun hK
                      obtain ⟨v83, h83, j83⟩ := hD.dep hj haft 6 83 rfl rfl
                      replace j83 : v83 = (.bool ((rs && ac))) := j83
                      subst j83
                      have h5 := hD.out 5 rfl rfl
                      replace hst : Below _ _ wq := hst
                      clear hD hj haft hun
                      rcases hE : ((rs && ac)) with _ | _
                      · rw [hE] at h83
                        exact step_off (wanted_off (t := 83) (u := true) rfl rfl rfl h83) (hK _ _ (Below.refl _ _) (fun h => by rw [hE] at h; cases h))
                      · rw [hE] at h83
                        have e5 := eval_of h5
                        refine step_now (v := .pointer (some ⟨g5, 3, none⟩)) (w' := wq) (wanted_on (t := 83) (u := true) rfl rfl rfl h83) ?_ (hK _ _ (Below.refl _ _) (fun _ => rfl))
                        clear hK
                        first | (go_simp; done) | (go_simp; rfl) | (go_simp; (try simp only [IntKind.wrap_u32]); omega)
                    · intro listed vals a wq K hD hst hj haft hun hK
                      obtain ⟨v84, h84, j84⟩ := hD.dep hj haft 7 84 rfl rfl
                      replace j84 : ((rs && ac)) = true → v84 = (.pointer (some ⟨g5, 3, none⟩)) := j84
                      obtain ⟨v83, h83, j83⟩ := hD.dep hj haft 6 83 rfl rfl
                      replace j83 : v83 = (.bool ((rs && ac))) := j83
                      subst j83
                      replace hst : Below _ _ wq := hst
                      clear hD hj haft hun
                      rcases hE : ((rs && ac)) with _ | _
                      · rw [hE] at h83
                        exact step_off (wanted_off (t := 83) (u := true) rfl rfl rfl h83) (hK _ _ (Below.refl _ _) (fun h => by rw [hE] at h; cases h))
                      · rw [hE] at h83
                        obtain rfl := j84 hE
                        have e84 := eval_of h84
                        exact step_now (v := .int .u32 ak) (w' := wq) (wanted_on (t := 83) (u := true) rfl rfl rfl h83) (rg_load rfl e84 (blk_below Bg5_12.out hst) rfl Try.underlying33 rfl) (hK _ _ (Below.refl _ _) (fun _ => rfl))
                    · intro listed vals a wq K hD hst hj haft hun hK
                      obtain ⟨v83, h83, j83⟩ := hD.dep hj haft 6 83 rfl rfl
                      replace j83 : v83 = (.bool ((rs && ac))) := j83
                      subst j83
                      have h11 := hD.out 11 rfl rfl
                      replace hst : Below _ _ wq := hst
                      clear hD hj haft hun
                      rcases hE : ((rs && ac)) with _ | _
                      · rw [hE] at h83
                        exact step_off (wanted_off (t := 83) (u := true) rfl rfl rfl h83) (hK _ _ (Below.refl _ _) (fun h => by rw [hE] at h; cases h))
                      · rw [hE] at h83
                        have e11 := eval_of h11
                        refine step_now (v := .pointer (some ⟨g9, 5, none⟩)) (w' := wq) (wanted_on (t := 83) (u := true) rfl rfl rfl h83) ?_ (hK _ _ (Below.refl _ _) (fun _ => rfl))
                        clear hK
                        first | (go_simp; done) | (go_simp; rfl) | (go_simp; (try simp only [IntKind.wrap_u32]); omega)
                    · intro listed vals a wq K hD hst hj haft hun hK
                      obtain ⟨v86, h86, j86⟩ := hD.dep hj haft 9 86 rfl rfl
                      replace j86 : ((rs && ac)) = true → v86 = (.pointer (some ⟨g9, 5, none⟩)) := j86
                      obtain ⟨v83, h83, j83⟩ := hD.dep hj haft 6 83 rfl rfl
                      replace j83 : v83 = (.bool ((rs && ac))) := j83
                      subst j83
                      replace hst : Below _ _ wq := hst
                      clear hD hj haft hun
                      rcases hE : ((rs && ac)) with _ | _
                      · rw [hE] at h83
                        exact step_off (wanted_off (t := 83) (u := true) rfl rfl rfl h83) (hK _ _ (Below.refl _ _) (fun h => by rw [hE] at h; cases h))
                      · rw [hE] at h83
                        obtain rfl := j86 hE
                        have e86 := eval_of h86
                        refine step_now (v := .pointer (some ⟨g9, 5, none⟩)) (w' := wq) (wanted_on (t := 83) (u := true) rfl rfl rfl h83) ?_ (hK _ _ (Below.refl _ _) (fun _ => rfl))
                        clear hK
                        first | (go_simp; done) | (go_simp; rfl) | (go_simp; (try simp only [IntKind.wrap_u32]); omega)
                    · intro listed vals a wq K hD hst hj haft hun hK
                      obtain ⟨v87, h87, j87⟩ := hD.dep hj haft 10 87 rfl rfl
                      replace j87 : ((rs && ac)) = true → v87 = (.pointer (some ⟨g9, 5, none⟩)) := j87
                      obtain ⟨v83, h83, j83⟩ := hD.dep hj haft 6 83 rfl rfl
                      replace j83 : v83 = (.bool ((rs && ac))) := j83
                      subst j83
                      replace hst : Below _ _ wq := hst
                      clear hD hj haft hun
                      rcases hE : ((rs && ac)) with _ | _
                      · rw [hE] at h83
                        exact step_off (wanted_off (t := 83) (u := true) rfl rfl rfl h83) (hK _ _ (Below.refl _ _) (fun h => by rw [hE] at h; cases h))
                      · rw [hE] at h83
                        obtain rfl := j87 hE
                        have e87 := eval_of h87
                        refine step_now (v := .pointer (some ⟨g9, 6, none⟩)) (w' := wq) (wanted_on (t := 83) (u := true) rfl rfl rfl h83) ?_ (hK _ _ (Below.refl _ _) (fun _ => rfl))
                        clear hK
                        first | (go_simp; done) | (go_simp; rfl) | (go_simp; (try simp only [IntKind.wrap_u32]); omega)
                    · intro listed vals a wq K hD hst hj haft hun hK
                      obtain ⟨v88, h88, j88⟩ := hD.dep hj haft 11 88 rfl rfl
                      replace j88 : ((rs && ac)) = true → v88 = (.pointer (some ⟨g9, 6, none⟩)) := j88
                      obtain ⟨v83, h83, j83⟩ := hD.dep hj haft 6 83 rfl rfl
                      replace j83 : v83 = (.bool ((rs && ac))) := j83
                      subst j83
                      replace hst : Below _ _ wq := hst
                      clear hD hj haft hun
                      rcases hE : ((rs && ac)) with _ | _
                      · rw [hE] at h83
                        exact step_off (wanted_off (t := 83) (u := true) rfl rfl rfl h83) (hK _ _ (Below.refl _ _) (fun h => by rw [hE] at h; cases h))
                      · rw [hE] at h83
                        obtain rfl := j88 hE
                        have e88 := eval_of h88
                        exact step_now (v := .int .u32 e2) (w' := wq) (wanted_on (t := 83) (u := true) rfl rfl rfl h83) (rg_load rfl e88 (blk_below Bg9_12.out hst) rfl Try.underlying33 rfl) (hK _ _ (Below.refl _ _) (fun _ => rfl))
                    · intro listed vals a wq K hD hst hj haft hun hK
                      obtain ⟨v85, h85, j85⟩ := hD.dep hj haft 8 85 rfl rfl
                      replace j85 : ((rs && ac)) = true → v85 = (.int .u32 ak) := j85
                      obtain ⟨v89, h89, j89⟩ := hD.dep hj haft 12 89 rfl rfl
                      replace j89 : ((rs && ac)) = true → v89 = (.int .u32 e2) := j89
                      obtain ⟨v83, h83, j83⟩ := hD.dep hj haft 6 83 rfl rfl
                      replace j83 : v83 = (.bool ((rs && ac))) := j83
                      subst j83
                      replace hst : Below _ _ wq := hst
                      clear hD hj haft hun
                      rcases hE : ((rs && ac)) with _ | _
                      · rw [hE] at h83
                        exact step_off (wanted_off (t := 83) (u := true) rfl rfl rfl h83) (hK _ _ (Below.refl _ _) (fun h => by rw [hE] at h; cases h))
                      · rw [hE] at h83
                        obtain rfl := j85 hE
                        obtain rfl := j89 hE
                        have e85 := eval_of h85
                        have e89 := eval_of h89
                        refine step_now (v := .bool ((ak == e2))) (w' := wq) (wanted_on (t := 83) (u := true) rfl rfl rfl h83) ?_ (hK _ _ (Below.refl _ _) (fun _ => rfl))
                        clear hK
                        first | (go_simp; done) | (go_simp; rfl) | (go_simp; (try simp only [IntKind.wrap_u32]); omega)
                    · intro listed vals a wq K hD hst hj haft hun hK
                      obtain ⟨v83, h83, j83⟩ := hD.dep hj haft 6 83 rfl rfl
                      replace j83 : v83 = (.bool ((rs && ac))) := j83
                      subst j83
                      obtain ⟨v90, h90, j90⟩ := hD.dep hj haft 13 90 rfl rfl
                      replace j90 : ((rs && ac)) = true → v90 = (.bool ((ak == e2))) := j90
                      replace hst : Below _ _ wq := hst
                      clear hD hj haft hun
                      rcases hE : ((rs && ac)) with _ | _
                      · rw [hE] at h83
                        have e83 := eval_of h83
                        have e90 := eval_of h90
                        refine step_now (v := .bool (((rs && ac) && (ak == e2)))) (w' := wq) (wanted_free rfl) ?_ (hK _ _ (Below.refl _ _) rfl)
                        rw [hE]
                        clear hK
                        first | (go_simp; done) | (go_simp; rfl) | (go_simp; (try simp only [IntKind.wrap_u32]); omega)
                      · rw [hE] at h83
                        obtain rfl := j90 hE
                        have e83 := eval_of h83
                        have e90 := eval_of h90
                        refine step_now (v := .bool (((rs && ac) && (ak == e2)))) (w' := wq) (wanted_free rfl) ?_ (hK _ _ (Below.refl _ _) rfl)
                        rw [hE]
                        clear hK
                        first | (go_simp; done) | (go_simp; rfl) | (go_simp; (try simp only [IntKind.wrap_u32]); omega)
                  case hEnd =>
                    intro vals wend hst hj
                    have j0 : vals 0 = (.pointer (some ⟨g8, 12, none⟩)) := hj 0 (by decide)
                    have j1 : vals 1 = (.bool rs) := hj 1 (by decide)
                    have j2 : vals 2 = (.bool rs) := hj 2 (by decide)
                    have j5 : vals 5 = (.bool ((rs && ac))) := hj 5 (by decide)
                    have j6 : vals 6 = (.bool ((rs && ac))) := hj 6 (by decide)
                    have j14 : vals 14 = (.bool (((rs && ac) && (ak == e2)))) := hj 14 (by decide)
                    replace hst : Below _ _ wend := hst
                    clear hj
                    rw [putAll_list]
                    simp only [putL, Act.put, List.setIfInBounds_toArray, List.set_cons_zero, List.set_cons_succ, j0, j1, j2, j5, j6, j14]
                    clear j0 j1 j2 j5 j6 j14
                    generalize vals 3 = u80_
                    generalize vals 4 = u81_
                    generalize vals 7 = u84_
                    generalize vals 8 = u85_
                    generalize vals 9 = u86_
                    generalize vals 10 = u87_
                    generalize vals 11 = u88_
                    generalize vals 12 = u89_
                    generalize vals 13 = u90_
                    have HB_13 := Aside0.mk (below_step HB_12.out hst)
                    clear HB_12
                    have Bg3_13 := Aside0.mk (blk_below Bg3_12.out hst)
                    clear Bg3_12
                    have Bg5_13 := Aside0.mk (blk_below Bg5_12.out hst)
                    clear Bg5_12
                    have Bg6_13 := Aside0.mk (blk_below Bg6_12.out hst)
                    clear Bg6_12
                    have Bg8_13 := Aside0.mk (blk_below Bg8_12.out hst)
                    clear Bg8_12
                    have Bg9_13 := Aside0.mk (blk_below Bg9_12.out hst)
                    clear Bg9_12
                    clear hst
                    rcases hc3 : (((rs && ac) && (ak == e2))) with _ | _
                    · go_wp2_with (first | ((with_reducible refine gate_dst (N := 94) rfl ?_); refine load_event rfl 41 _ rfl g3 rfl _ _ _ Bg3_13.out Try.underlying41 rfl (by kernel_rfl) ?_) | ((with_reducible refine gate_store (t := 41) (p := 6) rfl ?_); refine store_event rfl 41 _ _ rfl g6 _ rfl rfl _ _ Bg6_13.out (by kernel_rfl) rfl rfl ?_; intro wx14 hst hu; have HB_14 := Aside0.mk (below_upd HB_13.out hu (below_size HB_13.out) (fun k hk => by cases hk; exact Lg6.out)); clear HB_13; have Bg3_14 := Aside0.mk (Upd.blk hu Bg3_13.out (One.not Ng3g6.out)); clear Bg3_13; have Bg5_14 := Aside0.mk (Upd.blk hu Bg5_13.out (One.not Ng5g6.out)); clear Bg5_13; have Bg8_14 := Aside0.mk (Upd.blk hu Bg8_13.out (One.not (Ne.symm Ng6g8.out))); clear Bg8_13; have Bg9_14 := Aside0.mk (Upd.blk hu Bg9_13.out (One.not (Ne.symm Ng6g9.out))); clear Bg9_13; have Bg6_14 := Aside0.mk hst; clear hst hu Bg6_13))
                      refine bodyPost_ret (results_ct rfl _ _ g6 41 #[.int .i64 st, .bool s1, .int .u32 e1, .int .u32 m1, .bool f1, .bool s2, .int .u32 e2, .int .u32 m2, .bool f2] (0, 0) _ rfl Bg6_14.out Try.underlying41 rfl (by kernel_rfl)) rfl (nextPost_mk (⟨st, ⟨s1, e1, m1, f1⟩, ⟨s2, e2, m2, f2⟩⟩, false) ?_ HB_14.out)
                      first | (simp only [next, F2.out, F1.out, F4.out, F16.out, FE.out, hc0, hc1, hc2, hc3, Bool.false_eq_true, if_true, if_false, Bool.not_true, Bool.not_false, Bool.and_true, Bool.and_false, reduceIte]; done) | (simp only [next, F2.out, F1.out, F4.out, F16.out, FE.out, hc0, hc1, hc2, hc3, Bool.false_eq_true, if_true, if_false, Bool.not_true, Bool.not_false, Bool.and_true, Bool.and_false, reduceIte]; simp only [hsyn, hx, Bool.false_eq_true, if_true, if_false, Bool.not_true, Bool.not_false, Bool.and_true, Bool.and_false, reduceIte]; done) | (simp only [next, F2.out, F1.out, F4.out, F16.out, FE.out, hc0, hc1, hc2, hc3, Bool.false_eq_true, if_true, if_false, Bool.not_true, Bool.not_false, Bool.and_true, Bool.and_false, reduceIte]; simp [hsyn, hx, hc0, hc1, hc2, hc3]; done) | ((try simp [hsyn] at hc2); simp [next, F2.out, F1.out, F4.out, F16.out, FE.out, hsyn, hx, hc0, hc1, hc2, hc3]; done) | (cases ac <;> simp_all [next]; done)
                    · go_wp2_with (first | ((with_reducible refine gate_store (t := 3) (p := 92) rfl ?_); refine store1_event rfl _ _ _ rfl g9 0 rfl (.int .i64 5) _ ?hy _ _ #[.int .i64 5, .bool s1, .int .u32 e1, .int .u32 m1, .bool f1, .bool s2, .int .u32 e2, .int .u32 m2, .bool f2] Bg9_13.out rfl (by kernel_rfl) rfl rfl rfl ?_; (case hy => first | (with_reducible rfl) | rfl | (refine congrArg (Value.int _) ?_; omega)); intro wx14 hst hu; have HB_14 := Aside0.mk (below_upd HB_13.out hu (below_size HB_13.out) (fun k hk => by cases hk; exact Lg9.out)); clear HB_13; have Bg3_14 := Aside0.mk (Upd.blk hu Bg3_13.out (One.not Ng3g9.out)); clear Bg3_13; have Bg5_14 := Aside0.mk (Upd.blk hu Bg5_13.out (One.not Ng5g9.out)); clear Bg5_13; have Bg6_14 := Aside0.mk (Upd.blk hu Bg6_13.out (One.not Ng6g9.out)); clear Bg6_13; have Bg8_14 := Aside0.mk (Upd.blk hu Bg8_13.out (One.not Ng8g9.out)); clear Bg8_13; have Bg9_14 := Aside0.mk hst; clear hst hu Bg9_13) | ((with_reducible refine gate_dst (N := 93) rfl ?_); refine load_event rfl 41 _ rfl g9 rfl _ _ _ Bg9_14.out Try.underlying41 rfl (by kernel_rfl) ?_) | ((with_reducible refine gate_store (t := 41) (p := 6) rfl ?_); refine store_event rfl 41 _ _ rfl g6 _ rfl rfl _ _ Bg6_14.out (by kernel_rfl) rfl rfl ?_; intro wx15 hst hu; have HB_15 := Aside0.mk (below_upd HB_14.out hu (below_size HB_14.out) (fun k hk => by cases hk; exact Lg6.out)); clear HB_14; have Bg3_15 := Aside0.mk (Upd.blk hu Bg3_14.out (One.not Ng3g6.out)); clear Bg3_14; have Bg5_15 := Aside0.mk (Upd.blk hu Bg5_14.out (One.not Ng5g6.out)); clear Bg5_14; have Bg8_15 := Aside0.mk (Upd.blk hu Bg8_14.out (One.not (Ne.symm Ng6g8.out))); clear Bg8_14; have Bg9_15 := Aside0.mk (Upd.blk hu Bg9_14.out (One.not (Ne.symm Ng6g9.out))); clear Bg9_14; have Bg6_15 := Aside0.mk hst; clear hst hu Bg6_14))
                      refine bodyPost_ret (results_ct rfl _ _ g6 41 #[.int .i64 5, .bool s1, .int .u32 e1, .int .u32 m1, .bool f1, .bool s2, .int .u32 e2, .int .u32 m2, .bool f2] (0, 0) _ rfl Bg6_15.out Try.underlying41 rfl (by kernel_rfl)) rfl (nextPost_mk (⟨5, ⟨s1, e1, m1, f1⟩, ⟨s2, e2, m2, f2⟩⟩, true) ?_ HB_15.out)
                      first | (simp only [next, F2.out, F1.out, F4.out, F16.out, FE.out, hc0, hc1, hc2, hc3, Bool.false_eq_true, if_true, if_false, Bool.not_true, Bool.not_false, Bool.and_true, Bool.and_false, reduceIte]; done) | (simp only [next, F2.out, F1.out, F4.out, F16.out, FE.out, hc0, hc1, hc2, hc3, Bool.false_eq_true, if_true, if_false, Bool.not_true, Bool.not_false, Bool.and_true, Bool.and_false, reduceIte]; simp only [hsyn, hx, Bool.false_eq_true, if_true, if_false, Bool.not_true, Bool.not_false, Bool.and_true, Bool.and_false, reduceIte]; done) | (simp only [next, F2.out, F1.out, F4.out, F16.out, FE.out, hc0, hc1, hc2, hc3, Bool.false_eq_true, if_true, if_false, Bool.not_true, Bool.not_false, Bool.and_true, Bool.and_false, reduceIte]; simp [hsyn, hx, hc0, hc1, hc2, hc3]; done) | ((try simp [hsyn] at hc2); simp [next, F2.out, F1.out, F4.out, F16.out, FE.out, hsyn, hx, hc0, hc1, hc2, hc3]; done) | (cases ac <;> simp_all [next]; done)
                · go_upto_region 16 with (first | ((with_reducible refine gate_dst (N := 64) rfl ?_); refine load1_event rfl _ _ rfl g8 10 rfl _ _ _ _ Bg8_12.out rfl Try.underlying4 rfl ?_) | ((with_reducible refine gate_dst (N := 75) rfl ?_); refine load1_event rfl _ _ rfl g9 1 rfl _ _ _ _ Bg9_12.out rfl Try.underlying4 rfl ?_))
                  refine wp_region_rg (by kernel_rfl) (fun x y => Below x.heap.size x y) (fun (i : Nat) (v : Value) (w1 : World) => match i with | 0 => v = (.pointer (some ⟨g9, 1, none⟩)) | 1 => v = (.pointer (some ⟨g9, 1, none⟩)) | 2 => v = (.pointer (some ⟨g9, 3, none⟩)) | 3 => v = (.int .u32 m1) | 4 => v = (.pointer (some ⟨g8, 14, none⟩)) | 5 => v = (.int .u32 en) | 6 => v = (.bool (less m1 en)) | 7 => v = (.bool (less m1 en)) | _ => True) (by kernel_rfl) (by kernel_rfl) below_tr (Below.refl _ _).drew ?hJst (obl_list ?hObl) ?hEnd
                  case hJst =>
                    intro i v wx wy hi hs0 hs1 hJi
                    match i, hi with
                    | 0, _ => exact hJi
                    | 1, _ => exact hJi
                    | 2, _ => exact hJi
                    | 3, _ => exact hJi
                    | 4, _ => exact hJi
                    | 5, _ => exact hJi
                    | 6, _ => exact hJi
                    | 7, _ => exact hJi
                    | _ + 8, hi => exact absurd hi (by simp)
                  case hObl =>
                    refine ⟨?_, ?_, ?_, ?_, ?_, ?_, ?_, ?_,  trivial⟩
                    · intro listed vals a wq K hD hst hj haft hun hK
                      have h10 := hD.out 10 rfl rfl
                      replace hst : Below _ _ wq := hst
                      clear hD hj haft hun
                      have e10 := eval_of h10
                      refine step_now (v := .pointer (some ⟨g9, 1, none⟩)) (w' := wq) (wanted_free rfl) ?_ (hK _ _ (Below.refl _ _) rfl)
                      clear hK
                      first | (go_simp; done) | (go_simp; rfl) | (go_simp; (try simp only [IntKind.wrap_u32]); omega)
                    · intro listed vals a wq K hD hst hj haft hun hK
                      obtain ⟨v96, h96, j96⟩ := hD.dep hj haft 0 96 rfl rfl
                      replace j96 : v96 = (.pointer (some ⟨g9, 1, none⟩)) := j96
                      subst j96
                      replace hst : Below _ _ wq := hst
                      clear hD hj haft hun
                      have e96 := eval_of h96
                      refine step_now (v := .pointer (some ⟨g9, 1, none⟩)) (w' := wq) (wanted_free rfl) ?_ (hK _ _ (Below.refl _ _) rfl)
                      clear hK
                      first | (go_simp; done) | (go_simp; rfl) | (go_simp; (try simp only [IntKind.wrap_u32]); omega)
                    · intro listed vals a wq K hD hst hj haft hun hK
                      obtain ⟨v97, h97, j97⟩ := hD.dep hj haft 1 97 rfl rfl
                      replace j97 : v97 = (.pointer (some ⟨g9, 1, none⟩)) := j97
                      subst j97
                      replace hst : Below _ _ wq := hst
                      clear hD hj haft hun
                      have e97 := eval_of h97
                      refine step_now (v := .pointer (some ⟨g9, 3, none⟩)) (w' := wq) (wanted_free rfl) ?_ (hK _ _ (Below.refl _ _) rfl)
                      clear hK
                      first | (go_simp; done) | (go_simp; rfl) | (go_simp; (try simp only [IntKind.wrap_u32]); omega)
                    · intro listed vals a wq K hD hst hj haft hun hK
                      obtain ⟨v98, h98, j98⟩ := hD.dep hj haft 2 98 rfl rfl
                      replace j98 : v98 = (.pointer (some ⟨g9, 3, none⟩)) := j98
                      subst j98
                      replace hst : Below _ _ wq := hst
                      clear hD hj haft hun
                      have e98 := eval_of h98
                      exact step_now (v := .int .u32 m1) (w' := wq) (wanted_free rfl) (rg_load rfl e98 (blk_below Bg9_12.out hst) rfl Try.underlying33 rfl) (hK _ _ (Below.refl _ _) rfl)
                    · intro listed vals a wq K hD hst hj haft hun hK
                      have h8 := hD.out 8 rfl rfl
                      replace hst : Below _ _ wq := hst
                      clear hD hj haft hun
                      have e8 := eval_of h8
                      refine step_now (v := .pointer (some ⟨g8, 14, none⟩)) (w' := wq) (wanted_free rfl) ?_ (hK _ _ (Below.refl _ _) rfl)
                      clear hK
                      first | (go_simp; done) | (go_simp; rfl) | (go_simp; (try simp only [IntKind.wrap_u32]); omega)
                    · intro listed vals a wq K hD hst hj haft hun hK
                      obtain ⟨v100, h100, j100⟩ := hD.dep hj haft 4 100 rfl rfl
                      replace j100 : v100 = (.pointer (some ⟨g8, 14, none⟩)) := j100
                      subst j100
                      replace hst : Below _ _ wq := hst
                      clear hD hj haft hun
                      have e100 := eval_of h100
                      exact step_now (v := .int .u32 en) (w' := wq) (wanted_free rfl) (rg_load rfl e100 (blk_below Bg8_12.out hst) rfl Try.underlying33 rfl) (hK _ _ (Below.refl _ _) rfl)
                    · intro listed vals a wq K hD hst hj haft hun hK
                      obtain ⟨v99, h99, j99⟩ := hD.dep hj haft 3 99 rfl rfl
                      replace j99 : v99 = (.int .u32 m1) := j99
                      subst j99
                      obtain ⟨v101, h101, j101⟩ := hD.dep hj haft 5 101 rfl rfl
                      replace j101 : v101 = (.int .u32 en) := j101
                      subst j101
                      replace hst : Below _ _ wq := hst
                      clear hD hj haft hun
                      have e99 := eval_of h99
                      have e101 := eval_of h101
                      refine step_call (f := 41) (args := #[.int .u32 m1, .int .u32 en]) (wanted_free rfl) ?_ (less_any m1 en wq) ?_
                      · clear hK; first | (go_simp; done) | (go_simp; rfl)
                      · rintro e w' ⟨rfl, rfl⟩; exact ⟨_, rfl, hK _ _ (Below.refl _ _) rfl⟩
                    · intro listed vals a wq K hD hst hj haft hun hK
                      obtain ⟨v102, h102, j102⟩ := hD.dep hj haft 6 102 rfl rfl
                      replace j102 : v102 = (.bool (less m1 en)) := j102
                      subst j102
                      replace hst : Below _ _ wq := hst
                      clear hD hj haft hun
                      have e102 := eval_of h102
                      refine step_now (v := .bool (less m1 en)) (w' := wq) (wanted_free rfl) ?_ (hK _ _ (Below.refl _ _) rfl)
                      clear hK
                      first | (go_simp; done) | (go_simp; rfl) | (go_simp; (try simp only [IntKind.wrap_u32]); omega)
                  case hEnd =>
                    intro vals wend hst hj
                    have j0 : vals 0 = (.pointer (some ⟨g9, 1, none⟩)) := hj 0 (by decide)
                    have j1 : vals 1 = (.pointer (some ⟨g9, 1, none⟩)) := hj 1 (by decide)
                    have j2 : vals 2 = (.pointer (some ⟨g9, 3, none⟩)) := hj 2 (by decide)
                    have j3 : vals 3 = (.int .u32 m1) := hj 3 (by decide)
                    have j4 : vals 4 = (.pointer (some ⟨g8, 14, none⟩)) := hj 4 (by decide)
                    have j5 : vals 5 = (.int .u32 en) := hj 5 (by decide)
                    have j6 : vals 6 = (.bool (less m1 en)) := hj 6 (by decide)
                    have j7 : vals 7 = (.bool (less m1 en)) := hj 7 (by decide)
                    replace hst : Below _ _ wend := hst
                    clear hj
                    rw [putAll_list]
                    simp only [putL, Act.put, List.setIfInBounds_toArray, List.set_cons_zero, List.set_cons_succ, j0, j1, j2, j3, j4, j5, j6, j7]
                    clear j0 j1 j2 j3 j4 j5 j6 j7
                    have HB_13 := Aside0.mk (below_step HB_12.out hst)
                    clear HB_12
                    have Bg3_13 := Aside0.mk (blk_below Bg3_12.out hst)
                    clear Bg3_12
                    have Bg5_13 := Aside0.mk (blk_below Bg5_12.out hst)
                    clear Bg5_12
                    have Bg6_13 := Aside0.mk (blk_below Bg6_12.out hst)
                    clear Bg6_12
                    have Bg8_13 := Aside0.mk (blk_below Bg8_12.out hst)
                    clear Bg8_12
                    have Bg9_13 := Aside0.mk (blk_below Bg9_12.out hst)
                    clear Bg9_12
                    clear hst
                    rcases hc3 : (less m1 en) with _ | _
                    · go_upto_region 17 with (fail)
                      refine wp_region_rg (by kernel_rfl) (fun x y => Below x.heap.size x y) (fun (i : Nat) (v : Value) (w1 : World) => match i with | 0 => v = (.pointer (some ⟨g5, 2, none⟩)) | 1 => v = (.int .u32 sq) | 2 => v = (.pointer (some ⟨g9, 1, none⟩)) | 3 => v = (.pointer (some ⟨g9, 1, none⟩)) | 4 => v = (.pointer (some ⟨g9, 2, none⟩)) | 5 => v = (.int .u32 e1) | 6 => v = (.int .u32 ((e1 - 65536) % 4294967296)) | 7 => v = (.bool (less sq ((e1 - 65536) % 4294967296))) | 8 => v = (.bool (less sq ((e1 - 65536) % 4294967296))) | _ => True) (by kernel_rfl) (by kernel_rfl) below_tr (Below.refl _ _).drew ?hJst (obl_list ?hObl) ?hEnd
                      case hJst =>
                        intro i v wx wy hi hs0 hs1 hJi
                        match i, hi with
                        | 0, _ => exact hJi
                        | 1, _ => exact hJi
                        | 2, _ => exact hJi
                        | 3, _ => exact hJi
                        | 4, _ => exact hJi
                        | 5, _ => exact hJi
                        | 6, _ => exact hJi
                        | 7, _ => exact hJi
                        | 8, _ => exact hJi
                        | _ + 9, hi => exact absurd hi (by simp)
                      case hObl =>
                        refine ⟨?_, ?_, ?_, ?_, ?_, ?_, ?_, ?_, ?_,  trivial⟩
                        · intro listed vals a wq K hD hst hj haft hun hK
                          have h5 := hD.out 5 rfl rfl
                          replace hst : Below _ _ wq := hst
                          clear hD hj haft hun
                          have e5 := eval_of h5
                          refine step_now (v := .pointer (some ⟨g5, 2, none⟩)) (w' := wq) (wanted_free rfl) ?_ (hK _ _ (Below.refl _ _) rfl)
                          clear hK
                          first | (go_simp; done) | (go_simp; rfl) | (go_simp; (try simp only [IntKind.wrap_u32]); omega)
                        · intro listed vals a wq K hD hst hj haft hun hK
                          obtain ⟨v103, h103, j103⟩ := hD.dep hj haft 0 103 rfl rfl
                          replace j103 : v103 = (.pointer (some ⟨g5, 2, none⟩)) := j103
                          subst j103
                          replace hst : Below _ _ wq := hst
                          clear hD hj haft hun
                          have e103 := eval_of h103
                          exact step_now (v := .int .u32 sq) (w' := wq) (wanted_free rfl) (rg_load rfl e103 (blk_below Bg5_13.out hst) rfl Try.underlying33 rfl) (hK _ _ (Below.refl _ _) rfl)
                        · intro listed vals a wq K hD hst hj haft hun hK
                          have h10 := hD.out 10 rfl rfl
                          replace hst : Below _ _ wq := hst
                          clear hD hj haft hun
                          have e10 := eval_of h10
                          refine step_now (v := .pointer (some ⟨g9, 1, none⟩)) (w' := wq) (wanted_free rfl) ?_ (hK _ _ (Below.refl _ _) rfl)
                          clear hK
                          first | (go_simp; done) | (go_simp; rfl) | (go_simp; (try simp only [IntKind.wrap_u32]); omega)
                        · intro listed vals a wq K hD hst hj haft hun hK
                          obtain ⟨v105, h105, j105⟩ := hD.dep hj haft 2 105 rfl rfl
                          replace j105 : v105 = (.pointer (some ⟨g9, 1, none⟩)) := j105
                          subst j105
                          replace hst : Below _ _ wq := hst
                          clear hD hj haft hun
                          have e105 := eval_of h105
                          refine step_now (v := .pointer (some ⟨g9, 1, none⟩)) (w' := wq) (wanted_free rfl) ?_ (hK _ _ (Below.refl _ _) rfl)
                          clear hK
                          first | (go_simp; done) | (go_simp; rfl) | (go_simp; (try simp only [IntKind.wrap_u32]); omega)
                        · intro listed vals a wq K hD hst hj haft hun hK
                          obtain ⟨v106, h106, j106⟩ := hD.dep hj haft 3 106 rfl rfl
                          replace j106 : v106 = (.pointer (some ⟨g9, 1, none⟩)) := j106
                          subst j106
                          replace hst : Below _ _ wq := hst
                          clear hD hj haft hun
                          have e106 := eval_of h106
                          refine step_now (v := .pointer (some ⟨g9, 2, none⟩)) (w' := wq) (wanted_free rfl) ?_ (hK _ _ (Below.refl _ _) rfl)
                          clear hK
                          first | (go_simp; done) | (go_simp; rfl) | (go_simp; (try simp only [IntKind.wrap_u32]); omega)
                        · intro listed vals a wq K hD hst hj haft hun hK
                          obtain ⟨v107, h107, j107⟩ := hD.dep hj haft 4 107 rfl rfl
                          replace j107 : v107 = (.pointer (some ⟨g9, 2, none⟩)) := j107
                          subst j107
                          replace hst : Below _ _ wq := hst
                          clear hD hj haft hun
                          have e107 := eval_of h107
                          exact step_now (v := .int .u32 e1) (w' := wq) (wanted_free rfl) (rg_load rfl e107 (blk_below Bg9_13.out hst) rfl Try.underlying33 rfl) (hK _ _ (Below.refl _ _) rfl)
                        · intro listed vals a wq K hD hst hj haft hun hK
                          obtain ⟨v108, h108, j108⟩ := hD.dep hj haft 5 108 rfl rfl
                          replace j108 : v108 = (.int .u32 e1) := j108
                          subst j108
                          replace hst : Below _ _ wq := hst
                          clear hD hj haft hun
                          have e108 := eval_of h108
                          refine step_now (v := .int .u32 ((e1 - 65536) % 4294967296)) (w' := wq) (wanted_free rfl) ?_ (hK _ _ (Below.refl _ _) rfl)
                          clear hK
                          first | (go_simp; done) | (go_simp; rfl) | (go_simp; (try simp only [IntKind.wrap_u32]); omega)
                        · intro listed vals a wq K hD hst hj haft hun hK
                          obtain ⟨v104, h104, j104⟩ := hD.dep hj haft 1 104 rfl rfl
                          replace j104 : v104 = (.int .u32 sq) := j104
                          subst j104
                          obtain ⟨v109, h109, j109⟩ := hD.dep hj haft 6 109 rfl rfl
                          replace j109 : v109 = (.int .u32 ((e1 - 65536) % 4294967296)) := j109
                          subst j109
                          replace hst : Below _ _ wq := hst
                          clear hD hj haft hun
                          have e104 := eval_of h104
                          have e109 := eval_of h109
                          refine step_call (f := 41) (args := #[.int .u32 sq, .int .u32 ((e1 - 65536) % 4294967296)]) (wanted_free rfl) ?_ (less_any sq ((e1 - 65536) % 4294967296) wq) ?_
                          · clear hK; first | (go_simp; done) | (go_simp; rfl)
                          · rintro e w' ⟨rfl, rfl⟩; exact ⟨_, rfl, hK _ _ (Below.refl _ _) rfl⟩
                        · intro listed vals a wq K hD hst hj haft hun hK
                          obtain ⟨v110, h110, j110⟩ := hD.dep hj haft 7 110 rfl rfl
                          replace j110 : v110 = (.bool (less sq ((e1 - 65536) % 4294967296))) := j110
                          subst j110
                          replace hst : Below _ _ wq := hst
                          clear hD hj haft hun
                          have e110 := eval_of h110
                          refine step_now (v := .bool (less sq ((e1 - 65536) % 4294967296))) (w' := wq) (wanted_free rfl) ?_ (hK _ _ (Below.refl _ _) rfl)
                          clear hK
                          first | (go_simp; done) | (go_simp; rfl) | (go_simp; (try simp only [IntKind.wrap_u32]); omega)
                      case hEnd =>
                        intro vals wend hst hj
                        have j0 : vals 0 = (.pointer (some ⟨g5, 2, none⟩)) := hj 0 (by decide)
                        have j1 : vals 1 = (.int .u32 sq) := hj 1 (by decide)
                        have j2 : vals 2 = (.pointer (some ⟨g9, 1, none⟩)) := hj 2 (by decide)
                        have j3 : vals 3 = (.pointer (some ⟨g9, 1, none⟩)) := hj 3 (by decide)
                        have j4 : vals 4 = (.pointer (some ⟨g9, 2, none⟩)) := hj 4 (by decide)
                        have j5 : vals 5 = (.int .u32 e1) := hj 5 (by decide)
                        have j6 : vals 6 = (.int .u32 ((e1 - 65536) % 4294967296)) := hj 6 (by decide)
                        have j7 : vals 7 = (.bool (less sq ((e1 - 65536) % 4294967296))) := hj 7 (by decide)
                        have j8 : vals 8 = (.bool (less sq ((e1 - 65536) % 4294967296))) := hj 8 (by decide)
                        replace hst : Below _ _ wend := hst
                        clear hj
                        rw [putAll_list]
                        simp only [putL, Act.put, List.setIfInBounds_toArray, List.set_cons_zero, List.set_cons_succ, j0, j1, j2, j3, j4, j5, j6, j7, j8]
                        clear j0 j1 j2 j3 j4 j5 j6 j7 j8
                        have HB_14 := Aside0.mk (below_step HB_13.out hst)
                        clear HB_13
                        have Bg3_14 := Aside0.mk (blk_below Bg3_13.out hst)
                        clear Bg3_13
                        have Bg5_14 := Aside0.mk (blk_below Bg5_13.out hst)
                        clear Bg5_13
                        have Bg6_14 := Aside0.mk (blk_below Bg6_13.out hst)
                        clear Bg6_13
                        have Bg8_14 := Aside0.mk (blk_below Bg8_13.out hst)
                        clear Bg8_13
                        have Bg9_14 := Aside0.mk (blk_below Bg9_13.out hst)
                        clear Bg9_13
                        clear hst
                        rcases hc4 : (less sq ((e1 - 65536) % 4294967296)) with _ | _
                        · go_upto_region 19 with (fail)
                          refine wp_region_rgv 20 (by kernel_rfl) (fun x y => Upd (One g9) x y) (PutV 19 g9 #[.int .i64 st, .bool s1, .int .u32 e1, .int .u32 m1, .bool f1, .bool s2, .int .u32 e2, .int .u32 m2, .bool f2] #[.int .i64 st, .bool s1, .int .u32 (later e1 en), .int .u32 m1, .bool f1, .bool s2, .int .u32 e2, .int .u32 m2, .bool f2] 41) (fun (i : Nat) (v : Value) (w1 : World) => match i with | 0 => v = (.pointer (some ⟨g9, 1, none⟩)) | 1 => v = (.pointer (some ⟨g9, 1, none⟩)) | 2 => v = (.pointer (some ⟨g9, 1, none⟩)) | 3 => v = (.pointer (some ⟨g9, 1, none⟩)) | 4 => v = (.pointer (some ⟨g9, 2, none⟩)) | 5 => v = (.int .u32 e1) | 6 => v = (.pointer (some ⟨g8, 14, none⟩)) | 7 => v = (.int .u32 en) | 8 => v = (.int .u32 (later e1 en)) | 9 => v = (.pointer (some ⟨g9, 1, none⟩)) | 10 => v = (.pointer (some ⟨g9, 1, none⟩)) | 11 => v = (.pointer (some ⟨g9, 4, none⟩)) | 12 => v = (.bool f1) | 13 => v = (.bool f1) | 14 => (f1) = false → v = (.pointer (some ⟨g8, 11, none⟩)) | 15 => (f1) = false → v = (.bool fi) | 16 => v = (.bool ((f1 || fi))) | 17 => v = (.pointer (some ⟨g9, 1, none⟩)) | 18 => v = (.pointer (some ⟨g9, 2, none⟩)) | 19 => True | _ => True) (by kernel_rfl) (by kernel_rfl) (by kernel_rfl) (by kernel_rfl) (fun _ _ _ h k => Upd.trans h k) (Upd.refl _ _).drew (putv_start (blk_drew Bg9_14.out)) ?hJst ?hObl ?hEnd
                          case hJst =>
                            intro i v wx wy hi hs0 hs1 hJi
                            match i, hi with
                            | 0, _ => exact hJi
                            | 1, _ => exact hJi
                            | 2, _ => exact hJi
                            | 3, _ => exact hJi
                            | 4, _ => exact hJi
                            | 5, _ => exact hJi
                            | 6, _ => exact hJi
                            | 7, _ => exact hJi
                            | 8, _ => exact hJi
                            | 9, _ => exact hJi
                            | 10, _ => exact hJi
                            | 11, _ => exact hJi
                            | 12, _ => exact hJi
                            | 13, _ => exact hJi
                            | 14, _ => exact hJi
                            | 15, _ => exact hJi
                            | 16, _ => exact hJi
                            | 17, _ => exact hJi
                            | 18, _ => exact hJi
                            | 19, _ => replace hJi : (fun (v : Value) (w1 : World) => True) v wx := hJi; exact trivial
                            | _ + 20, hi => exact absurd hi (by simp)
                          case hObl =>
                            refine ⟨?_, ?_, ?_, ?_, ?_, ?_, ?_, ?_, ?_, ?_, ?_, ?_, ?_, ?_, ?_, ?_, ?_, ?_, ?_, ?_,  trivial⟩
                            · intro listed vals a wq K hD hst hv hcl hj haft hun hK
                              have hKv := fun v h => hK v wq (Upd.refl _ _) (putv_other (by decide) hv) h
                              have h10 := hD.out 10 rfl rfl
                              replace hst : Upd (One g9) _ wq := hst
                              clear hD hj haft
                              have e10 := eval_of h10
                              refine step_now (v := .pointer (some ⟨g9, 1, none⟩)) (w' := wq) (wanted_free rfl) ?_ (hKv _ rfl)
                              clear hK hKv hv hcl hun
                              first | (go_simp; done) | (go_simp; rfl) | (go_simp; (try simp only [IntKind.wrap_u32]); omega)
                            · intro listed vals a wq K hD hst hv hcl hj haft hun hK
                              have hKv := fun v h => hK v wq (Upd.refl _ _) (putv_other (by decide) hv) h
                              have h10 := hD.out 10 rfl rfl
                              replace hst : Upd (One g9) _ wq := hst
                              clear hD hj haft
                              have e10 := eval_of h10
                              refine step_now (v := .pointer (some ⟨g9, 1, none⟩)) (w' := wq) (wanted_free rfl) ?_ (hKv _ rfl)
                              clear hK hKv hv hcl hun
                              first | (go_simp; done) | (go_simp; rfl) | (go_simp; (try simp only [IntKind.wrap_u32]); omega)
                            · intro listed vals a wq K hD hst hv hcl hj haft hun hK
                              have hKv := fun v h => hK v wq (Upd.refl _ _) (putv_other (by decide) hv) h
                              have h10 := hD.out 10 rfl rfl
                              replace hst : Upd (One g9) _ wq := hst
                              clear hD hj haft
                              have e10 := eval_of h10
                              refine step_now (v := .pointer (some ⟨g9, 1, none⟩)) (w' := wq) (wanted_free rfl) ?_ (hKv _ rfl)
                              clear hK hKv hv hcl hun
                              first | (go_simp; done) | (go_simp; rfl) | (go_simp; (try simp only [IntKind.wrap_u32]); omega)
                            · intro listed vals a wq K hD hst hv hcl hj haft hun hK
                              have hKv := fun v h => hK v wq (Upd.refl _ _) (putv_other (by decide) hv) h
                              obtain ⟨v114, h114, j114⟩ := hD.dep hj haft 2 114 rfl rfl
                              replace j114 : v114 = (.pointer (some ⟨g9, 1, none⟩)) := j114
                              subst j114
                              replace hst : Upd (One g9) _ wq := hst
                              clear hD hj haft
                              have e114 := eval_of h114
                              refine step_now (v := .pointer (some ⟨g9, 1, none⟩)) (w' := wq) (wanted_free rfl) ?_ (hKv _ rfl)
                              clear hK hKv hv hcl hun
                              first | (go_simp; done) | (go_simp; rfl) | (go_simp; (try simp only [IntKind.wrap_u32]); omega)
                            · intro listed vals a wq K hD hst hv hcl hj haft hun hK
                              have hKv := fun v h => hK v wq (Upd.refl _ _) (putv_other (by decide) hv) h
                              obtain ⟨v115, h115, j115⟩ := hD.dep hj haft 3 115 rfl rfl
                              replace j115 : v115 = (.pointer (some ⟨g9, 1, none⟩)) := j115
                              subst j115
                              replace hst : Upd (One g9) _ wq := hst
                              clear hD hj haft
                              have e115 := eval_of h115
                              refine step_now (v := .pointer (some ⟨g9, 2, none⟩)) (w' := wq) (wanted_free rfl) ?_ (hKv _ rfl)
                              clear hK hKv hv hcl hun
                              first | (go_simp; done) | (go_simp; rfl) | (go_simp; (try simp only [IntKind.wrap_u32]); omega)
                            · intro listed vals a wq K hD hst hv hcl hj haft hun hK
                              have hKv := fun v h => hK v wq (Upd.refl _ _) (putv_other (by decide) hv) h
                              obtain ⟨v116, h116, j116⟩ := hD.dep hj haft 4 116 rfl rfl
                              replace j116 : v116 = (.pointer (some ⟨g9, 2, none⟩)) := j116
                              subst j116
                              replace hst : Upd (One g9) _ wq := hst
                              clear hD hj haft
                              have e116 := eval_of h116
                              exact step_now (v := .int .u32 e1) (w' := wq) (wanted_free rfl) (rg_load rfl e116 (putv_not hv (not_yet (i := 5) (j := 19) hcl (by kernel_rfl) (by kernel_rfl) hun)) rfl Try.underlying33 rfl) (hKv _ rfl)
                            · intro listed vals a wq K hD hst hv hcl hj haft hun hK
                              have hKv := fun v h => hK v wq (Upd.refl _ _) (putv_other (by decide) hv) h
                              have h8 := hD.out 8 rfl rfl
                              replace hst : Upd (One g9) _ wq := hst
                              clear hD hj haft
                              have e8 := eval_of h8
                              refine step_now (v := .pointer (some ⟨g8, 14, none⟩)) (w' := wq) (wanted_free rfl) ?_ (hKv _ rfl)
                              clear hK hKv hv hcl hun
                              first | (go_simp; done) | (go_simp; rfl) | (go_simp; (try simp only [IntKind.wrap_u32]); omega)
                            · intro listed vals a wq K hD hst hv hcl hj haft hun hK
                              have hKv := fun v h => hK v wq (Upd.refl _ _) (putv_other (by decide) hv) h
                              obtain ⟨v118, h118, j118⟩ := hD.dep hj haft 6 118 rfl rfl
                              replace j118 : v118 = (.pointer (some ⟨g8, 14, none⟩)) := j118
                              subst j118
                              replace hst : Upd (One g9) _ wq := hst
                              clear hD hj haft
                              have e118 := eval_of h118
                              exact step_now (v := .int .u32 en) (w' := wq) (wanted_free rfl) (rg_load rfl e118 (Upd.blk hst Bg8_14.out (One.not Ng8g9.out)) rfl Try.underlying33 rfl) (hKv _ rfl)
                            · intro listed vals a wq K hD hst hv hcl hj haft hun hK
                              have hKv := fun v h => hK v wq (Upd.refl _ _) (putv_other (by decide) hv) h
                              obtain ⟨v117, h117, j117⟩ := hD.dep hj haft 5 117 rfl rfl
                              replace j117 : v117 = (.int .u32 e1) := j117
                              subst j117
                              obtain ⟨v119, h119, j119⟩ := hD.dep hj haft 7 119 rfl rfl
                              replace j119 : v119 = (.int .u32 en) := j119
                              subst j119
                              replace hst : Upd (One g9) _ wq := hst
                              clear hD hj haft
                              have e117 := eval_of h117
                              have e119 := eval_of h119
                              refine step_call (f := 43) (args := #[.int .u32 e1, .int .u32 en]) (wanted_free rfl) ?_ (later_any e1 en wq) ?_
                              · clear hK hKv hv hcl hun; first | (go_simp; done) | (go_simp; rfl)
                              · rintro e w' ⟨rfl, rfl⟩; exact ⟨_, rfl, hKv _ rfl⟩
                            · intro listed vals a wq K hD hst hv hcl hj haft hun hK
                              have hKv := fun v h => hK v wq (Upd.refl _ _) (putv_other (by decide) hv) h
                              have h10 := hD.out 10 rfl rfl
                              replace hst : Upd (One g9) _ wq := hst
                              clear hD hj haft
                              have e10 := eval_of h10
                              refine step_now (v := .pointer (some ⟨g9, 1, none⟩)) (w' := wq) (wanted_free rfl) ?_ (hKv _ rfl)
                              clear hK hKv hv hcl hun
                              first | (go_simp; done) | (go_simp; rfl) | (go_simp; (try simp only [IntKind.wrap_u32]); omega)
                            · intro listed vals a wq K hD hst hv hcl hj haft hun hK
                              have hKv := fun v h => hK v wq (Upd.refl _ _) (putv_other (by decide) hv) h
                              obtain ⟨v121, h121, j121⟩ := hD.dep hj haft 9 121 rfl rfl
                              replace j121 : v121 = (.pointer (some ⟨g9, 1, none⟩)) := j121
                              subst j121
                              replace hst : Upd (One g9) _ wq := hst
                              clear hD hj haft
                              have e121 := eval_of h121
                              refine step_now (v := .pointer (some ⟨g9, 1, none⟩)) (w' := wq) (wanted_free rfl) ?_ (hKv _ rfl)
                              clear hK hKv hv hcl hun
                              first | (go_simp; done) | (go_simp; rfl) | (go_simp; (try simp only [IntKind.wrap_u32]); omega)
                            · intro listed vals a wq K hD hst hv hcl hj haft hun hK
                              have hKv := fun v h => hK v wq (Upd.refl _ _) (putv_other (by decide) hv) h
                              obtain ⟨v122, h122, j122⟩ := hD.dep hj haft 10 122 rfl rfl
                              replace j122 : v122 = (.pointer (some ⟨g9, 1, none⟩)) := j122
                              subst j122
                              replace hst : Upd (One g9) _ wq := hst
                              clear hD hj haft
                              have e122 := eval_of h122
                              refine step_now (v := .pointer (some ⟨g9, 4, none⟩)) (w' := wq) (wanted_free rfl) ?_ (hKv _ rfl)
                              clear hK hKv hv hcl hun
                              first | (go_simp; done) | (go_simp; rfl) | (go_simp; (try simp only [IntKind.wrap_u32]); omega)
                            · intro listed vals a wq K hD hst hv hcl hj haft hun hK
                              have hKv := fun v h => hK v wq (Upd.refl _ _) (putv_other (by decide) hv) h
                              obtain ⟨v123, h123, j123⟩ := hD.dep hj haft 11 123 rfl rfl
                              replace j123 : v123 = (.pointer (some ⟨g9, 4, none⟩)) := j123
                              subst j123
                              replace hst : Upd (One g9) _ wq := hst
                              clear hD hj haft
                              have e123 := eval_of h123
                              exact step_now (v := .bool f1) (w' := wq) (wanted_free rfl) (rg_load rfl e123 (putv_not hv (not_yet (i := 12) (j := 19) hcl (by kernel_rfl) (by kernel_rfl) hun)) rfl Try.underlying4 rfl) (hKv _ rfl)
                            · intro listed vals a wq K hD hst hv hcl hj haft hun hK
                              have hKv := fun v h => hK v wq (Upd.refl _ _) (putv_other (by decide) hv) h
                              obtain ⟨v124, h124, j124⟩ := hD.dep hj haft 12 124 rfl rfl
                              replace j124 : v124 = (.bool f1) := j124
                              subst j124
                              replace hst : Upd (One g9) _ wq := hst
                              clear hD hj haft
                              have e124 := eval_of h124
                              refine step_now (v := .bool f1) (w' := wq) (wanted_free rfl) ?_ (hKv _ rfl)
                              clear hK hKv hv hcl hun
                              first | (go_simp; done) | (go_simp; rfl) | (go_simp; (try simp only [IntKind.wrap_u32]); omega)
                            · intro listed vals a wq K hD hst hv hcl hj haft hun hK
                              have hKv := fun v h => hK v wq (Upd.refl _ _) (putv_other (by decide) hv) h
                              obtain ⟨v125, h125, j125⟩ := hD.dep hj haft 13 125 rfl rfl
                              replace j125 : v125 = (.bool f1) := j125
                              subst j125
                              have h8 := hD.out 8 rfl rfl
                              replace hst : Upd (One g9) _ wq := hst
                              clear hD hj haft
                              rcases hE : (f1) with _ | _
                              · rw [hE] at h125
                                have e8 := eval_of h8
                                refine step_now (v := .pointer (some ⟨g8, 11, none⟩)) (w' := wq) (wanted_on (t := 125) (u := false) rfl rfl rfl h125) ?_ (hKv _ (fun _ => rfl))
                                clear hK hKv hv hcl hun
                                first | (go_simp; done) | (go_simp; rfl) | (go_simp; (try simp only [IntKind.wrap_u32]); omega)
                              · rw [hE] at h125
                                exact step_off (wanted_off (t := 125) (u := false) rfl rfl rfl h125) (hKv _ (fun h => by rw [hE] at h; cases h))
                            · intro listed vals a wq K hD hst hv hcl hj haft hun hK
                              have hKv := fun v h => hK v wq (Upd.refl _ _) (putv_other (by decide) hv) h
                              obtain ⟨v126, h126, j126⟩ := hD.dep hj haft 14 126 rfl rfl
                              replace j126 : (f1) = false → v126 = (.pointer (some ⟨g8, 11, none⟩)) := j126
                              obtain ⟨v125, h125, j125⟩ := hD.dep hj haft 13 125 rfl rfl
                              replace j125 : v125 = (.bool f1) := j125
                              subst j125
                              replace hst : Upd (One g9) _ wq := hst
                              clear hD hj haft
                              rcases hE : (f1) with _ | _
                              · rw [hE] at h125
                                obtain rfl := j126 hE
                                have e126 := eval_of h126
                                exact step_now (v := .bool fi) (w' := wq) (wanted_on (t := 125) (u := false) rfl rfl rfl h125) (rg_load rfl e126 (Upd.blk hst Bg8_14.out (One.not Ng8g9.out)) rfl Try.underlying4 rfl) (hKv _ (fun _ => rfl))
                              · rw [hE] at h125
                                exact step_off (wanted_off (t := 125) (u := false) rfl rfl rfl h125) (hKv _ (fun h => by rw [hE] at h; cases h))
                            · intro listed vals a wq K hD hst hv hcl hj haft hun hK
                              have hKv := fun v h => hK v wq (Upd.refl _ _) (putv_other (by decide) hv) h
                              obtain ⟨v125, h125, j125⟩ := hD.dep hj haft 13 125 rfl rfl
                              replace j125 : v125 = (.bool f1) := j125
                              subst j125
                              obtain ⟨v127, h127, j127⟩ := hD.dep hj haft 15 127 rfl rfl
                              replace j127 : (f1) = false → v127 = (.bool fi) := j127
                              replace hst : Upd (One g9) _ wq := hst
                              clear hD hj haft
                              rcases hE : (f1) with _ | _
                              · rw [hE] at h125
                                obtain rfl := j127 hE
                                have e125 := eval_of h125
                                have e127 := eval_of h127
                                refine step_now (v := .bool ((f1 || fi))) (w' := wq) (wanted_free rfl) ?_ (hKv _ rfl)
                                rw [hE]
                                clear hK hKv hv hcl hun
                                first | (go_simp; done) | (go_simp; rfl) | (go_simp; (try simp only [IntKind.wrap_u32]); omega)
                              · rw [hE] at h125
                                have e125 := eval_of h125
                                have e127 := eval_of h127
                                refine step_now (v := .bool ((f1 || fi))) (w' := wq) (wanted_free rfl) ?_ (hKv _ rfl)
                                rw [hE]
                                clear hK hKv hv hcl hun
                                first | (go_simp; done) | (go_simp; rfl) | (go_simp; (try simp only [IntKind.wrap_u32]); omega)
                            · intro listed vals a wq K hD hst hv hcl hj haft hun hK
                              have hKv := fun v h => hK v wq (Upd.refl _ _) (putv_other (by decide) hv) h
                              obtain ⟨v112, h112, j112⟩ := hD.dep hj haft 0 112 rfl rfl
                              replace j112 : v112 = (.pointer (some ⟨g9, 1, none⟩)) := j112
                              subst j112
                              replace hst : Upd (One g9) _ wq := hst
                              clear hD hj haft
                              have e112 := eval_of h112
                              refine step_now (v := .pointer (some ⟨g9, 1, none⟩)) (w' := wq) (wanted_free rfl) ?_ (hKv _ rfl)
                              clear hK hKv hv hcl hun
                              first | (go_simp; done) | (go_simp; rfl) | (go_simp; (try simp only [IntKind.wrap_u32]); omega)
                            · intro listed vals a wq K hD hst hv hcl hj haft hun hK
                              have hKv := fun v h => hK v wq (Upd.refl _ _) (putv_other (by decide) hv) h
                              obtain ⟨v129, h129, j129⟩ := hD.dep hj haft 17 129 rfl rfl
                              replace j129 : v129 = (.pointer (some ⟨g9, 1, none⟩)) := j129
                              subst j129
                              replace hst : Upd (One g9) _ wq := hst
                              clear hD hj haft
                              have e129 := eval_of h129
                              refine step_now (v := .pointer (some ⟨g9, 2, none⟩)) (w' := wq) (wanted_free rfl) ?_ (hKv _ rfl)
                              clear hK hKv hv hcl hun
                              first | (go_simp; done) | (go_simp; rfl) | (go_simp; (try simp only [IntKind.wrap_u32]); omega)
                            · intro listed vals a wq K hD hst hv hcl hj haft hun hK
                              obtain ⟨v130, h130, j130⟩ := hD.dep hj haft 18 130 rfl rfl
                              replace j130 : v130 = (.pointer (some ⟨g9, 2, none⟩)) := j130
                              subst j130
                              obtain ⟨v120, h120, j120⟩ := hD.dep hj haft 8 120 rfl rfl
                              replace j120 : v120 = (.int .u32 (later e1 en)) := j120
                              subst j120
                              replace hst : Upd (One g9) _ wq := hst
                              clear hD hj haft
                              have e130 := eval_of h130
                              have e120 := eval_of h120
                              refine rg_step_store1 (v := .int .u32 (later e1 en)) (c0 := #[.int .i64 st, .bool s1, .int .u32 e1, .int .u32 m1, .bool f1, .bool s2, .int .u32 e2, .int .u32 m2, .bool f2]) (c1 := #[.int .i64 st, .bool s1, .int .u32 (later e1 en), .int .u32 m1, .bool f1, .bool s2, .int .u32 e2, .int .u32 m2, .bool f2]) (wanted_free rfl) rfl e130 e120 (putv_not hv (un_of hun)) rfl (by kernel_rfl) rfl rfl rfl (fun w2 hs2 hg2 => hK _ w2 hs2 (putv_self hg2) trivial)
                          case hEnd =>
                            intro vals wend dn hst hdn hv hj
                            have j0 : vals 0 = (.pointer (some ⟨g9, 1, none⟩)) := hj 0 (by decide)
                            have j1 : vals 1 = (.pointer (some ⟨g9, 1, none⟩)) := hj 1 (by decide)
                            have j2 : vals 2 = (.pointer (some ⟨g9, 1, none⟩)) := hj 2 (by decide)
                            have j3 : vals 3 = (.pointer (some ⟨g9, 1, none⟩)) := hj 3 (by decide)
                            have j4 : vals 4 = (.pointer (some ⟨g9, 2, none⟩)) := hj 4 (by decide)
                            have j5 : vals 5 = (.int .u32 e1) := hj 5 (by decide)
                            have j6 : vals 6 = (.pointer (some ⟨g8, 14, none⟩)) := hj 6 (by decide)
                            have j7 : vals 7 = (.int .u32 en) := hj 7 (by decide)
                            have j8 : vals 8 = (.int .u32 (later e1 en)) := hj 8 (by decide)
                            have j9 : vals 9 = (.pointer (some ⟨g9, 1, none⟩)) := hj 9 (by decide)
                            have j10 : vals 10 = (.pointer (some ⟨g9, 1, none⟩)) := hj 10 (by decide)
                            have j11 : vals 11 = (.pointer (some ⟨g9, 4, none⟩)) := hj 11 (by decide)
                            have j12 : vals 12 = (.bool f1) := hj 12 (by decide)
                            have j13 : vals 13 = (.bool f1) := hj 13 (by decide)
                            have j16 : vals 16 = (.bool ((f1 || fi))) := hj 16 (by decide)
                            have j17 : vals 17 = (.pointer (some ⟨g9, 1, none⟩)) := hj 17 (by decide)
                            have j18 : vals 18 = (.pointer (some ⟨g9, 2, none⟩)) := hj 18 (by decide)
                            have j19 : (fun (v : Value) (w1 : World) => True) (vals 19) wend := hj 19 (by decide)
                            replace hst : Upd (One g9) _ wend := hst
                            have hvE := putv_end hv (hdn 19 (by decide))
                            clear hj hv hdn
                            simp only [List.take_succ_cons, List.take_zero, List.drop_succ_cons, List.drop_zero, putL, Act.put, List.setIfInBounds_toArray, List.set_cons_zero, List.set_cons_succ, j0, j1, j2, j3, j4, j5, j6, j7, j8, j9, j10, j11, j12, j13, j16, j17, j18]
                            clear j0 j1 j2 j3 j4 j5 j6 j7 j8 j9 j10 j11 j12 j13 j16 j17 j18
                            generalize vals 14 = u126_
                            generalize vals 15 = u127_
                            have HB_15 := Aside0.mk (below_upd HB_14.out hst (below_size HB_14.out) (fun k hk => by cases hk; exact Lg9.out))
                            clear HB_14
                            have Bg3_15 := Aside0.mk (Upd.blk hst Bg3_14.out (One.not Ng3g9.out))
                            clear Bg3_14
                            have Bg5_15 := Aside0.mk (Upd.blk hst Bg5_14.out (One.not Ng5g9.out))
                            clear Bg5_14
                            have Bg6_15 := Aside0.mk (Upd.blk hst Bg6_14.out (One.not Ng6g9.out))
                            clear Bg6_14
                            have Bg8_15 := Aside0.mk (Upd.blk hst Bg8_14.out (One.not Ng8g9.out))
                            clear Bg8_14
                            have Bg9_15 := Aside0.mk hvE
                            clear hst hvE Bg9_14
                            go_upto_region 21 with (first | ((with_reducible refine gate_store (t := 4) (p := 132) rfl ?_); refine store1_event rfl _ _ _ rfl g9 4 rfl (.bool ((f1 || fi))) _ ?hy _ _ #[.int .i64 st, .bool s1, .int .u32 (later e1 en), .int .u32 m1, .bool ((f1 || fi)), .bool s2, .int .u32 e2, .int .u32 m2, .bool f2] Bg9_15.out rfl (by kernel_rfl) rfl rfl rfl ?_; (case hy => first | (with_reducible rfl) | rfl | (refine congrArg (Value.int _) ?_; omega)); intro wx16 hst hu; have HB_16 := Aside0.mk (below_upd HB_15.out hu (below_size HB_15.out) (fun k hk => by cases hk; exact Lg9.out)); clear HB_15; have Bg3_16 := Aside0.mk (Upd.blk hu Bg3_15.out (One.not Ng3g9.out)); clear Bg3_15; have Bg5_16 := Aside0.mk (Upd.blk hu Bg5_15.out (One.not Ng5g9.out)); clear Bg5_15; have Bg6_16 := Aside0.mk (Upd.blk hu Bg6_15.out (One.not Ng6g9.out)); clear Bg6_15; have Bg8_16 := Aside0.mk (Upd.blk hu Bg8_15.out (One.not Ng8g9.out)); clear Bg8_15; have Bg9_16 := Aside0.mk hst; clear hst hu Bg9_15) | ((with_reducible refine gate_dst (N := 134) rfl ?_); refine load_event rfl 95 _ rfl g8 rfl _ _ _ Bg8_16.out Try.underlying95 rfl (by kernel_rfl) ?_) | (go_at_call 44; refine (grants_any g9 5 #[.int .i64 st, .bool s1, .int .u32 (later e1 en), .int .u32 m1, .bool ((f1 || fi)), .bool s2, .int .u32 e2, .int .u32 m2, .bool f2] m2 sp dp sq ak fl wi ty co he da s2 false fi rs ac en _ Bg9_16.out rfl rfl).mono ?_; rintro e wx17 ⟨rfl, hst, hu⟩; have HB_17 := Aside0.mk (below_upd HB_16.out hu (below_size HB_16.out) (fun k hk => by cases hk; exact Lg9.out)); clear HB_16; have Bg3_17 := Aside0.mk (Upd.blk hu Bg3_16.out (One.not Ng3g9.out)); clear Bg3_16; have Bg5_17 := Aside0.mk (Upd.blk hu Bg5_16.out (One.not Ng5g9.out)); clear Bg5_16; have Bg6_17 := Aside0.mk (Upd.blk hu Bg6_16.out (One.not Ng6g9.out)); clear Bg6_16; have Bg8_17 := Aside0.mk (Upd.blk hu Bg8_16.out (One.not Ng8g9.out)); clear Bg8_16; have Bg9_17 := Aside0.mk (show wx17.heap[g9]? = some (.cells #[.int .i64 st, .bool s1, .int .u32 (later e1 en), .int .u32 m1, .bool ((f1 || fi)), .bool s2, .int .u32 e2, .int .u32 (grant s2 ac m2 ak wi), .bool f2] 41 (0, 0)) from hst); clear hst hu Bg9_16))
                            refine wp_region_rg_seq (fun x y => Below x.heap.size x y) (fun (i : Nat) (v : Value) (w1 : World) => match i with | 0 => v = (.pointer (some ⟨g3, 0, none⟩)) | 1 => v = (.int .i64 st) | 2 => v = (.bool ((st == 2))) | 3 => v = (.bool ((st == 2))) | 4 => ((st == 2)) = true → v = (.pointer (some ⟨g8, 13, none⟩)) | 5 => ((st == 2)) = true → v = (.bool ac) | 6 => v = (.bool (((st == 2) && ac))) | 7 => v = (.bool (((st == 2) && ac))) | 8 => (((st == 2) && ac)) = true → v = (.bool false) | 9 => (((st == 2) && ac)) = true → v = (.bool true) | 10 => v = (.bool ((((st == 2) && ac) && true))) | _ => True) (by kernel_rfl) (by kernel_rfl) below_tr (Below.refl _ _) ?hJst ?hObl ?hEnd
                            case hJst =>
                              intro i v wx wy hi hs0 hs1 hJi
                              match i, hi with
                              | 0, _ => exact hJi
                              | 1, _ => exact hJi
                              | 2, _ => exact hJi
                              | 3, _ => exact hJi
                              | 4, _ => exact hJi
                              | 5, _ => exact hJi
                              | 6, _ => exact hJi
                              | 7, _ => exact hJi
                              | 8, _ => exact hJi
                              | 9, _ => exact hJi
                              | 10, _ => exact hJi
                              | _ + 11, hi => exact absurd hi (by simp)
                            case hObl =>
                              refine ⟨?_, ?_, ?_, ?_, ?_, ?_, ?_, ?_, ?_, ?_, ?_,  trivial⟩
                              · intro listed vals a wq K hD hst hj haft hun hK
                                have h3 := hD.out 3 rfl rfl
                                replace hst : Below _ _ wq := hst
                                clear hD hj haft hun
                                have e3 := eval_of h3
                                refine step_now (v := .pointer (some ⟨g3, 0, none⟩)) (w' := wq) (wanted_free rfl) ?_ (hK _ _ (Below.refl _ _) rfl)
                                clear hK
                                first | (go_simp; done) | (go_simp; rfl) | (go_simp; (try simp only [IntKind.wrap_u32]); omega)
                              · intro listed vals a wq K hD hst hj haft hun hK
                                obtain ⟨v136, h136, j136⟩ := hD.dep hj haft 0 136 rfl rfl
                                replace j136 : v136 = (.pointer (some ⟨g3, 0, none⟩)) := j136
                                subst j136
                                replace hst : Below _ _ wq := hst
                                clear hD hj haft hun
                                have e136 := eval_of h136
                                exact step_now (v := .int .i64 st) (w' := wq) (wanted_free rfl) (rg_load rfl e136 (blk_below Bg3_17.out hst) rfl Try.underlying3 rfl) (hK _ _ (Below.refl _ _) rfl)
                              · intro listed vals a wq K hD hst hj haft hun hK
                                obtain ⟨v137, h137, j137⟩ := hD.dep hj haft 1 137 rfl rfl
                                replace j137 : v137 = (.int .i64 st) := j137
                                subst j137
                                replace hst : Below _ _ wq := hst
                                clear hD hj haft hun
                                have e137 := eval_of h137
                                refine step_now (v := .bool ((st == 2))) (w' := wq) (wanted_free rfl) ?_ (hK _ _ (Below.refl _ _) rfl)
                                clear hK
                                first | (go_simp; done) | (go_simp; rfl) | (go_simp; (try simp only [IntKind.wrap_u32]); omega)
                              · intro listed vals a wq K hD hst hj haft hun hK
                                obtain ⟨v138, h138, j138⟩ := hD.dep hj haft 2 138 rfl rfl
                                replace j138 : v138 = (.bool ((st == 2))) := j138
                                subst j138
                                replace hst : Below _ _ wq := hst
                                clear hD hj haft hun
                                have e138 := eval_of h138
                                refine step_now (v := .bool ((st == 2))) (w' := wq) (wanted_free rfl) ?_ (hK _ _ (Below.refl _ _) rfl)
                                clear hK
                                first | (go_simp; done) | (go_simp; rfl) | (go_simp; (try simp only [IntKind.wrap_u32]); omega)
                              · intro listed vals a wq K hD hst hj haft hun hK
                                obtain ⟨v139, h139, j139⟩ := hD.dep hj haft 3 139 rfl rfl
                                replace j139 : v139 = (.bool ((st == 2))) := j139
                                subst j139
                                have h8 := hD.out 8 rfl rfl
                                replace hst : Below _ _ wq := hst
                                clear hD hj haft hun
                                rcases hE : ((st == 2)) with _ | _
                                · rw [hE] at h139
                                  exact step_off (wanted_off (t := 139) (u := true) rfl rfl rfl h139) (hK _ _ (Below.refl _ _) (fun h => by rw [hE] at h; cases h))
                                · rw [hE] at h139
                                  have e8 := eval_of h8
                                  refine step_now (v := .pointer (some ⟨g8, 13, none⟩)) (w' := wq) (wanted_on (t := 139) (u := true) rfl rfl rfl h139) ?_ (hK _ _ (Below.refl _ _) (fun _ => rfl))
                                  clear hK
                                  first | (go_simp; done) | (go_simp; rfl) | (go_simp; (try simp only [IntKind.wrap_u32]); omega)
                              · intro listed vals a wq K hD hst hj haft hun hK
                                obtain ⟨v140, h140, j140⟩ := hD.dep hj haft 4 140 rfl rfl
                                replace j140 : ((st == 2)) = true → v140 = (.pointer (some ⟨g8, 13, none⟩)) := j140
                                obtain ⟨v139, h139, j139⟩ := hD.dep hj haft 3 139 rfl rfl
                                replace j139 : v139 = (.bool ((st == 2))) := j139
                                subst j139
                                replace hst : Below _ _ wq := hst
                                clear hD hj haft hun
                                rcases hE : ((st == 2)) with _ | _
                                · rw [hE] at h139
                                  exact step_off (wanted_off (t := 139) (u := true) rfl rfl rfl h139) (hK _ _ (Below.refl _ _) (fun h => by rw [hE] at h; cases h))
                                · rw [hE] at h139
                                  obtain rfl := j140 hE
                                  have e140 := eval_of h140
                                  exact step_now (v := .bool ac) (w' := wq) (wanted_on (t := 139) (u := true) rfl rfl rfl h139) (rg_load rfl e140 (blk_below Bg8_17.out hst) rfl Try.underlying4 rfl) (hK _ _ (Below.refl _ _) (fun _ => rfl))
                              · intro listed vals a wq K hD hst hj haft hun hK
                                obtain ⟨v139, h139, j139⟩ := hD.dep hj haft 3 139 rfl rfl
                                replace j139 : v139 = (.bool ((st == 2))) := j139
                                subst j139
                                obtain ⟨v141, h141, j141⟩ := hD.dep hj haft 5 141 rfl rfl
                                replace j141 : ((st == 2)) = true → v141 = (.bool ac) := j141
                                replace hst : Below _ _ wq := hst
                                clear hD hj haft hun
                                rcases hE : ((st == 2)) with _ | _
                                · rw [hE] at h139
                                  have e139 := eval_of h139
                                  have e141 := eval_of h141
                                  refine step_now (v := .bool (((st == 2) && ac))) (w' := wq) (wanted_free rfl) ?_ (hK _ _ (Below.refl _ _) rfl)
                                  rw [hE]
                                  clear hK
                                  first | (go_simp; done) | (go_simp; rfl) | (go_simp; (try simp only [IntKind.wrap_u32]); omega)
                                · rw [hE] at h139
                                  obtain rfl := j141 hE
                                  have e139 := eval_of h139
                                  have e141 := eval_of h141
                                  refine step_now (v := .bool (((st == 2) && ac))) (w' := wq) (wanted_free rfl) ?_ (hK _ _ (Below.refl _ _) rfl)
                                  rw [hE]
                                  clear hK
                                  first | (go_simp; done) | (go_simp; rfl) | (go_simp; (try simp only [IntKind.wrap_u32]); omega)
                              · intro listed vals a wq K hD hst hj haft hun hK
                                obtain ⟨v142, h142, j142⟩ := hD.dep hj haft 6 142 rfl rfl
                                replace j142 : v142 = (.bool (((st == 2) && ac))) := j142
                                subst j142
                                replace hst : Below _ _ wq := hst
                                clear hD hj haft hun
                                have e142 := eval_of h142
                                refine step_now (v := .bool (((st == 2) && ac))) (w' := wq) (wanted_free rfl) ?_ (hK _ _ (Below.refl _ _) rfl)
                                clear hK
                                first | (go_simp; done) | (go_simp; rfl) | (go_simp; (try simp only [IntKind.wrap_u32]); omega)
                              · intro listed vals a wq K hD hst hj haft hun hK
                                obtain ⟨v143, h143, j143⟩ := hD.dep hj haft 7 143 rfl rfl
                                replace j143 : v143 = (.bool (((st == 2) && ac))) := j143
                                subst j143
                                have h1 := hD.out 1 rfl rfl
                                replace hst : Below _ _ wq := hst
                                clear hD hj haft hun
                                rcases hE : (((st == 2) && ac)) with _ | _
                                · rw [hE] at h143
                                  exact step_off (wanted_off (t := 143) (u := true) rfl rfl rfl h143) (hK _ _ (Below.refl _ _) (fun h => by rw [hE] at h; cases h))
                                · rw [hE] at h143
                                  have e1 := eval_of h1
                                  refine step_now (v := .bool false) (w' := wq) (wanted_on (t := 143) (u := true) rfl rfl rfl h143) ?_ (hK _ _ (Below.refl _ _) (fun _ => rfl))
                                  clear hK
                                  first | (go_simp; done) | (go_simp; rfl) | (go_simp; (try simp only [IntKind.wrap_u32]); omega)
                              · intro listed vals a wq K hD hst hj haft hun hK
                                obtain ⟨v144, h144, j144⟩ := hD.dep hj haft 8 144 rfl rfl
                                replace j144 : (((st == 2) && ac)) = true → v144 = (.bool false) := j144
                                obtain ⟨v143, h143, j143⟩ := hD.dep hj haft 7 143 rfl rfl
                                replace j143 : v143 = (.bool (((st == 2) && ac))) := j143
                                subst j143
                                replace hst : Below _ _ wq := hst
                                clear hD hj haft hun
                                rcases hE : (((st == 2) && ac)) with _ | _
                                · rw [hE] at h143
                                  exact step_off (wanted_off (t := 143) (u := true) rfl rfl rfl h143) (hK _ _ (Below.refl _ _) (fun h => by rw [hE] at h; cases h))
                                · rw [hE] at h143
                                  obtain rfl := j144 hE
                                  have e144 := eval_of h144
                                  refine step_now (v := .bool true) (w' := wq) (wanted_on (t := 143) (u := true) rfl rfl rfl h143) ?_ (hK _ _ (Below.refl _ _) (fun _ => rfl))
                                  clear hK
                                  first | (go_simp; done) | (go_simp; rfl) | (go_simp; (try simp only [IntKind.wrap_u32]); omega)
                              · intro listed vals a wq K hD hst hj haft hun hK
                                obtain ⟨v143, h143, j143⟩ := hD.dep hj haft 7 143 rfl rfl
                                replace j143 : v143 = (.bool (((st == 2) && ac))) := j143
                                subst j143
                                obtain ⟨v145, h145, j145⟩ := hD.dep hj haft 9 145 rfl rfl
                                replace j145 : (((st == 2) && ac)) = true → v145 = (.bool true) := j145
                                replace hst : Below _ _ wq := hst
                                clear hD hj haft hun
                                rcases hE : (((st == 2) && ac)) with _ | _
                                · rw [hE] at h143
                                  have e143 := eval_of h143
                                  have e145 := eval_of h145
                                  refine step_now (v := .bool ((((st == 2) && ac) && true))) (w' := wq) (wanted_free rfl) ?_ (hK _ _ (Below.refl _ _) rfl)
                                  rw [hE]
                                  clear hK
                                  first | (go_simp; done) | (go_simp; rfl) | (go_simp; (try simp only [IntKind.wrap_u32]); omega)
                                · rw [hE] at h143
                                  obtain rfl := j145 hE
                                  have e143 := eval_of h143
                                  have e145 := eval_of h145
                                  refine step_now (v := .bool ((((st == 2) && ac) && true))) (w' := wq) (wanted_free rfl) ?_ (hK _ _ (Below.refl _ _) rfl)
                                  rw [hE]
                                  clear hK
                                  first | (go_simp; done) | (go_simp; rfl) | (go_simp; (try simp only [IntKind.wrap_u32]); omega)
                            case hEnd =>
                              intro vals wend hst hj
                              have j0 : vals 0 = (.pointer (some ⟨g3, 0, none⟩)) := hj 0 (by decide)
                              have j1 : vals 1 = (.int .i64 st) := hj 1 (by decide)
                              have j2 : vals 2 = (.bool ((st == 2))) := hj 2 (by decide)
                              have j3 : vals 3 = (.bool ((st == 2))) := hj 3 (by decide)
                              have j6 : vals 6 = (.bool (((st == 2) && ac))) := hj 6 (by decide)
                              have j7 : vals 7 = (.bool (((st == 2) && ac))) := hj 7 (by decide)
                              have j10 : vals 10 = (.bool ((((st == 2) && ac) && true))) := hj 10 (by decide)
                              replace hst : Below _ _ wend := hst
                              clear hj
                              rw [putAll_list]
                              simp only [putL, Act.put, List.setIfInBounds_toArray, List.set_cons_zero, List.set_cons_succ, j0, j1, j2, j3, j6, j7, j10]
                              clear j0 j1 j2 j3 j6 j7 j10
                              generalize vals 4 = u140_
                              generalize vals 5 = u141_
                              generalize vals 8 = u144_
                              generalize vals 9 = u145_
                              have HB_18 := Aside0.mk (below_step HB_17.out hst)
                              clear HB_17
                              have Bg3_18 := Aside0.mk (blk_below Bg3_17.out hst)
                              clear Bg3_17
                              have Bg5_18 := Aside0.mk (blk_below Bg5_17.out hst)
                              clear Bg5_17
                              have Bg6_18 := Aside0.mk (blk_below Bg6_17.out hst)
                              clear Bg6_17
                              have Bg8_18 := Aside0.mk (blk_below Bg8_17.out hst)
                              clear Bg8_17
                              have Bg9_18 := Aside0.mk (blk_below Bg9_17.out hst)
                              clear Bg9_17
                              clear hst
                              rcases hc5 : ((((st == 2) && ac) && true)) with _ | _
                              · go_upto_region 23 with (fail)
                                refine wp_region_rg_seq (fun x y => Below x.heap.size x y) (fun (i : Nat) (v : Value) (w1 : World) => match i with | 0 => v = (.pointer (some ⟨g9, 1, none⟩)) | 1 => v = (.pointer (some ⟨g9, 4, none⟩)) | 2 => v = (.bool ((f1 || fi))) | 3 => v = (.bool ((f1 || fi))) | 4 => ((f1 || fi)) = false → v = (.pointer (some ⟨g9, 5, none⟩)) | 5 => ((f1 || fi)) = false → v = (.pointer (some ⟨g9, 8, none⟩)) | 6 => ((f1 || fi)) = false → v = (.bool f2) | 7 => v = (.bool (((f1 || fi) || f2))) | _ => True) (by kernel_rfl) (by kernel_rfl) below_tr (Below.refl _ _) ?hJst ?hObl ?hEnd
                                case hJst =>
                                  intro i v wx wy hi hs0 hs1 hJi
                                  match i, hi with
                                  | 0, _ => exact hJi
                                  | 1, _ => exact hJi
                                  | 2, _ => exact hJi
                                  | 3, _ => exact hJi
                                  | 4, _ => exact hJi
                                  | 5, _ => exact hJi
                                  | 6, _ => exact hJi
                                  | 7, _ => exact hJi
                                  | _ + 8, hi => exact absurd hi (by simp)
                                case hObl =>
                                  refine ⟨?_, ?_, ?_, ?_, ?_, ?_, ?_, ?_,  trivial⟩
                                  · intro listed vals a wq K hD hst hj haft hun hK
                                    have h9 := hD.out 9 rfl rfl
                                    replace hst : Below _ _ wq := hst
                                    clear hD hj haft hun
                                    have e9 := eval_of h9
                                    refine step_now (v := .pointer (some ⟨g9, 1, none⟩)) (w' := wq) (wanted_free rfl) ?_ (hK _ _ (Below.refl _ _) rfl)
                                    clear hK
                                    first | (go_simp; done) | (go_simp; rfl) | (go_simp; (try simp only [IntKind.wrap_u32]); omega)
                                  · intro listed vals a wq K hD hst hj haft hun hK
                                    obtain ⟨v148, h148, j148⟩ := hD.dep hj haft 0 148 rfl rfl
                                    replace j148 : v148 = (.pointer (some ⟨g9, 1, none⟩)) := j148
                                    subst j148
                                    replace hst : Below _ _ wq := hst
                                    clear hD hj haft hun
                                    have e148 := eval_of h148
                                    refine step_now (v := .pointer (some ⟨g9, 4, none⟩)) (w' := wq) (wanted_free rfl) ?_ (hK _ _ (Below.refl _ _) rfl)
                                    clear hK
                                    first | (go_simp; done) | (go_simp; rfl) | (go_simp; (try simp only [IntKind.wrap_u32]); omega)
                                  · intro listed vals a wq K hD hst hj haft hun hK
                                    obtain ⟨v149, h149, j149⟩ := hD.dep hj haft 1 149 rfl rfl
                                    replace j149 : v149 = (.pointer (some ⟨g9, 4, none⟩)) := j149
                                    subst j149
                                    replace hst : Below _ _ wq := hst
                                    clear hD hj haft hun
                                    have e149 := eval_of h149
                                    exact step_now (v := .bool ((f1 || fi))) (w' := wq) (wanted_free rfl) (rg_load rfl e149 (blk_below Bg9_18.out hst) rfl Try.underlying4 rfl) (hK _ _ (Below.refl _ _) rfl)
                                  · intro listed vals a wq K hD hst hj haft hun hK
                                    obtain ⟨v150, h150, j150⟩ := hD.dep hj haft 2 150 rfl rfl
                                    replace j150 : v150 = (.bool ((f1 || fi))) := j150
                                    subst j150
                                    replace hst : Below _ _ wq := hst
                                    clear hD hj haft hun
                                    have e150 := eval_of h150
                                    refine step_now (v := .bool ((f1 || fi))) (w' := wq) (wanted_free rfl) ?_ (hK _ _ (Below.refl _ _) rfl)
                                    clear hK
                                    first | (go_simp; done) | (go_simp; rfl) | (go_simp; (try simp only [IntKind.wrap_u32]); omega)
                                  · intro listed vals a wq K hD hst hj haft hun hK
                                    obtain ⟨v151, h151, j151⟩ := hD.dep hj haft 3 151 rfl rfl
                                    replace j151 : v151 = (.bool ((f1 || fi))) := j151
                                    subst j151
                                    have h9 := hD.out 9 rfl rfl
                                    replace hst : Below _ _ wq := hst
                                    clear hD hj haft hun
                                    rcases hE : ((f1 || fi)) with _ | _
                                    · rw [hE] at h151
                                      have e9 := eval_of h9
                                      refine step_now (v := .pointer (some ⟨g9, 5, none⟩)) (w' := wq) (wanted_on (t := 151) (u := false) rfl rfl rfl h151) ?_ (hK _ _ (Below.refl _ _) (fun _ => rfl))
                                      clear hK
                                      first | (go_simp; done) | (go_simp; rfl) | (go_simp; (try simp only [IntKind.wrap_u32]); omega)
                                    · rw [hE] at h151
                                      exact step_off (wanted_off (t := 151) (u := false) rfl rfl rfl h151) (hK _ _ (Below.refl _ _) (fun h => by rw [hE] at h; cases h))
                                  · intro listed vals a wq K hD hst hj haft hun hK
                                    obtain ⟨v152, h152, j152⟩ := hD.dep hj haft 4 152 rfl rfl
                                    replace j152 : ((f1 || fi)) = false → v152 = (.pointer (some ⟨g9, 5, none⟩)) := j152
                                    obtain ⟨v151, h151, j151⟩ := hD.dep hj haft 3 151 rfl rfl
                                    replace j151 : v151 = (.bool ((f1 || fi))) := j151
                                    subst j151
                                    replace hst : Below _ _ wq := hst
                                    clear hD hj haft hun
                                    rcases hE : ((f1 || fi)) with _ | _
                                    · rw [hE] at h151
                                      obtain rfl := j152 hE
                                      have e152 := eval_of h152
                                      refine step_now (v := .pointer (some ⟨g9, 8, none⟩)) (w' := wq) (wanted_on (t := 151) (u := false) rfl rfl rfl h151) ?_ (hK _ _ (Below.refl _ _) (fun _ => rfl))
                                      clear hK
                                      first | (go_simp; done) | (go_simp; rfl) | (go_simp; (try simp only [IntKind.wrap_u32]); omega)
                                    · rw [hE] at h151
                                      exact step_off (wanted_off (t := 151) (u := false) rfl rfl rfl h151) (hK _ _ (Below.refl _ _) (fun h => by rw [hE] at h; cases h))
                                  · intro listed vals a wq K hD hst hj haft hun hK
                                    obtain ⟨v153, h153, j153⟩ := hD.dep hj haft 5 153 rfl rfl
                                    replace j153 : ((f1 || fi)) = false → v153 = (.pointer (some ⟨g9, 8, none⟩)) := j153
                                    obtain ⟨v151, h151, j151⟩ := hD.dep hj haft 3 151 rfl rfl
                                    replace j151 : v151 = (.bool ((f1 || fi))) := j151
                                    subst j151
                                    replace hst : Below _ _ wq := hst
                                    clear hD hj haft hun
                                    rcases hE : ((f1 || fi)) with _ | _
                                    · rw [hE] at h151
                                      obtain rfl := j153 hE
                                      have e153 := eval_of h153
                                      exact step_now (v := .bool f2) (w' := wq) (wanted_on (t := 151) (u := false) rfl rfl rfl h151) (rg_load rfl e153 (blk_below Bg9_18.out hst) rfl Try.underlying4 rfl) (hK _ _ (Below.refl _ _) (fun _ => rfl))
                                    · rw [hE] at h151
                                      exact step_off (wanted_off (t := 151) (u := false) rfl rfl rfl h151) (hK _ _ (Below.refl _ _) (fun h => by rw [hE] at h; cases h))
                                  · intro listed vals a wq K hD hst hj haft hun hK
                                    obtain ⟨v151, h151, j151⟩ := hD.dep hj haft 3 151 rfl rfl
                                    replace j151 : v151 = (.bool ((f1 || fi))) := j151
                                    subst j151
                                    obtain ⟨v154, h154, j154⟩ := hD.dep hj haft 6 154 rfl rfl
                                    replace j154 : ((f1 || fi)) = false → v154 = (.bool f2) := j154
                                    replace hst : Below _ _ wq := hst
                                    clear hD hj haft hun
                                    rcases hE : ((f1 || fi)) with _ | _
                                    · rw [hE] at h151
                                      obtain rfl := j154 hE
                                      have e151 := eval_of h151
                                      have e154 := eval_of h154
                                      refine step_now (v := .bool (((f1 || fi) || f2))) (w' := wq) (wanted_free rfl) ?_ (hK _ _ (Below.refl _ _) rfl)
                                      rw [hE]
                                      clear hK
                                      first | (go_simp; done) | (go_simp; rfl) | (go_simp; (try simp only [IntKind.wrap_u32]); omega)
                                    · rw [hE] at h151
                                      have e151 := eval_of h151
                                      have e154 := eval_of h154
                                      refine step_now (v := .bool (((f1 || fi) || f2))) (w' := wq) (wanted_free rfl) ?_ (hK _ _ (Below.refl _ _) rfl)
                                      rw [hE]
                                      clear hK
                                      first | (go_simp; done) | (go_simp; rfl) | (go_simp; (try simp only [IntKind.wrap_u32]); omega)
                                case hEnd =>
                                  intro vals wend hst hj
                                  have j0 : vals 0 = (.pointer (some ⟨g9, 1, none⟩)) := hj 0 (by decide)
                                  have j1 : vals 1 = (.pointer (some ⟨g9, 4, none⟩)) := hj 1 (by decide)
                                  have j2 : vals 2 = (.bool ((f1 || fi))) := hj 2 (by decide)
                                  have j3 : vals 3 = (.bool ((f1 || fi))) := hj 3 (by decide)
                                  have j7 : vals 7 = (.bool (((f1 || fi) || f2))) := hj 7 (by decide)
                                  replace hst : Below _ _ wend := hst
                                  clear hj
                                  rw [putAll_list]
                                  simp only [putL, Act.put, List.setIfInBounds_toArray, List.set_cons_zero, List.set_cons_succ, j0, j1, j2, j3, j7]
                                  clear j0 j1 j2 j3 j7
                                  generalize vals 4 = u152_
                                  generalize vals 5 = u153_
                                  generalize vals 6 = u154_
                                  have HB_19 := Aside0.mk (below_step HB_18.out hst)
                                  clear HB_18
                                  have Bg3_19 := Aside0.mk (blk_below Bg3_18.out hst)
                                  clear Bg3_18
                                  have Bg5_19 := Aside0.mk (blk_below Bg5_18.out hst)
                                  clear Bg5_18
                                  have Bg6_19 := Aside0.mk (blk_below Bg6_18.out hst)
                                  clear Bg6_18
                                  have Bg8_19 := Aside0.mk (blk_below Bg8_18.out hst)
                                  clear Bg8_18
                                  have Bg9_19 := Aside0.mk (blk_below Bg9_18.out hst)
                                  clear Bg9_18
                                  clear hst
                                  rcases hc6 : (((f1 || fi) || f2)) with _ | _
                                  · cases rs
                                    · simp only [Bool.not_false, Bool.not_true, Bool.and_true, Bool.and_false] at hc2
                                      go_wp2_with (first | ((with_reducible refine gate_dst (N := 158) rfl ?_); refine load1_event rfl _ _ rfl g8 12 rfl _ _ _ _ Bg8_19.out rfl Try.underlying4 rfl ?_) | ((with_reducible refine gate_dst (N := 160) rfl ?_); refine load_event rfl 41 _ rfl g9 rfl _ _ _ Bg9_19.out Try.underlying41 rfl (by kernel_rfl) ?_) | ((with_reducible refine gate_store (t := 41) (p := 6) rfl ?_); refine store_event rfl 41 _ _ rfl g6 _ rfl rfl _ _ Bg6_19.out (by kernel_rfl) rfl rfl ?_; intro wx20 hst hu; have HB_20 := Aside0.mk (below_upd HB_19.out hu (below_size HB_19.out) (fun k hk => by cases hk; exact Lg6.out)); clear HB_19; have Bg3_20 := Aside0.mk (Upd.blk hu Bg3_19.out (One.not Ng3g6.out)); clear Bg3_19; have Bg5_20 := Aside0.mk (Upd.blk hu Bg5_19.out (One.not Ng5g6.out)); clear Bg5_19; have Bg8_20 := Aside0.mk (Upd.blk hu Bg8_19.out (One.not (Ne.symm Ng6g8.out))); clear Bg8_19; have Bg9_20 := Aside0.mk (Upd.blk hu Bg9_19.out (One.not (Ne.symm Ng6g9.out))); clear Bg9_19; have Bg6_20 := Aside0.mk hst; clear hst hu Bg6_19))
                                      refine bodyPost_ret (results_ct rfl _ _ g6 41 #[.int .i64 st, .bool s1, .int .u32 (later e1 en), .int .u32 m1, .bool ((f1 || fi)), .bool s2, .int .u32 e2, .int .u32 (grant s2 ac m2 ak wi), .bool f2] (0, 0) _ rfl Bg6_20.out Try.underlying41 rfl (by kernel_rfl)) rfl (nextPost_mk (⟨st, ⟨s1, (later e1 en), m1, ((f1 || fi))⟩, ⟨s2, e2, (grant s2 ac m2 ak wi), f2⟩⟩, true) ?_ HB_20.out)
                                      first | (simp only [next, F2.out, F1.out, F4.out, F16.out, FE.out, hc0, hc1, hc2, hc3, hc4, hc5, hc6, Bool.false_eq_true, if_true, if_false, Bool.not_true, Bool.not_false, Bool.and_true, Bool.and_false, reduceIte]; done) | (simp only [next, F2.out, F1.out, F4.out, F16.out, FE.out, hc0, hc1, hc2, hc3, hc4, hc5, hc6, Bool.false_eq_true, if_true, if_false, Bool.not_true, Bool.not_false, Bool.and_true, Bool.and_false, reduceIte]; simp only [hsyn, hx, Bool.false_eq_true, if_true, if_false, Bool.not_true, Bool.not_false, Bool.and_true, Bool.and_false, reduceIte]; done) | (simp only [next, F2.out, F1.out, F4.out, F16.out, FE.out, hc0, hc1, hc2, hc3, hc4, hc5, hc6, Bool.false_eq_true, if_true, if_false, Bool.not_true, Bool.not_false, Bool.and_true, Bool.and_false, reduceIte]; simp [hsyn, hx, hc0, hc1, hc2, hc3, hc4, hc5, hc6]; done) | ((try simp [hsyn] at hc2); simp [next, F2.out, F1.out, F4.out, F16.out, FE.out, hsyn, hx, hc0, hc1, hc2, hc3, hc4, hc5, hc6]; done) | (cases ac <;> simp_all [next]; done)
                                    · simp only [Bool.not_false, Bool.not_true, Bool.and_true, Bool.and_false] at hc2
                                      go_wp2_with (first | ((with_reducible refine gate_dst (N := 158) rfl ?_); refine load1_event rfl _ _ rfl g8 12 rfl _ _ _ _ Bg8_19.out rfl Try.underlying4 rfl ?_) | ((with_reducible refine gate_store (t := 3) (p := 159) rfl ?_); refine store1_event rfl _ _ _ rfl g9 0 rfl (.int .i64 5) _ ?hy _ _ #[.int .i64 5, .bool s1, .int .u32 (later e1 en), .int .u32 m1, .bool ((f1 || fi)), .bool s2, .int .u32 e2, .int .u32 (grant s2 ac m2 ak wi), .bool f2] Bg9_19.out rfl (by kernel_rfl) rfl rfl rfl ?_; (case hy => first | (with_reducible rfl) | rfl | (refine congrArg (Value.int _) ?_; omega)); intro wx20 hst hu; have HB_20 := Aside0.mk (below_upd HB_19.out hu (below_size HB_19.out) (fun k hk => by cases hk; exact Lg9.out)); clear HB_19; have Bg3_20 := Aside0.mk (Upd.blk hu Bg3_19.out (One.not Ng3g9.out)); clear Bg3_19; have Bg5_20 := Aside0.mk (Upd.blk hu Bg5_19.out (One.not Ng5g9.out)); clear Bg5_19; have Bg6_20 := Aside0.mk (Upd.blk hu Bg6_19.out (One.not Ng6g9.out)); clear Bg6_19; have Bg8_20 := Aside0.mk (Upd.blk hu Bg8_19.out (One.not Ng8g9.out)); clear Bg8_19; have Bg9_20 := Aside0.mk hst; clear hst hu Bg9_19) | ((with_reducible refine gate_dst (N := 160) rfl ?_); refine load_event rfl 41 _ rfl g9 rfl _ _ _ Bg9_20.out Try.underlying41 rfl (by kernel_rfl) ?_) | ((with_reducible refine gate_store (t := 41) (p := 6) rfl ?_); refine store_event rfl 41 _ _ rfl g6 _ rfl rfl _ _ Bg6_20.out (by kernel_rfl) rfl rfl ?_; intro wx21 hst hu; have HB_21 := Aside0.mk (below_upd HB_20.out hu (below_size HB_20.out) (fun k hk => by cases hk; exact Lg6.out)); clear HB_20; have Bg3_21 := Aside0.mk (Upd.blk hu Bg3_20.out (One.not Ng3g6.out)); clear Bg3_20; have Bg5_21 := Aside0.mk (Upd.blk hu Bg5_20.out (One.not Ng5g6.out)); clear Bg5_20; have Bg8_21 := Aside0.mk (Upd.blk hu Bg8_20.out (One.not (Ne.symm Ng6g8.out))); clear Bg8_20; have Bg9_21 := Aside0.mk (Upd.blk hu Bg9_20.out (One.not (Ne.symm Ng6g9.out))); clear Bg9_20; have Bg6_21 := Aside0.mk hst; clear hst hu Bg6_20))
                                      refine bodyPost_ret (results_ct rfl _ _ g6 41 #[.int .i64 5, .bool s1, .int .u32 (later e1 en), .int .u32 m1, .bool ((f1 || fi)), .bool s2, .int .u32 e2, .int .u32 (grant s2 ac m2 ak wi), .bool f2] (0, 0) _ rfl Bg6_21.out Try.underlying41 rfl (by kernel_rfl)) rfl (nextPost_mk (⟨5, ⟨s1, (later e1 en), m1, ((f1 || fi))⟩, ⟨s2, e2, (grant s2 ac m2 ak wi), f2⟩⟩, true) ?_ HB_21.out)
                                      first | (simp only [next, F2.out, F1.out, F4.out, F16.out, FE.out, hc0, hc1, hc3, hc4, hc5, hc6, Bool.false_eq_true, if_true, if_false, Bool.not_true, Bool.not_false, Bool.and_true, Bool.and_false, reduceIte]; done) | (simp only [next, F2.out, F1.out, F4.out, F16.out, FE.out, hc0, hc1, hc3, hc4, hc5, hc6, Bool.false_eq_true, if_true, if_false, Bool.not_true, Bool.not_false, Bool.and_true, Bool.and_false, reduceIte]; simp only [hsyn, hx, Bool.false_eq_true, if_true, if_false, Bool.not_true, Bool.not_false, Bool.and_true, Bool.and_false, reduceIte]; done) | (simp only [next, F2.out, F1.out, F4.out, F16.out, FE.out, hc0, hc1, hc3, hc4, hc5, hc6, Bool.false_eq_true, if_true, if_false, Bool.not_true, Bool.not_false, Bool.and_true, Bool.and_false, reduceIte]; simp [hsyn, hx, hc0, hc1, hc3, hc4, hc5, hc6]; done) | ((try simp [hsyn] at hc2); simp [next, F2.out, F1.out, F4.out, F16.out, FE.out, hsyn, hx, hc0, hc1, hc3, hc4, hc5, hc6]; done) | (cases ac <;> simp_all [next]; done)
                                  · cases rs
                                    · simp only [Bool.not_false, Bool.not_true, Bool.and_true, Bool.and_false] at hc2
                                      go_wp2_with (first | ((with_reducible refine gate_store (t := 3) (p := 156) rfl ?_); refine store1_event rfl _ _ _ rfl g9 0 rfl (.int .i64 4) _ ?hy _ _ #[.int .i64 4, .bool s1, .int .u32 (later e1 en), .int .u32 m1, .bool ((f1 || fi)), .bool s2, .int .u32 e2, .int .u32 (grant s2 ac m2 ak wi), .bool f2] Bg9_19.out rfl (by kernel_rfl) rfl rfl rfl ?_; (case hy => first | (with_reducible rfl) | rfl | (refine congrArg (Value.int _) ?_; omega)); intro wx20 hst hu; have HB_20 := Aside0.mk (below_upd HB_19.out hu (below_size HB_19.out) (fun k hk => by cases hk; exact Lg9.out)); clear HB_19; have Bg3_20 := Aside0.mk (Upd.blk hu Bg3_19.out (One.not Ng3g9.out)); clear Bg3_19; have Bg5_20 := Aside0.mk (Upd.blk hu Bg5_19.out (One.not Ng5g9.out)); clear Bg5_19; have Bg6_20 := Aside0.mk (Upd.blk hu Bg6_19.out (One.not Ng6g9.out)); clear Bg6_19; have Bg8_20 := Aside0.mk (Upd.blk hu Bg8_19.out (One.not Ng8g9.out)); clear Bg8_19; have Bg9_20 := Aside0.mk hst; clear hst hu Bg9_19) | ((with_reducible refine gate_dst (N := 158) rfl ?_); refine load1_event rfl _ _ rfl g8 12 rfl _ _ _ _ Bg8_20.out rfl Try.underlying4 rfl ?_) | ((with_reducible refine gate_dst (N := 160) rfl ?_); refine load_event rfl 41 _ rfl g9 rfl _ _ _ Bg9_20.out Try.underlying41 rfl (by kernel_rfl) ?_) | ((with_reducible refine gate_store (t := 41) (p := 6) rfl ?_); refine store_event rfl 41 _ _ rfl g6 _ rfl rfl _ _ Bg6_20.out (by kernel_rfl) rfl rfl ?_; intro wx21 hst hu; have HB_21 := Aside0.mk (below_upd HB_20.out hu (below_size HB_20.out) (fun k hk => by cases hk; exact Lg6.out)); clear HB_20; have Bg3_21 := Aside0.mk (Upd.blk hu Bg3_20.out (One.not Ng3g6.out)); clear Bg3_20; have Bg5_21 := Aside0.mk (Upd.blk hu Bg5_20.out (One.not Ng5g6.out)); clear Bg5_20; have Bg8_21 := Aside0.mk (Upd.blk hu Bg8_20.out (One.not (Ne.symm Ng6g8.out))); clear Bg8_20; have Bg9_21 := Aside0.mk (Upd.blk hu Bg9_20.out (One.not (Ne.symm Ng6g9.out))); clear Bg9_20; have Bg6_21 := Aside0.mk hst; clear hst hu Bg6_20))
                                      refine bodyPost_ret (results_ct rfl _ _ g6 41 #[.int .i64 4, .bool s1, .int .u32 (later e1 en), .int .u32 m1, .bool ((f1 || fi)), .bool s2, .int .u32 e2, .int .u32 (grant s2 ac m2 ak wi), .bool f2] (0, 0) _ rfl Bg6_21.out Try.underlying41 rfl (by kernel_rfl)) rfl (nextPost_mk (⟨4, ⟨s1, (later e1 en), m1, ((f1 || fi))⟩, ⟨s2, e2, (grant s2 ac m2 ak wi), f2⟩⟩, true) ?_ HB_21.out)
                                      first | (simp only [next, F2.out, F1.out, F4.out, F16.out, FE.out, hc0, hc1, hc2, hc3, hc4, hc5, hc6, Bool.false_eq_true, if_true, if_false, Bool.not_true, Bool.not_false, Bool.and_true, Bool.and_false, reduceIte]; done) | (simp only [next, F2.out, F1.out, F4.out, F16.out, FE.out, hc0, hc1, hc2, hc3, hc4, hc5, hc6, Bool.false_eq_true, if_true, if_false, Bool.not_true, Bool.not_false, Bool.and_true, Bool.and_false, reduceIte]; simp only [hsyn, hx, Bool.false_eq_true, if_true, if_false, Bool.not_true, Bool.not_false, Bool.and_true, Bool.and_false, reduceIte]; done) | (simp only [next, F2.out, F1.out, F4.out, F16.out, FE.out, hc0, hc1, hc2, hc3, hc4, hc5, hc6, Bool.false_eq_true, if_true, if_false, Bool.not_true, Bool.not_false, Bool.and_true, Bool.and_false, reduceIte]; simp [hsyn, hx, hc0, hc1, hc2, hc3, hc4, hc5, hc6]; done) | ((try simp [hsyn] at hc2); simp [next, F2.out, F1.out, F4.out, F16.out, FE.out, hsyn, hx, hc0, hc1, hc2, hc3, hc4, hc5, hc6]; done) | (cases ac <;> simp_all [next]; done)
                                    · simp only [Bool.not_false, Bool.not_true, Bool.and_true, Bool.and_false] at hc2
                                      go_wp2_with (first | ((with_reducible refine gate_store (t := 3) (p := 156) rfl ?_); refine store1_event rfl _ _ _ rfl g9 0 rfl (.int .i64 4) _ ?hy _ _ #[.int .i64 4, .bool s1, .int .u32 (later e1 en), .int .u32 m1, .bool ((f1 || fi)), .bool s2, .int .u32 e2, .int .u32 (grant s2 ac m2 ak wi), .bool f2] Bg9_19.out rfl (by kernel_rfl) rfl rfl rfl ?_; (case hy => first | (with_reducible rfl) | rfl | (refine congrArg (Value.int _) ?_; omega)); intro wx20 hst hu; have HB_20 := Aside0.mk (below_upd HB_19.out hu (below_size HB_19.out) (fun k hk => by cases hk; exact Lg9.out)); clear HB_19; have Bg3_20 := Aside0.mk (Upd.blk hu Bg3_19.out (One.not Ng3g9.out)); clear Bg3_19; have Bg5_20 := Aside0.mk (Upd.blk hu Bg5_19.out (One.not Ng5g9.out)); clear Bg5_19; have Bg6_20 := Aside0.mk (Upd.blk hu Bg6_19.out (One.not Ng6g9.out)); clear Bg6_19; have Bg8_20 := Aside0.mk (Upd.blk hu Bg8_19.out (One.not Ng8g9.out)); clear Bg8_19; have Bg9_20 := Aside0.mk hst; clear hst hu Bg9_19) | ((with_reducible refine gate_dst (N := 158) rfl ?_); refine load1_event rfl _ _ rfl g8 12 rfl _ _ _ _ Bg8_20.out rfl Try.underlying4 rfl ?_) | ((with_reducible refine gate_store (t := 3) (p := 159) rfl ?_); refine store1_event rfl _ _ _ rfl g9 0 rfl (.int .i64 5) _ ?hy _ _ #[.int .i64 5, .bool s1, .int .u32 (later e1 en), .int .u32 m1, .bool ((f1 || fi)), .bool s2, .int .u32 e2, .int .u32 (grant s2 ac m2 ak wi), .bool f2] Bg9_20.out rfl (by kernel_rfl) rfl rfl rfl ?_; (case hy => first | (with_reducible rfl) | rfl | (refine congrArg (Value.int _) ?_; omega)); intro wx21 hst hu; have HB_21 := Aside0.mk (below_upd HB_20.out hu (below_size HB_20.out) (fun k hk => by cases hk; exact Lg9.out)); clear HB_20; have Bg3_21 := Aside0.mk (Upd.blk hu Bg3_20.out (One.not Ng3g9.out)); clear Bg3_20; have Bg5_21 := Aside0.mk (Upd.blk hu Bg5_20.out (One.not Ng5g9.out)); clear Bg5_20; have Bg6_21 := Aside0.mk (Upd.blk hu Bg6_20.out (One.not Ng6g9.out)); clear Bg6_20; have Bg8_21 := Aside0.mk (Upd.blk hu Bg8_20.out (One.not Ng8g9.out)); clear Bg8_20; have Bg9_21 := Aside0.mk hst; clear hst hu Bg9_20) | ((with_reducible refine gate_dst (N := 160) rfl ?_); refine load_event rfl 41 _ rfl g9 rfl _ _ _ Bg9_21.out Try.underlying41 rfl (by kernel_rfl) ?_) | ((with_reducible refine gate_store (t := 41) (p := 6) rfl ?_); refine store_event rfl 41 _ _ rfl g6 _ rfl rfl _ _ Bg6_21.out (by kernel_rfl) rfl rfl ?_; intro wx22 hst hu; have HB_22 := Aside0.mk (below_upd HB_21.out hu (below_size HB_21.out) (fun k hk => by cases hk; exact Lg6.out)); clear HB_21; have Bg3_22 := Aside0.mk (Upd.blk hu Bg3_21.out (One.not Ng3g6.out)); clear Bg3_21; have Bg5_22 := Aside0.mk (Upd.blk hu Bg5_21.out (One.not Ng5g6.out)); clear Bg5_21; have Bg8_22 := Aside0.mk (Upd.blk hu Bg8_21.out (One.not (Ne.symm Ng6g8.out))); clear Bg8_21; have Bg9_22 := Aside0.mk (Upd.blk hu Bg9_21.out (One.not (Ne.symm Ng6g9.out))); clear Bg9_21; have Bg6_22 := Aside0.mk hst; clear hst hu Bg6_21))
                                      refine bodyPost_ret (results_ct rfl _ _ g6 41 #[.int .i64 5, .bool s1, .int .u32 (later e1 en), .int .u32 m1, .bool ((f1 || fi)), .bool s2, .int .u32 e2, .int .u32 (grant s2 ac m2 ak wi), .bool f2] (0, 0) _ rfl Bg6_22.out Try.underlying41 rfl (by kernel_rfl)) rfl (nextPost_mk (⟨5, ⟨s1, (later e1 en), m1, ((f1 || fi))⟩, ⟨s2, e2, (grant s2 ac m2 ak wi), f2⟩⟩, true) ?_ HB_22.out)
                                      first | (simp only [next, F2.out, F1.out, F4.out, F16.out, FE.out, hc0, hc1, hc3, hc4, hc5, hc6, Bool.false_eq_true, if_true, if_false, Bool.not_true, Bool.not_false, Bool.and_true, Bool.and_false, reduceIte]; done) | (simp only [next, F2.out, F1.out, F4.out, F16.out, FE.out, hc0, hc1, hc3, hc4, hc5, hc6, Bool.false_eq_true, if_true, if_false, Bool.not_true, Bool.not_false, Bool.and_true, Bool.and_false, reduceIte]; simp only [hsyn, hx, Bool.false_eq_true, if_true, if_false, Bool.not_true, Bool.not_false, Bool.and_true, Bool.and_false, reduceIte]; done) | (simp only [next, F2.out, F1.out, F4.out, F16.out, FE.out, hc0, hc1, hc3, hc4, hc5, hc6, Bool.false_eq_true, if_true, if_false, Bool.not_true, Bool.not_false, Bool.and_true, Bool.and_false, reduceIte]; simp [hsyn, hx, hc0, hc1, hc3, hc4, hc5, hc6]; done) | ((try simp [hsyn] at hc2); simp [next, F2.out, F1.out, F4.out, F16.out, FE.out, hsyn, hx, hc0, hc1, hc3, hc4, hc5, hc6]; done) | (cases ac <;> simp_all [next]; done)
                              · go_upto_region 23 with (first | ((with_reducible refine gate_store (t := 3) (p := 147) rfl ?_); refine store1_event rfl _ _ _ rfl g9 0 rfl (.int .i64 3) _ ?hy _ _ #[.int .i64 3, .bool s1, .int .u32 (later e1 en), .int .u32 m1, .bool ((f1 || fi)), .bool s2, .int .u32 e2, .int .u32 (grant s2 ac m2 ak wi), .bool f2] Bg9_18.out rfl (by kernel_rfl) rfl rfl rfl ?_; (case hy => first | (with_reducible rfl) | rfl | (refine congrArg (Value.int _) ?_; omega)); intro wx19 hst hu; have HB_19 := Aside0.mk (below_upd HB_18.out hu (below_size HB_18.out) (fun k hk => by cases hk; exact Lg9.out)); clear HB_18; have Bg3_19 := Aside0.mk (Upd.blk hu Bg3_18.out (One.not Ng3g9.out)); clear Bg3_18; have Bg5_19 := Aside0.mk (Upd.blk hu Bg5_18.out (One.not Ng5g9.out)); clear Bg5_18; have Bg6_19 := Aside0.mk (Upd.blk hu Bg6_18.out (One.not Ng6g9.out)); clear Bg6_18; have Bg8_19 := Aside0.mk (Upd.blk hu Bg8_18.out (One.not Ng8g9.out)); clear Bg8_18; have Bg9_19 := Aside0.mk hst; clear hst hu Bg9_18))
                                refine wp_region_rg_seq (fun x y => Below x.heap.size x y) (fun (i : Nat) (v : Value) (w1 : World) => match i with | 0 => v = (.pointer (some ⟨g9, 1, none⟩)) | 1 => v = (.pointer (some ⟨g9, 4, none⟩)) | 2 => v = (.bool ((f1 || fi))) | 3 => v = (.bool ((f1 || fi))) | 4 => ((f1 || fi)) = false → v = (.pointer (some ⟨g9, 5, none⟩)) | 5 => ((f1 || fi)) = false → v = (.pointer (some ⟨g9, 8, none⟩)) | 6 => ((f1 || fi)) = false → v = (.bool f2) | 7 => v = (.bool (((f1 || fi) || f2))) | _ => True) (by kernel_rfl) (by kernel_rfl) below_tr (Below.refl _ _) ?hJst ?hObl ?hEnd
                                case hJst =>
                                  intro i v wx wy hi hs0 hs1 hJi
                                  match i, hi with
                                  | 0, _ => exact hJi
                                  | 1, _ => exact hJi
                                  | 2, _ => exact hJi
                                  | 3, _ => exact hJi
                                  | 4, _ => exact hJi
                                  | 5, _ => exact hJi
                                  | 6, _ => exact hJi
                                  | 7, _ => exact hJi
                                  | _ + 8, hi => exact absurd hi (by simp)
                                case hObl =>
                                  refine ⟨?_, ?_, ?_, ?_, ?_, ?_, ?_, ?_,  trivial⟩
                                  · intro listed vals a wq K hD hst hj haft hun hK
                                    have h9 := hD.out 9 rfl rfl
                                    replace hst : Below _ _ wq := hst
                                    clear hD hj haft hun
                                    have e9 := eval_of h9
                                    refine step_now (v := .pointer (some ⟨g9, 1, none⟩)) (w' := wq) (wanted_free rfl) ?_ (hK _ _ (Below.refl _ _) rfl)
                                    clear hK
                                    first | (go_simp; done) | (go_simp; rfl) | (go_simp; (try simp only [IntKind.wrap_u32]); omega)
                                  · intro listed vals a wq K hD hst hj haft hun hK
                                    obtain ⟨v148, h148, j148⟩ := hD.dep hj haft 0 148 rfl rfl
                                    replace j148 : v148 = (.pointer (some ⟨g9, 1, none⟩)) := j148
                                    subst j148
                                    replace hst : Below _ _ wq := hst
                                    clear hD hj haft hun
                                    have e148 := eval_of h148
                                    refine step_now (v := .pointer (some ⟨g9, 4, none⟩)) (w' := wq) (wanted_free rfl) ?_ (hK _ _ (Below.refl _ _) rfl)
                                    clear hK
                                    first | (go_simp; done) | (go_simp; rfl) | (go_simp; (try simp only [IntKind.wrap_u32]); omega)
                                  · intro listed vals a wq K hD hst hj haft hun hK
                                    obtain ⟨v149, h149, j149⟩ := hD.dep hj haft 1 149 rfl rfl
                                    replace j149 : v149 = (.pointer (some ⟨g9, 4, none⟩)) := j149
                                    subst j149
                                    replace hst : Below _ _ wq := hst
                                    clear hD hj haft hun
                                    have e149 := eval_of h149
                                    exact step_now (v := .bool ((f1 || fi))) (w' := wq) (wanted_free rfl) (rg_load rfl e149 (blk_below Bg9_19.out hst) rfl Try.underlying4 rfl) (hK _ _ (Below.refl _ _) rfl)
                                  · intro listed vals a wq K hD hst hj haft hun hK
                                    obtain ⟨v150, h150, j150⟩ := hD.dep hj haft 2 150 rfl rfl
                                    replace j150 : v150 = (.bool ((f1 || fi))) := j150
                                    subst j150
                                    replace hst : Below _ _ wq := hst
                                    clear hD hj haft hun
                                    have e150 := eval_of h150
                                    refine step_now (v := .bool ((f1 || fi))) (w' := wq) (wanted_free rfl) ?_ (hK _ _ (Below.refl _ _) rfl)
                                    clear hK
                                    first | (go_simp; done) | (go_simp; rfl) | (go_simp; (try simp only [IntKind.wrap_u32]); omega)
                                  · intro listed vals a wq K hD hst hj haft hun hK
                                    obtain ⟨v151, h151, j151⟩ := hD.dep hj haft 3 151 rfl rfl
                                    replace j151 : v151 = (.bool ((f1 || fi))) := j151
                                    subst j151
                                    have h9 := hD.out 9 rfl rfl
                                    replace hst : Below _ _ wq := hst
                                    clear hD hj haft hun
                                    rcases hE : ((f1 || fi)) with _ | _
                                    · rw [hE] at h151
                                      have e9 := eval_of h9
                                      refine step_now (v := .pointer (some ⟨g9, 5, none⟩)) (w' := wq) (wanted_on (t := 151) (u := false) rfl rfl rfl h151) ?_ (hK _ _ (Below.refl _ _) (fun _ => rfl))
                                      clear hK
                                      first | (go_simp; done) | (go_simp; rfl) | (go_simp; (try simp only [IntKind.wrap_u32]); omega)
                                    · rw [hE] at h151
                                      exact step_off (wanted_off (t := 151) (u := false) rfl rfl rfl h151) (hK _ _ (Below.refl _ _) (fun h => by rw [hE] at h; cases h))
                                  · intro listed vals a wq K hD hst hj haft hun hK
                                    obtain ⟨v152, h152, j152⟩ := hD.dep hj haft 4 152 rfl rfl
                                    replace j152 : ((f1 || fi)) = false → v152 = (.pointer (some ⟨g9, 5, none⟩)) := j152
                                    obtain ⟨v151, h151, j151⟩ := hD.dep hj haft 3 151 rfl rfl
                                    replace j151 : v151 = (.bool ((f1 || fi))) := j151
                                    subst j151
                                    replace hst : Below _ _ wq := hst
                                    clear hD hj haft hun
                                    rcases hE : ((f1 || fi)) with _ | _
                                    · rw [hE] at h151
                                      obtain rfl := j152 hE
                                      have e152 := eval_of h152
                                      refine step_now (v := .pointer (some ⟨g9, 8, none⟩)) (w' := wq) (wanted_on (t := 151) (u := false) rfl rfl rfl h151) ?_ (hK _ _ (Below.refl _ _) (fun _ => rfl))
                                      clear hK
                                      first | (go_simp; done) | (go_simp; rfl) | (go_simp; (try simp only [IntKind.wrap_u32]); omega)
                                    · rw [hE] at h151
                                      exact step_off (wanted_off (t := 151) (u := false) rfl rfl rfl h151) (hK _ _ (Below.refl _ _) (fun h => by rw [hE] at h; cases h))
                                  · intro listed vals a wq K hD hst hj haft hun hK
                                    obtain ⟨v153, h153, j153⟩ := hD.dep hj haft 5 153 rfl rfl
                                    replace j153 : ((f1 || fi)) = false → v153 = (.pointer (some ⟨g9, 8, none⟩)) := j153
                                    obtain ⟨v151, h151, j151⟩ := hD.dep hj haft 3 151 rfl rfl
                                    replace j151 : v151 = (.bool ((f1 || fi))) := j151
                                    subst j151
                                    replace hst : Below _ _ wq := hst
                                    clear hD hj haft hun
                                    rcases hE : ((f1 || fi)) with _ | _
                                    · rw [hE] at h151
                                      obtain rfl := j153 hE
                                      have e153 := eval_of h153
                                      exact step_now (v := .bool f2) (w' := wq) (wanted_on (t := 151) (u := false) rfl rfl rfl h151) (rg_load rfl e153 (blk_below Bg9_19.out hst) rfl Try.underlying4 rfl) (hK _ _ (Below.refl _ _) (fun _ => rfl))
                                    · rw [hE] at h151
                                      exact step_off (wanted_off (t := 151) (u := false) rfl rfl rfl h151) (hK _ _ (Below.refl _ _) (fun h => by rw [hE] at h; cases h))
                                  · intro listed vals a wq K hD hst hj haft hun hK
                                    obtain ⟨v151, h151, j151⟩ := hD.dep hj haft 3 151 rfl rfl
                                    replace j151 : v151 = (.bool ((f1 || fi))) := j151
                                    subst j151
                                    obtain ⟨v154, h154, j154⟩ := hD.dep hj haft 6 154 rfl rfl
                                    replace j154 : ((f1 || fi)) = false → v154 = (.bool f2) := j154
                                    replace hst : Below _ _ wq := hst
                                    clear hD hj haft hun
                                    rcases hE : ((f1 || fi)) with _ | _
                                    · rw [hE] at h151
                                      obtain rfl := j154 hE
                                      have e151 := eval_of h151
                                      have e154 := eval_of h154
                                      refine step_now (v := .bool (((f1 || fi) || f2))) (w' := wq) (wanted_free rfl) ?_ (hK _ _ (Below.refl _ _) rfl)
                                      rw [hE]
                                      clear hK
                                      first | (go_simp; done) | (go_simp; rfl) | (go_simp; (try simp only [IntKind.wrap_u32]); omega)
                                    · rw [hE] at h151
                                      have e151 := eval_of h151
                                      have e154 := eval_of h154
                                      refine step_now (v := .bool (((f1 || fi) || f2))) (w' := wq) (wanted_free rfl) ?_ (hK _ _ (Below.refl _ _) rfl)
                                      rw [hE]
                                      clear hK
                                      first | (go_simp; done) | (go_simp; rfl) | (go_simp; (try simp only [IntKind.wrap_u32]); omega)
                                case hEnd =>
                                  intro vals wend hst hj
                                  have j0 : vals 0 = (.pointer (some ⟨g9, 1, none⟩)) := hj 0 (by decide)
                                  have j1 : vals 1 = (.pointer (some ⟨g9, 4, none⟩)) := hj 1 (by decide)
                                  have j2 : vals 2 = (.bool ((f1 || fi))) := hj 2 (by decide)
                                  have j3 : vals 3 = (.bool ((f1 || fi))) := hj 3 (by decide)
                                  have j7 : vals 7 = (.bool (((f1 || fi) || f2))) := hj 7 (by decide)
                                  replace hst : Below _ _ wend := hst
                                  clear hj
                                  rw [putAll_list]
                                  simp only [putL, Act.put, List.setIfInBounds_toArray, List.set_cons_zero, List.set_cons_succ, j0, j1, j2, j3, j7]
                                  clear j0 j1 j2 j3 j7
                                  generalize vals 4 = u152_
                                  generalize vals 5 = u153_
                                  generalize vals 6 = u154_
                                  have HB_20 := Aside0.mk (below_step HB_19.out hst)
                                  clear HB_19
                                  have Bg3_20 := Aside0.mk (blk_below Bg3_19.out hst)
                                  clear Bg3_19
                                  have Bg5_20 := Aside0.mk (blk_below Bg5_19.out hst)
                                  clear Bg5_19
                                  have Bg6_20 := Aside0.mk (blk_below Bg6_19.out hst)
                                  clear Bg6_19
                                  have Bg8_20 := Aside0.mk (blk_below Bg8_19.out hst)
                                  clear Bg8_19
                                  have Bg9_20 := Aside0.mk (blk_below Bg9_19.out hst)
                                  clear Bg9_19
                                  clear hst
                                  rcases hc6 : (((f1 || fi) || f2)) with _ | _
                                  · cases rs
                                    · simp only [Bool.not_false, Bool.not_true, Bool.and_true, Bool.and_false] at hc2
                                      go_wp2_with (first | ((with_reducible refine gate_dst (N := 158) rfl ?_); refine load1_event rfl _ _ rfl g8 12 rfl _ _ _ _ Bg8_20.out rfl Try.underlying4 rfl ?_) | ((with_reducible refine gate_dst (N := 160) rfl ?_); refine load_event rfl 41 _ rfl g9 rfl _ _ _ Bg9_20.out Try.underlying41 rfl (by kernel_rfl) ?_) | ((with_reducible refine gate_store (t := 41) (p := 6) rfl ?_); refine store_event rfl 41 _ _ rfl g6 _ rfl rfl _ _ Bg6_20.out (by kernel_rfl) rfl rfl ?_; intro wx21 hst hu; have HB_21 := Aside0.mk (below_upd HB_20.out hu (below_size HB_20.out) (fun k hk => by cases hk; exact Lg6.out)); clear HB_20; have Bg3_21 := Aside0.mk (Upd.blk hu Bg3_20.out (One.not Ng3g6.out)); clear Bg3_20; have Bg5_21 := Aside0.mk (Upd.blk hu Bg5_20.out (One.not Ng5g6.out)); clear Bg5_20; have Bg8_21 := Aside0.mk (Upd.blk hu Bg8_20.out (One.not (Ne.symm Ng6g8.out))); clear Bg8_20; have Bg9_21 := Aside0.mk (Upd.blk hu Bg9_20.out (One.not (Ne.symm Ng6g9.out))); clear Bg9_20; have Bg6_21 := Aside0.mk hst; clear hst hu Bg6_20))
                                      refine bodyPost_ret (results_ct rfl _ _ g6 41 #[.int .i64 3, .bool s1, .int .u32 (later e1 en), .int .u32 m1, .bool ((f1 || fi)), .bool s2, .int .u32 e2, .int .u32 (grant s2 ac m2 ak wi), .bool f2] (0, 0) _ rfl Bg6_21.out Try.underlying41 rfl (by kernel_rfl)) rfl (nextPost_mk (⟨3, ⟨s1, (later e1 en), m1, ((f1 || fi))⟩, ⟨s2, e2, (grant s2 ac m2 ak wi), f2⟩⟩, true) ?_ HB_21.out)
                                      first | (simp only [next, F2.out, F1.out, F4.out, F16.out, FE.out, hc0, hc1, hc2, hc3, hc4, hc5, hc6, Bool.false_eq_true, if_true, if_false, Bool.not_true, Bool.not_false, Bool.and_true, Bool.and_false, reduceIte]; done) | (simp only [next, F2.out, F1.out, F4.out, F16.out, FE.out, hc0, hc1, hc2, hc3, hc4, hc5, hc6, Bool.false_eq_true, if_true, if_false, Bool.not_true, Bool.not_false, Bool.and_true, Bool.and_false, reduceIte]; simp only [hsyn, hx, Bool.false_eq_true, if_true, if_false, Bool.not_true, Bool.not_false, Bool.and_true, Bool.and_false, reduceIte]; done) | (simp only [next, F2.out, F1.out, F4.out, F16.out, FE.out, hc0, hc1, hc2, hc3, hc4, hc5, hc6, Bool.false_eq_true, if_true, if_false, Bool.not_true, Bool.not_false, Bool.and_true, Bool.and_false, reduceIte]; simp [hsyn, hx, hc0, hc1, hc2, hc3, hc4, hc5, hc6]; done) | ((try simp [hsyn] at hc2); simp [next, F2.out, F1.out, F4.out, F16.out, FE.out, hsyn, hx, hc0, hc1, hc2, hc3, hc4, hc5, hc6]; done) | (cases ac <;> simp_all [next]; done)
                                    · simp only [Bool.not_false, Bool.not_true, Bool.and_true, Bool.and_false] at hc2
                                      go_wp2_with (first | ((with_reducible refine gate_dst (N := 158) rfl ?_); refine load1_event rfl _ _ rfl g8 12 rfl _ _ _ _ Bg8_20.out rfl Try.underlying4 rfl ?_) | ((with_reducible refine gate_store (t := 3) (p := 159) rfl ?_); refine store1_event rfl _ _ _ rfl g9 0 rfl (.int .i64 5) _ ?hy _ _ #[.int .i64 5, .bool s1, .int .u32 (later e1 en), .int .u32 m1, .bool ((f1 || fi)), .bool s2, .int .u32 e2, .int .u32 (grant s2 ac m2 ak wi), .bool f2] Bg9_20.out rfl (by kernel_rfl) rfl rfl rfl ?_; (case hy => first | (with_reducible rfl) | rfl | (refine congrArg (Value.int _) ?_; omega)); intro wx21 hst hu; have HB_21 := Aside0.mk (below_upd HB_20.out hu (below_size HB_20.out) (fun k hk => by cases hk; exact Lg9.out)); clear HB_20; have Bg3_21 := Aside0.mk (Upd.blk hu Bg3_20.out (One.not Ng3g9.out)); clear Bg3_20; have Bg5_21 := Aside0.mk (Upd.blk hu Bg5_20.out (One.not Ng5g9.out)); clear Bg5_20; have Bg6_21 := Aside0.mk (Upd.blk hu Bg6_20.out (One.not Ng6g9.out)); clear Bg6_20; have Bg8_21 := Aside0.mk (Upd.blk hu Bg8_20.out (One.not Ng8g9.out)); clear Bg8_20; have Bg9_21 := Aside0.mk hst; clear hst hu Bg9_20) | ((with_reducible refine gate_dst (N := 160) rfl ?_); refine load_event rfl 41 _ rfl g9 rfl _ _ _ Bg9_21.out Try.underlying41 rfl (by kernel_rfl) ?_) | ((with_reducible refine gate_store (t := 41) (p := 6) rfl ?_); refine store_event rfl 41 _ _ rfl g6 _ rfl rfl _ _ Bg6_21.out (by kernel_rfl) rfl rfl ?_; intro wx22 hst hu; have HB_22 := Aside0.mk (below_upd HB_21.out hu (below_size HB_21.out) (fun k hk => by cases hk; exact Lg6.out)); clear HB_21; have Bg3_22 := Aside0.mk (Upd.blk hu Bg3_21.out (One.not Ng3g6.out)); clear Bg3_21; have Bg5_22 := Aside0.mk (Upd.blk hu Bg5_21.out (One.not Ng5g6.out)); clear Bg5_21; have Bg8_22 := Aside0.mk (Upd.blk hu Bg8_21.out (One.not (Ne.symm Ng6g8.out))); clear Bg8_21; have Bg9_22 := Aside0.mk (Upd.blk hu Bg9_21.out (One.not (Ne.symm Ng6g9.out))); clear Bg9_21; have Bg6_22 := Aside0.mk hst; clear hst hu Bg6_21))
                                      refine bodyPost_ret (results_ct rfl _ _ g6 41 #[.int .i64 5, .bool s1, .int .u32 (later e1 en), .int .u32 m1, .bool ((f1 || fi)), .bool s2, .int .u32 e2, .int .u32 (grant s2 ac m2 ak wi), .bool f2] (0, 0) _ rfl Bg6_22.out Try.underlying41 rfl (by kernel_rfl)) rfl (nextPost_mk (⟨5, ⟨s1, (later e1 en), m1, ((f1 || fi))⟩, ⟨s2, e2, (grant s2 ac m2 ak wi), f2⟩⟩, true) ?_ HB_22.out)
                                      first | (simp only [next, F2.out, F1.out, F4.out, F16.out, FE.out, hc0, hc1, hc3, hc4, hc5, hc6, Bool.false_eq_true, if_true, if_false, Bool.not_true, Bool.not_false, Bool.and_true, Bool.and_false, reduceIte]; done) | (simp only [next, F2.out, F1.out, F4.out, F16.out, FE.out, hc0, hc1, hc3, hc4, hc5, hc6, Bool.false_eq_true, if_true, if_false, Bool.not_true, Bool.not_false, Bool.and_true, Bool.and_false, reduceIte]; simp only [hsyn, hx, Bool.false_eq_true, if_true, if_false, Bool.not_true, Bool.not_false, Bool.and_true, Bool.and_false, reduceIte]; done) | (simp only [next, F2.out, F1.out, F4.out, F16.out, FE.out, hc0, hc1, hc3, hc4, hc5, hc6, Bool.false_eq_true, if_true, if_false, Bool.not_true, Bool.not_false, Bool.and_true, Bool.and_false, reduceIte]; simp [hsyn, hx, hc0, hc1, hc3, hc4, hc5, hc6]; done) | ((try simp [hsyn] at hc2); simp [next, F2.out, F1.out, F4.out, F16.out, FE.out, hsyn, hx, hc0, hc1, hc3, hc4, hc5, hc6]; done) | (cases ac <;> simp_all [next]; done)
                                  · cases rs
                                    · simp only [Bool.not_false, Bool.not_true, Bool.and_true, Bool.and_false] at hc2
                                      go_wp2_with (first | ((with_reducible refine gate_store (t := 3) (p := 156) rfl ?_); refine store1_event rfl _ _ _ rfl g9 0 rfl (.int .i64 4) _ ?hy _ _ #[.int .i64 4, .bool s1, .int .u32 (later e1 en), .int .u32 m1, .bool ((f1 || fi)), .bool s2, .int .u32 e2, .int .u32 (grant s2 ac m2 ak wi), .bool f2] Bg9_20.out rfl (by kernel_rfl) rfl rfl rfl ?_; (case hy => first | (with_reducible rfl) | rfl | (refine congrArg (Value.int _) ?_; omega)); intro wx21 hst hu; have HB_21 := Aside0.mk (below_upd HB_20.out hu (below_size HB_20.out) (fun k hk => by cases hk; exact Lg9.out)); clear HB_20; have Bg3_21 := Aside0.mk (Upd.blk hu Bg3_20.out (One.not Ng3g9.out)); clear Bg3_20; have Bg5_21 := Aside0.mk (Upd.blk hu Bg5_20.out (One.not Ng5g9.out)); clear Bg5_20; have Bg6_21 := Aside0.mk (Upd.blk hu Bg6_20.out (One.not Ng6g9.out)); clear Bg6_20; have Bg8_21 := Aside0.mk (Upd.blk hu Bg8_20.out (One.not Ng8g9.out)); clear Bg8_20; have Bg9_21 := Aside0.mk hst; clear hst hu Bg9_20) | ((with_reducible refine gate_dst (N := 158) rfl ?_); refine load1_event rfl _ _ rfl g8 12 rfl _ _ _ _ Bg8_21.out rfl Try.underlying4 rfl ?_) | ((with_reducible refine gate_dst (N := 160) rfl ?_); refine load_event rfl 41 _ rfl g9 rfl _ _ _ Bg9_21.out Try.underlying41 rfl (by kernel_rfl) ?_) | ((with_reducible refine gate_store (t := 41) (p := 6) rfl ?_); refine store_event rfl 41 _ _ rfl g6 _ rfl rfl _ _ Bg6_21.out (by kernel_rfl) rfl rfl ?_; intro wx22 hst hu; have HB_22 := Aside0.mk (below_upd HB_21.out hu (below_size HB_21.out) (fun k hk => by cases hk; exact Lg6.out)); clear HB_21; have Bg3_22 := Aside0.mk (Upd.blk hu Bg3_21.out (One.not Ng3g6.out)); clear Bg3_21; have Bg5_22 := Aside0.mk (Upd.blk hu Bg5_21.out (One.not Ng5g6.out)); clear Bg5_21; have Bg8_22 := Aside0.mk (Upd.blk hu Bg8_21.out (One.not (Ne.symm Ng6g8.out))); clear Bg8_21; have Bg9_22 := Aside0.mk (Upd.blk hu Bg9_21.out (One.not (Ne.symm Ng6g9.out))); clear Bg9_21; have Bg6_22 := Aside0.mk hst; clear hst hu Bg6_21))
                                      refine bodyPost_ret (results_ct rfl _ _ g6 41 #[.int .i64 4, .bool s1, .int .u32 (later e1 en), .int .u32 m1, .bool ((f1 || fi)), .bool s2, .int .u32 e2, .int .u32 (grant s2 ac m2 ak wi), .bool f2] (0, 0) _ rfl Bg6_22.out Try.underlying41 rfl (by kernel_rfl)) rfl (nextPost_mk (⟨4, ⟨s1, (later e1 en), m1, ((f1 || fi))⟩, ⟨s2, e2, (grant s2 ac m2 ak wi), f2⟩⟩, true) ?_ HB_22.out)
                                      first | (simp only [next, F2.out, F1.out, F4.out, F16.out, FE.out, hc0, hc1, hc2, hc3, hc4, hc5, hc6, Bool.false_eq_true, if_true, if_false, Bool.not_true, Bool.not_false, Bool.and_true, Bool.and_false, reduceIte]; done) | (simp only [next, F2.out, F1.out, F4.out, F16.out, FE.out, hc0, hc1, hc2, hc3, hc4, hc5, hc6, Bool.false_eq_true, if_true, if_false, Bool.not_true, Bool.not_false, Bool.and_true, Bool.and_false, reduceIte]; simp only [hsyn, hx, Bool.false_eq_true, if_true, if_false, Bool.not_true, Bool.not_false, Bool.and_true, Bool.and_false, reduceIte]; done) | (simp only [next, F2.out, F1.out, F4.out, F16.out, FE.out, hc0, hc1, hc2, hc3, hc4, hc5, hc6, Bool.false_eq_true, if_true, if_false, Bool.not_true, Bool.not_false, Bool.and_true, Bool.and_false, reduceIte]; simp [hsyn, hx, hc0, hc1, hc2, hc3, hc4, hc5, hc6]; done) | ((try simp [hsyn] at hc2); simp [next, F2.out, F1.out, F4.out, F16.out, FE.out, hsyn, hx, hc0, hc1, hc2, hc3, hc4, hc5, hc6]; done) | (cases ac <;> simp_all [next]; done)
                                    · simp only [Bool.not_false, Bool.not_true, Bool.and_true, Bool.and_false] at hc2
                                      go_wp2_with (first | ((with_reducible refine gate_store (t := 3) (p := 156) rfl ?_); refine store1_event rfl _ _ _ rfl g9 0 rfl (.int .i64 4) _ ?hy _ _ #[.int .i64 4, .bool s1, .int .u32 (later e1 en), .int .u32 m1, .bool ((f1 || fi)), .bool s2, .int .u32 e2, .int .u32 (grant s2 ac m2 ak wi), .bool f2] Bg9_20.out rfl (by kernel_rfl) rfl rfl rfl ?_; (case hy => first | (with_reducible rfl) | rfl | (refine congrArg (Value.int _) ?_; omega)); intro wx21 hst hu; have HB_21 := Aside0.mk (below_upd HB_20.out hu (below_size HB_20.out) (fun k hk => by cases hk; exact Lg9.out)); clear HB_20; have Bg3_21 := Aside0.mk (Upd.blk hu Bg3_20.out (One.not Ng3g9.out)); clear Bg3_20; have Bg5_21 := Aside0.mk (Upd.blk hu Bg5_20.out (One.not Ng5g9.out)); clear Bg5_20; have Bg6_21 := Aside0.mk (Upd.blk hu Bg6_20.out (One.not Ng6g9.out)); clear Bg6_20; have Bg8_21 := Aside0.mk (Upd.blk hu Bg8_20.out (One.not Ng8g9.out)); clear Bg8_20; have Bg9_21 := Aside0.mk hst; clear hst hu Bg9_20) | ((with_reducible refine gate_dst (N := 158) rfl ?_); refine load1_event rfl _ _ rfl g8 12 rfl _ _ _ _ Bg8_21.out rfl Try.underlying4 rfl ?_) | ((with_reducible refine gate_store (t := 3) (p := 159) rfl ?_); refine store1_event rfl _ _ _ rfl g9 0 rfl (.int .i64 5) _ ?hy _ _ #[.int .i64 5, .bool s1, .int .u32 (later e1 en), .int .u32 m1, .bool ((f1 || fi)), .bool s2, .int .u32 e2, .int .u32 (grant s2 ac m2 ak wi), .bool f2] Bg9_21.out rfl (by kernel_rfl) rfl rfl rfl ?_; (case hy => first | (with_reducible rfl) | rfl | (refine congrArg (Value.int _) ?_; omega)); intro wx22 hst hu; have HB_22 := Aside0.mk (below_upd HB_21.out hu (below_size HB_21.out) (fun k hk => by cases hk; exact Lg9.out)); clear HB_21; have Bg3_22 := Aside0.mk (Upd.blk hu Bg3_21.out (One.not Ng3g9.out)); clear Bg3_21; have Bg5_22 := Aside0.mk (Upd.blk hu Bg5_21.out (One.not Ng5g9.out)); clear Bg5_21; have Bg6_22 := Aside0.mk (Upd.blk hu Bg6_21.out (One.not Ng6g9.out)); clear Bg6_21; have Bg8_22 := Aside0.mk (Upd.blk hu Bg8_21.out (One.not Ng8g9.out)); clear Bg8_21; have Bg9_22 := Aside0.mk hst; clear hst hu Bg9_21) | ((with_reducible refine gate_dst (N := 160) rfl ?_); refine load_event rfl 41 _ rfl g9 rfl _ _ _ Bg9_22.out Try.underlying41 rfl (by kernel_rfl) ?_) | ((with_reducible refine gate_store (t := 41) (p := 6) rfl ?_); refine store_event rfl 41 _ _ rfl g6 _ rfl rfl _ _ Bg6_22.out (by kernel_rfl) rfl rfl ?_; intro wx23 hst hu; have HB_23 := Aside0.mk (below_upd HB_22.out hu (below_size HB_22.out) (fun k hk => by cases hk; exact Lg6.out)); clear HB_22; have Bg3_23 := Aside0.mk (Upd.blk hu Bg3_22.out (One.not Ng3g6.out)); clear Bg3_22; have Bg5_23 := Aside0.mk (Upd.blk hu Bg5_22.out (One.not Ng5g6.out)); clear Bg5_22; have Bg8_23 := Aside0.mk (Upd.blk hu Bg8_22.out (One.not (Ne.symm Ng6g8.out))); clear Bg8_22; have Bg9_23 := Aside0.mk (Upd.blk hu Bg9_22.out (One.not (Ne.symm Ng6g9.out))); clear Bg9_22; have Bg6_23 := Aside0.mk hst; clear hst hu Bg6_22))
                                      refine bodyPost_ret (results_ct rfl _ _ g6 41 #[.int .i64 5, .bool s1, .int .u32 (later e1 en), .int .u32 m1, .bool ((f1 || fi)), .bool s2, .int .u32 e2, .int .u32 (grant s2 ac m2 ak wi), .bool f2] (0, 0) _ rfl Bg6_23.out Try.underlying41 rfl (by kernel_rfl)) rfl (nextPost_mk (⟨5, ⟨s1, (later e1 en), m1, ((f1 || fi))⟩, ⟨s2, e2, (grant s2 ac m2 ak wi), f2⟩⟩, true) ?_ HB_23.out)
                                      first | (simp only [next, F2.out, F1.out, F4.out, F16.out, FE.out, hc0, hc1, hc3, hc4, hc5, hc6, Bool.false_eq_true, if_true, if_false, Bool.not_true, Bool.not_false, Bool.and_true, Bool.and_false, reduceIte]; done) | (simp only [next, F2.out, F1.out, F4.out, F16.out, FE.out, hc0, hc1, hc3, hc4, hc5, hc6, Bool.false_eq_true, if_true, if_false, Bool.not_true, Bool.not_false, Bool.and_true, Bool.and_false, reduceIte]; simp only [hsyn, hx, Bool.false_eq_true, if_true, if_false, Bool.not_true, Bool.not_false, Bool.and_true, Bool.and_false, reduceIte]; done) | (simp only [next, F2.out, F1.out, F4.out, F16.out, FE.out, hc0, hc1, hc3, hc4, hc5, hc6, Bool.false_eq_true, if_true, if_false, Bool.not_true, Bool.not_false, Bool.and_true, Bool.and_false, reduceIte]; simp [hsyn, hx, hc0, hc1, hc3, hc4, hc5, hc6]; done) | ((try simp [hsyn] at hc2); simp [next, F2.out, F1.out, F4.out, F16.out, FE.out, hsyn, hx, hc0, hc1, hc3, hc4, hc5, hc6]; done) | (cases ac <;> simp_all [next]; done)
                        · go_wp2_with (first | ((with_reducible refine gate_dst (N := 111) rfl ?_); refine load_event rfl 41 _ rfl g3 rfl _ _ _ Bg3_14.out Try.underlying41 rfl (by kernel_rfl) ?_) | ((with_reducible refine gate_store (t := 41) (p := 6) rfl ?_); refine store_event rfl 41 _ _ rfl g6 _ rfl rfl _ _ Bg6_14.out (by kernel_rfl) rfl rfl ?_; intro wx15 hst hu; have HB_15 := Aside0.mk (below_upd HB_14.out hu (below_size HB_14.out) (fun k hk => by cases hk; exact Lg6.out)); clear HB_14; have Bg3_15 := Aside0.mk (Upd.blk hu Bg3_14.out (One.not Ng3g6.out)); clear Bg3_14; have Bg5_15 := Aside0.mk (Upd.blk hu Bg5_14.out (One.not Ng5g6.out)); clear Bg5_14; have Bg8_15 := Aside0.mk (Upd.blk hu Bg8_14.out (One.not (Ne.symm Ng6g8.out))); clear Bg8_14; have Bg9_15 := Aside0.mk (Upd.blk hu Bg9_14.out (One.not (Ne.symm Ng6g9.out))); clear Bg9_14; have Bg6_15 := Aside0.mk hst; clear hst hu Bg6_14))
                          refine bodyPost_ret (results_ct rfl _ _ g6 41 #[.int .i64 st, .bool s1, .int .u32 e1, .int .u32 m1, .bool f1, .bool s2, .int .u32 e2, .int .u32 m2, .bool f2] (0, 0) _ rfl Bg6_15.out Try.underlying41 rfl (by kernel_rfl)) rfl (nextPost_mk (⟨st, ⟨s1, e1, m1, f1⟩, ⟨s2, e2, m2, f2⟩⟩, false) ?_ HB_15.out)
                          first | (simp only [next, F2.out, F1.out, F4.out, F16.out, FE.out, hc0, hc1, hc2, hc3, hc4, Bool.false_eq_true, if_true, if_false, Bool.not_true, Bool.not_false, Bool.and_true, Bool.and_false, reduceIte]; done) | (simp only [next, F2.out, F1.out, F4.out, F16.out, FE.out, hc0, hc1, hc2, hc3, hc4, Bool.false_eq_true, if_true, if_false, Bool.not_true, Bool.not_false, Bool.and_true, Bool.and_false, reduceIte]; simp only [hsyn, hx, Bool.false_eq_true, if_true, if_false, Bool.not_true, Bool.not_false, Bool.and_true, Bool.and_false, reduceIte]; done) | (simp only [next, F2.out, F1.out, F4.out, F16.out, FE.out, hc0, hc1, hc2, hc3, hc4, Bool.false_eq_true, if_true, if_false, Bool.not_true, Bool.not_false, Bool.and_true, Bool.and_false, reduceIte]; simp [hsyn, hx, hc0, hc1, hc2, hc3, hc4]; done) | ((try simp [hsyn] at hc2); simp [next, F2.out, F1.out, F4.out, F16.out, FE.out, hsyn, hx, hc0, hc1, hc2, hc3, hc4]; done) | (cases ac <;> simp_all [next]; done)
                    · go_wp2_with (first | ((with_reducible refine gate_dst (N := 111) rfl ?_); refine load_event rfl 41 _ rfl g3 rfl _ _ _ Bg3_13.out Try.underlying41 rfl (by kernel_rfl) ?_) | ((with_reducible refine gate_store (t := 41) (p := 6) rfl ?_); refine store_event rfl 41 _ _ rfl g6 _ rfl rfl _ _ Bg6_13.out (by kernel_rfl) rfl rfl ?_; intro wx14 hst hu; have HB_14 := Aside0.mk (below_upd HB_13.out hu (below_size HB_13.out) (fun k hk => by cases hk; exact Lg6.out)); clear HB_13; have Bg3_14 := Aside0.mk (Upd.blk hu Bg3_13.out (One.not Ng3g6.out)); clear Bg3_13; have Bg5_14 := Aside0.mk (Upd.blk hu Bg5_13.out (One.not Ng5g6.out)); clear Bg5_13; have Bg8_14 := Aside0.mk (Upd.blk hu Bg8_13.out (One.not (Ne.symm Ng6g8.out))); clear Bg8_13; have Bg9_14 := Aside0.mk (Upd.blk hu Bg9_13.out (One.not (Ne.symm Ng6g9.out))); clear Bg9_13; have Bg6_14 := Aside0.mk hst; clear hst hu Bg6_13))
                      refine bodyPost_ret (results_ct rfl _ _ g6 41 #[.int .i64 st, .bool s1, .int .u32 e1, .int .u32 m1, .bool f1, .bool s2, .int .u32 e2, .int .u32 m2, .bool f2] (0, 0) _ rfl Bg6_14.out Try.underlying41 rfl (by kernel_rfl)) rfl (nextPost_mk (⟨st, ⟨s1, e1, m1, f1⟩, ⟨s2, e2, m2, f2⟩⟩, false) ?_ HB_14.out)
                      first | (simp only [next, F2.out, F1.out, F4.out, F16.out, FE.out, hc0, hc1, hc2, hc3, Bool.false_eq_true, if_true, if_false, Bool.not_true, Bool.not_false, Bool.and_true, Bool.and_false, reduceIte]; done) | (simp only [next, F2.out, F1.out, F4.out, F16.out, FE.out, hc0, hc1, hc2, hc3, Bool.false_eq_true, if_true, if_false, Bool.not_true, Bool.not_false, Bool.and_true, Bool.and_false, reduceIte]; simp only [hsyn, hx, Bool.false_eq_true, if_true, if_false, Bool.not_true, Bool.not_false, Bool.and_true, Bool.and_false, reduceIte]; done) | (simp only [next, F2.out, F1.out, F4.out, F16.out, FE.out, hc0, hc1, hc2, hc3, Bool.false_eq_true, if_true, if_false, Bool.not_true, Bool.not_false, Bool.and_true, Bool.and_false, reduceIte]; simp [hsyn, hx, hc0, hc1, hc2, hc3]; done) | ((try simp [hsyn] at hc2); simp [next, F2.out, F1.out, F4.out, F16.out, FE.out, hsyn, hx, hc0, hc1, hc2, hc3]; done) | (cases ac <;> simp_all [next]; done)
              · go_wp2_with (first | ((with_reducible refine gate_dst (N := 64) rfl ?_); refine load1_event rfl _ _ rfl g8 10 rfl _ _ _ _ Bg8_12.out rfl Try.underlying4 rfl ?_) | ((with_reducible refine gate_dst (N := 65) rfl ?_); refine load_event rfl 41 _ rfl g3 rfl _ _ _ Bg3_12.out Try.underlying41 rfl (by kernel_rfl) ?_) | ((with_reducible refine gate_dst (N := 67) rfl ?_); refine load_event rfl 95 _ rfl g8 rfl _ _ _ Bg8_12.out Try.underlying95 rfl (by kernel_rfl) ?_) | (go_at_call 42; refine (hsy.out sp dp sq fl ty co he true _).mono ?_; rintro e wx13 ⟨rfl, hb⟩; have HB_13 := Aside0.mk (below_step HB_12.out hb); clear HB_12; have Bg3_13 := Aside0.mk (blk_below Bg3_12.out hb); clear Bg3_12; have Bg5_13 := Aside0.mk (blk_below Bg5_12.out hb); clear Bg5_12; have Bg6_13 := Aside0.mk (blk_below Bg6_12.out hb); clear Bg6_12; have Bg8_13 := Aside0.mk (blk_below Bg8_12.out hb); clear Bg8_12; have Bg9_13 := Aside0.mk (blk_below Bg9_12.out hb); clear Bg9_12; clear hb) | ((with_reducible refine gate_store (t := 41) (p := 6) rfl ?_); refine store_event rfl 41 _ _ rfl g6 _ rfl rfl _ _ Bg6_13.out (by kernel_rfl) rfl rfl ?_; intro wx14 hst hu; have HB_14 := Aside0.mk (below_upd HB_13.out hu (below_size HB_13.out) (fun k hk => by cases hk; exact Lg6.out)); clear HB_13; have Bg3_14 := Aside0.mk (Upd.blk hu Bg3_13.out (One.not Ng3g6.out)); clear Bg3_13; have Bg5_14 := Aside0.mk (Upd.blk hu Bg5_13.out (One.not Ng5g6.out)); clear Bg5_13; have Bg8_14 := Aside0.mk (Upd.blk hu Bg8_13.out (One.not (Ne.symm Ng6g8.out))); clear Bg8_13; have Bg9_14 := Aside0.mk (Upd.blk hu Bg9_13.out (One.not (Ne.symm Ng6g9.out))); clear Bg9_13; have Bg6_14 := Aside0.mk hst; clear hst hu Bg6_13))
                refine bodyPost_ret (results_ct rfl _ _ g6 41 #[.int .i64 r.1.st, .bool r.1.a.seen, .int .u32 r.1.a.e, .int .u32 r.1.a.m, .bool r.1.a.fin, .bool r.1.b.seen, .int .u32 r.1.b.e, .int .u32 r.1.b.m, .bool r.1.b.fin] (0, 0) _ rfl Bg6_14.out Try.underlying41 rfl (by kernel_rfl)) rfl (nextPost_mk r ?_ HB_14.out)
                first | (simp only [next, F2.out, F1.out, F4.out, F16.out, FE.out, hr.out, hc0, hc1, hc2, Bool.false_eq_true, if_true, if_false, Bool.not_true, Bool.not_false, Bool.and_true, Bool.and_false, reduceIte]; done) | (simp only [next, F2.out, F1.out, F4.out, F16.out, FE.out, hc0, hc1, hc2, Bool.false_eq_true, if_true, if_false, Bool.not_true, Bool.not_false, Bool.and_true, Bool.and_false, reduceIte]; simp only [hsyn, Bool.false_eq_true, if_true, if_false, Bool.not_true, Bool.not_false, Bool.and_true, Bool.and_false, reduceIte, hr.out]; done) | (simp only [next, F2.out, F1.out, F4.out, F16.out, FE.out, hc0, hc1, hc2, Bool.false_eq_true, if_true, if_false, Bool.not_true, Bool.not_false, Bool.and_true, Bool.and_false, reduceIte]; simp [hsyn, hc0, hc1, hc2, hr.out]; done) | ((try simp [hsyn] at hc2); simp [next, F2.out, F1.out, F4.out, F16.out, FE.out, hsyn, hc0, hc1, hc2, hr.out]; done) | (cases ac <;> simp_all [next]; done)
            · go_wp2_with (first | ((with_reducible refine gate_dst (N := 61) rfl ?_); refine load_event rfl 41 _ rfl g3 rfl _ _ _ Bg3_12.out Try.underlying41 rfl (by kernel_rfl) ?_) | ((with_reducible refine gate_store (t := 41) (p := 6) rfl ?_); refine store_event rfl 41 _ _ rfl g6 _ rfl rfl _ _ Bg6_12.out (by kernel_rfl) rfl rfl ?_; intro wx13 hst hu; have HB_13 := Aside0.mk (below_upd HB_12.out hu (below_size HB_12.out) (fun k hk => by cases hk; exact Lg6.out)); clear HB_12; have Bg3_13 := Aside0.mk (Upd.blk hu Bg3_12.out (One.not Ng3g6.out)); clear Bg3_12; have Bg5_13 := Aside0.mk (Upd.blk hu Bg5_12.out (One.not Ng5g6.out)); clear Bg5_12; have Bg8_13 := Aside0.mk (Upd.blk hu Bg8_12.out (One.not (Ne.symm Ng6g8.out))); clear Bg8_12; have Bg9_13 := Aside0.mk (Upd.blk hu Bg9_12.out (One.not (Ne.symm Ng6g9.out))); clear Bg9_12; have Bg6_13 := Aside0.mk hst; clear hst hu Bg6_12))
              refine bodyPost_ret (results_ct rfl _ _ g6 41 #[.int .i64 st, .bool s1, .int .u32 e1, .int .u32 m1, .bool f1, .bool s2, .int .u32 e2, .int .u32 m2, .bool f2] (0, 0) _ rfl Bg6_13.out Try.underlying41 rfl (by kernel_rfl)) rfl (nextPost_mk (⟨st, ⟨s1, e1, m1, f1⟩, ⟨s2, e2, m2, f2⟩⟩, false) ?_ HB_13.out)
              first | (simp only [next, F2.out, F1.out, F4.out, F16.out, FE.out, hc0, hc1, hc2, Bool.false_eq_true, if_true, if_false, Bool.not_true, Bool.not_false, Bool.and_true, Bool.and_false, reduceIte]; done) | (simp only [next, F2.out, F1.out, F4.out, F16.out, FE.out, hc0, hc1, hc2, Bool.false_eq_true, if_true, if_false, Bool.not_true, Bool.not_false, Bool.and_true, Bool.and_false, reduceIte]; simp only [Bool.false_eq_true, if_true, if_false, Bool.not_true, Bool.not_false, Bool.and_true, Bool.and_false, reduceIte]; done) | (simp only [next, F2.out, F1.out, F4.out, F16.out, FE.out, hc0, hc1, hc2, Bool.false_eq_true, if_true, if_false, Bool.not_true, Bool.not_false, Bool.and_true, Bool.and_false, reduceIte]; simp [hc0, hc1, hc2]; done)
        · go_wp2_with (first | ((with_reducible refine gate_dst (N := 61) rfl ?_); refine load_event rfl 41 _ rfl g3 rfl _ _ _ Bg3_11.out Try.underlying41 rfl (by kernel_rfl) ?_) | ((with_reducible refine gate_store (t := 41) (p := 6) rfl ?_); refine store_event rfl 41 _ _ rfl g6 _ rfl rfl _ _ Bg6_11.out (by kernel_rfl) rfl rfl ?_; intro wx12 hst hu; have HB_12 := Aside0.mk (below_upd HB_11.out hu (below_size HB_11.out) (fun k hk => by cases hk; exact Lg6.out)); clear HB_11; have Bg3_12 := Aside0.mk (Upd.blk hu Bg3_11.out (One.not Ng3g6.out)); clear Bg3_11; have Bg5_12 := Aside0.mk (Upd.blk hu Bg5_11.out (One.not Ng5g6.out)); clear Bg5_11; have Bg8_12 := Aside0.mk (Upd.blk hu Bg8_11.out (One.not (Ne.symm Ng6g8.out))); clear Bg8_11; have Bg9_12 := Aside0.mk (Upd.blk hu Bg9_11.out (One.not (Ne.symm Ng6g9.out))); clear Bg9_11; have Bg6_12 := Aside0.mk hst; clear hst hu Bg6_11))
          refine bodyPost_ret (results_ct rfl _ _ g6 41 #[.int .i64 st, .bool s1, .int .u32 e1, .int .u32 m1, .bool f1, .bool s2, .int .u32 e2, .int .u32 m2, .bool f2] (0, 0) _ rfl Bg6_12.out Try.underlying41 rfl (by kernel_rfl)) rfl (nextPost_mk (⟨st, ⟨s1, e1, m1, f1⟩, ⟨s2, e2, m2, f2⟩⟩, false) ?_ HB_12.out)
          first | (simp only [next, F2.out, F1.out, F4.out, F16.out, FE.out, hc0, hc1, Bool.false_eq_true, if_true, if_false, Bool.not_true, Bool.not_false, Bool.and_true, Bool.and_false, reduceIte]; done) | (simp only [next, F2.out, F1.out, F4.out, F16.out, FE.out, hc0, hc1, Bool.false_eq_true, if_true, if_false, Bool.not_true, Bool.not_false, Bool.and_true, Bool.and_false, reduceIte]; simp only [Bool.false_eq_true, if_true, if_false, Bool.not_true, Bool.not_false, Bool.and_true, Bool.and_false, reduceIte]; done) | (simp only [next, F2.out, F1.out, F4.out, F16.out, FE.out, hc0, hc1, Bool.false_eq_true, if_true, if_false, Bool.not_true, Bool.not_false, Bool.and_true, Bool.and_false, reduceIte]; simp [hc0, hc1]; done)
    · go_wp2_with (first | ((with_reducible refine gate_dst (N := 29) rfl ?_); refine load_event rfl 41 _ rfl g3 rfl _ _ _ Bg3_10.out Try.underlying41 rfl (by kernel_rfl) ?_) | ((with_reducible refine gate_store (t := 41) (p := 6) rfl ?_); refine store_event rfl 41 _ _ rfl g6 _ rfl rfl _ _ Bg6_10.out (by kernel_rfl) rfl rfl ?_; intro wx11 hst hu; have HB_11 := Aside0.mk (below_upd HB_10.out hu (below_size HB_10.out) (fun k hk => by cases hk; exact Lg6.out)); clear HB_10; have Bg3_11 := Aside0.mk (Upd.blk hu Bg3_10.out (One.not Ng3g6.out)); clear Bg3_10; have Bg5_11 := Aside0.mk (Upd.blk hu Bg5_10.out (One.not Ng5g6.out)); clear Bg5_10; have Bg8_11 := Aside0.mk (Upd.blk hu Bg8_10.out (One.not (Ne.symm Ng6g8.out))); clear Bg8_10; have Bg9_11 := Aside0.mk (Upd.blk hu Bg9_10.out (One.not (Ne.symm Ng6g9.out))); clear Bg9_10; have Bg6_11 := Aside0.mk hst; clear hst hu Bg6_10))
      refine bodyPost_ret (results_ct rfl _ _ g6 41 #[.int .i64 st, .bool s1, .int .u32 e1, .int .u32 m1, .bool f1, .bool s2, .int .u32 e2, .int .u32 m2, .bool f2] (0, 0) _ rfl Bg6_11.out Try.underlying41 rfl (by kernel_rfl)) rfl (nextPost_mk (⟨st, ⟨s1, e1, m1, f1⟩, ⟨s2, e2, m2, f2⟩⟩, false) ?_ HB_11.out)
      first | (simp only [next, F2.out, F1.out, F4.out, F16.out, FE.out, hc0, Bool.false_eq_true, if_true, if_false, Bool.not_true, Bool.not_false, Bool.and_true, Bool.and_false, reduceIte]; done) | (simp only [next, F2.out, F1.out, F4.out, F16.out, FE.out, hc0, Bool.false_eq_true, if_true, if_false, Bool.not_true, Bool.not_false, Bool.and_true, Bool.and_false, reduceIte]; simp only [Bool.false_eq_true, if_true, if_false, Bool.not_true, Bool.not_false, Bool.and_true, Bool.and_false, reduceIte]; done) | (simp only [next, F2.out, F1.out, F4.out, F16.out, FE.out, hc0, Bool.false_eq_true, if_true, if_false, Bool.not_true, Bool.not_false, Bool.and_true, Bool.and_false, reduceIte]; simp [hc0]; done)
end Go.Proofs.Ytainkpgplmkiaaa.Win5
