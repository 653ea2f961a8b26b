/- The walk of WindowWraps: where a connection's numbers begin changes nothing: the call returns true and leaves all memory that was there as it was. No condition. -/
import Derived.Test.YtainkpgplmkiaaaWinScript
import Derived.Test.YtainkpgplmkiaaaWinWraps
import Derived.Test.YtainkpgplmkiaaaRefWin
namespace Go.Proofs.Ytainkpgplmkiaaa.WindowWrapsWalk
open Go Go.RowKit Go.Proofs.YtainkpgplmkiaaaW.PrintWords Go.Proofs.YtainkpgplmkiaaaW.PrintLast Go.Proofs.YtainkpgplmkiaaaW.PrintMore Go.Proofs.Ytainkpgplmkiaaa.MWorld Go.Proofs.Ytainkpgplmkiaaa.MArgs Go.Proofs.Ytainkpgplmkiaaa.Ev Go.Proofs.Ytainkpgplmkiaaa.Rg Go.Proofs.Ytainkpgplmkiaaa.Rgw Go.Proofs.Ytainkpgplmkiaaa.Win Go.Proofs.Ytainkpgplmkiaaa.Win2 Go.Proofs.Ytainkpgplmkiaaa.WinModel Go.Proofs.Ytainkpgplmkiaaa.Win6 Go.Proofs.Ytainkpgplmkiaaa.WinArgs Go.Proofs.Ytainkpgplmkiaaa.WinScript Go.Proofs.Ytainkpgplmkiaaa.WinOpens Go.Proofs.Ytainkpgplmkiaaa.WinFlags Go.Proofs.Ytainkpgplmkiaaa.WinClosed Go.Proofs.Ytainkpgplmkiaaa.WinWraps Go.Proofs.Ytainkpgplmkiaaa.RefWin
set_option linter.unusedVariables false
set_option linter.unusedSimpArgs false
theorem open_is (t : Tr) (c : Cn) (gd : Bool) (h : opened t = (c, gd)) (w : World) : Calls Try.prog 28 #[t.val] w fun e w' => e = .returned (.tuple #[c.val, .bool gd]) ∧ Below w.heap.size w w' := by
  refine (open_any t w).mono fun e w' hp => ?_
  unfold OpenPost at hp; rw [h] at hp; exact hp
theorem ropen_is (t : Tr) (c : Cn) (gd : Bool) (h : opened t = (c, gd)) (w : World) : Calls Try.prog 30 #[t.val] w fun e w' => e = .returned (.tuple #[c.val, .bool gd]) ∧ Below w.heap.size w w' := by
  refine (ropen_any t w).mono fun e w' hp => ?_
  unfold OpenPost at hp; rw [h] at hp; exact hp
theorem putv_below {s g i : Nat} {c0 c1 : Array Value} {t : TypeId} {f : Nat → Bool} {w w' : World} (hn : s ≠ i) (h : PutV s g c0 c1 t f w) (hb : Below w.heap.size w w') : PutV s g c0 c1 t (fun j => if j = i then true else f j) w' := by
  unfold PutV at h ⊢
  simp only [if_neg hn]
  exact blk_below h hb
set_option maxRecDepth 100000 in
set_option maxHeartbeats 4000000 in
theorem moved_f (sp dp sq ak fl wi ty co he da a b q2 q3 : Int) (w : World) (hfl : (bits .and .i64 fl 16 == 0) = true) (h2 : (sq + a) % 4294967296 = q2) (h3 : ak = q3) : Calls Try.prog 29 #[.agg #[.int .i64 sp, .int .i64 dp, .int .u32 sq, .int .u32 ak, .int .i64 fl, .int .i64 wi, .int .i64 ty, .int .i64 co, .int .i64 he, .int .i64 da], .int .u32 a, .int .u32 b] w fun e w' => e = .returned (.agg #[.int .i64 sp, .int .i64 dp, .int .u32 q2, .int .u32 q3, .int .i64 fl, .int .i64 wi, .int .i64 ty, .int .i64 co, .int .i64 he, .int .i64 da]) ∧ Below w.heap.size w w' := by
  subst h3
  go_enter Try.func29, Try.ntmps29
  go_upto_region 2 with (first | ((with_reducible refine gate_dst (N := 3) rfl ?_); refine box_event ?hg (N := 3) ?hd (cs := #[.int .i64 sp, .int .i64 dp, .int .u32 sq, .int .u32 ak, .int .i64 fl, .int .i64 wi, .int .i64 ty, .int .i64 co, .int .i64 he, .int .i64 da]) (t := 43) ?hr ?_; (case hd => rfl); (case hg => rfl); (case hr => first | (go_simp; done) | (go_simp; rfl)); intro g3 hgg wx1 hbox hb; have Lg3 := Aside0.mk (show w.heap.size ≤ g3 by rw [hgg]; exact Nat.le_refl _); have HB_1 := Aside0.mk (hb); have Bg3_1 := Aside0.mk hbox; clear hbox hb hgg) | ((with_reducible refine gate_dst (N := 6) rfl ?_); refine box_event ?hg (N := 6) ?hd (cs := #[.int .i64 0, .int .i64 0, .int .u32 0, .int .u32 0, .int .i64 0, .int .i64 0, .int .i64 0, .int .i64 0, .int .i64 0, .int .i64 0]) (t := 43) ?hr ?_; (case hd => rfl); (case hg => rfl); (case hr => first | (go_simp; done) | (go_simp; rfl)); intro g6 hgg wx2 hbox hb; have Ng3g6 := Aside0.mk (show g3 ≠ g6 by rw [hgg]; exact Nat.ne_of_lt (blk_lt Bg3_1.out)); have Lg6 := Aside0.mk (show w.heap.size ≤ g6 by rw [hgg]; exact below_size HB_1.out); have HB_2 := Aside0.mk (below_step HB_1.out hb); clear HB_1; have Bg3_2 := Aside0.mk (blk_below Bg3_1.out hb); clear Bg3_1; have Bg6_2 := Aside0.mk hbox; clear hbox hb hgg) | ((with_reducible refine gate_dst (N := 8) rfl ?_); refine load1_event rfl _ _ rfl g3 2 rfl _ _ _ _ Bg3_2.out rfl Try.underlying33 rfl ?_) | ((with_reducible refine gate_store (t := 33) (p := 11) rfl ?_); refine store1_event rfl _ _ _ rfl g3 2 rfl (.int .u32 q2) _ ?hy _ _ #[.int .i64 sp, .int .i64 dp, .int .u32 q2, .int .u32 ak, .int .i64 fl, .int .i64 wi, .int .i64 ty, .int .i64 co, .int .i64 he, .int .i64 da] Bg3_2.out rfl (by kernel_rfl) rfl rfl rfl ?_; (case hy => first | (with_reducible rfl) | rfl | (refine congrArg (Value.int _) ?_; omega)); intro wx3 hst hu; have HB_3 := Aside0.mk (below_upd HB_2.out hu (below_size HB_2.out) (fun k hk => by cases hk; exact Lg3.out)); clear HB_2; have Bg6_3 := Aside0.mk (Upd.blk hu Bg6_2.out (One.not (Ne.symm Ng3g6.out))); clear Bg6_2; have Bg3_3 := Aside0.mk hst; clear hst hu Bg3_2))
  go_wp2_with (first | ((with_reducible refine gate_dst (N := 13) rfl ?_); refine load1_event rfl _ _ rfl g3 4 rfl _ _ _ _ Bg3_3.out rfl Try.underlying3 rfl ?_) | ((with_reducible refine gate_dst (N := 21) rfl ?_); refine load_event rfl 43 _ rfl g3 rfl _ _ _ Bg3_3.out Try.underlying43 rfl (by kernel_rfl) ?_) | ((with_reducible refine gate_store (t := 43) (p := 6) rfl ?_); refine store_event rfl 43 _ _ rfl g6 _ rfl rfl _ _ Bg6_3.out (by kernel_rfl) rfl rfl ?_; intro wx4 hst hu; have HB_4 := Aside0.mk (below_upd HB_3.out hu (below_size HB_3.out) (fun k hk => by cases hk; exact Lg6.out)); clear HB_3; have Bg3_4 := Aside0.mk (Upd.blk hu Bg3_3.out (One.not Ng3g6.out)); clear Bg3_3; have Bg6_4 := Aside0.mk hst; clear hst hu Bg6_3))
  exact bodyPost_ret (results_cell_row rfl _ _ g6 43 _ (0, 0) _ rfl Bg6_4.out Try.underlying43 rfl (by kernel_rfl)) rfl ⟨rfl, HB_4.out⟩
set_option maxRecDepth 100000 in
set_option maxHeartbeats 4000000 in
theorem moved_t (sp dp sq ak fl wi ty co he da a b q2 q3 : Int) (w : World) (hfl : (bits .and .i64 fl 16 == 0) = false) (h2 : (sq + a) % 4294967296 = q2) (h3 : (ak + b) % 4294967296 = q3) : Calls Try.prog 29 #[.agg #[.int .i64 sp, .int .i64 dp, .int .u32 sq, .int .u32 ak, .int .i64 fl, .int .i64 wi, .int .i64 ty, .int .i64 co, .int .i64 he, .int .i64 da], .int .u32 a, .int .u32 b] w fun e w' => e = .returned (.agg #[.int .i64 sp, .int .i64 dp, .int .u32 q2, .int .u32 q3, .int .i64 fl, .int .i64 wi, .int .i64 ty, .int .i64 co, .int .i64 he, .int .i64 da]) ∧ Below w.heap.size w w' := by
  go_enter Try.func29, Try.ntmps29
  go_upto_region 2 with (first | ((with_reducible refine gate_dst (N := 3) rfl ?_); refine box_event ?hg (N := 3) ?hd (cs := #[.int .i64 sp, .int .i64 dp, .int .u32 sq, .int .u32 ak, .int .i64 fl, .int .i64 wi, .int .i64 ty, .int .i64 co, .int .i64 he, .int .i64 da]) (t := 43) ?hr ?_; (case hd => rfl); (case hg => rfl); (case hr => first | (go_simp; done) | (go_simp; rfl)); intro g3 hgg wx1 hbox hb; have Lg3 := Aside0.mk (show w.heap.size ≤ g3 by rw [hgg]; exact Nat.le_refl _); have HB_1 := Aside0.mk (hb); have Bg3_1 := Aside0.mk hbox; clear hbox hb hgg) | ((with_reducible refine gate_dst (N := 6) rfl ?_); refine box_event ?hg (N := 6) ?hd (cs := #[.int .i64 0, .int .i64 0, .int .u32 0, .int .u32 0, .int .i64 0, .int .i64 0, .int .i64 0, .int .i64 0, .int .i64 0, .int .i64 0]) (t := 43) ?hr ?_; (case hd => rfl); (case hg => rfl); (case hr => first | (go_simp; done) | (go_simp; rfl)); intro g6 hgg wx2 hbox hb; have Ng3g6 := Aside0.mk (show g3 ≠ g6 by rw [hgg]; exact Nat.ne_of_lt (blk_lt Bg3_1.out)); have Lg6 := Aside0.mk (show w.heap.size ≤ g6 by rw [hgg]; exact below_size HB_1.out); have HB_2 := Aside0.mk (below_step HB_1.out hb); clear HB_1; have Bg3_2 := Aside0.mk (blk_below Bg3_1.out hb); clear Bg3_1; have Bg6_2 := Aside0.mk hbox; clear hbox hb hgg) | ((with_reducible refine gate_dst (N := 8) rfl ?_); refine load1_event rfl _ _ rfl g3 2 rfl _ _ _ _ Bg3_2.out rfl Try.underlying33 rfl ?_) | ((with_reducible refine gate_store (t := 33) (p := 11) rfl ?_); refine store1_event rfl _ _ _ rfl g3 2 rfl (.int .u32 q2) _ ?hy _ _ #[.int .i64 sp, .int .i64 dp, .int .u32 q2, .int .u32 ak, .int .i64 fl, .int .i64 wi, .int .i64 ty, .int .i64 co, .int .i64 he, .int .i64 da] Bg3_2.out rfl (by kernel_rfl) rfl rfl rfl ?_; (case hy => first | (with_reducible rfl) | rfl | (refine congrArg (Value.int _) ?_; omega)); intro wx3 hst hu; have HB_3 := Aside0.mk (below_upd HB_2.out hu (below_size HB_2.out) (fun k hk => by cases hk; exact Lg3.out)); clear HB_2; have Bg6_3 := Aside0.mk (Upd.blk hu Bg6_2.out (One.not (Ne.symm Ng3g6.out))); clear Bg6_2; have Bg3_3 := Aside0.mk hst; clear hst hu Bg3_2))
  go_wp2_with (first | ((with_reducible refine gate_dst (N := 13) rfl ?_); refine load1_event rfl _ _ rfl g3 4 rfl _ _ _ _ Bg3_3.out rfl Try.underlying3 rfl ?_) | ((with_reducible refine gate_dst (N := 17) rfl ?_); refine load1_event rfl _ _ rfl g3 3 rfl _ _ _ _ Bg3_3.out rfl Try.underlying33 rfl ?_) | ((with_reducible refine gate_store (t := 33) (p := 20) rfl ?_); refine store1_event rfl _ _ _ rfl g3 3 rfl (.int .u32 q3) _ ?hy _ _ #[.int .i64 sp, .int .i64 dp, .int .u32 q2, .int .u32 q3, .int .i64 fl, .int .i64 wi, .int .i64 ty, .int .i64 co, .int .i64 he, .int .i64 da] Bg3_3.out rfl (by kernel_rfl) rfl rfl rfl ?_; (case hy => first | (with_reducible rfl) | rfl | (refine congrArg (Value.int _) ?_; omega)); intro wx4 hst hu; have HB_4 := Aside0.mk (below_upd HB_3.out hu (below_size HB_3.out) (fun k hk => by cases hk; exact Lg3.out)); clear HB_3; have Bg6_4 := Aside0.mk (Upd.blk hu Bg6_3.out (One.not (Ne.symm Ng3g6.out))); clear Bg6_3; have Bg3_4 := Aside0.mk hst; clear hst hu Bg3_3) | ((with_reducible refine gate_dst (N := 21) rfl ?_); refine load_event rfl 43 _ rfl g3 rfl _ _ _ Bg3_4.out Try.underlying43 rfl (by kernel_rfl) ?_) | ((with_reducible refine gate_store (t := 43) (p := 6) rfl ?_); refine store_event rfl 43 _ _ rfl g6 _ rfl rfl _ _ Bg6_4.out (by kernel_rfl) rfl rfl ?_; intro wx5 hst hu; have HB_5 := Aside0.mk (below_upd HB_4.out hu (below_size HB_4.out) (fun k hk => by cases hk; exact Lg6.out)); clear HB_4; have Bg3_5 := Aside0.mk (Upd.blk hu Bg3_4.out (One.not Ng3g6.out)); clear Bg3_4; have Bg6_5 := Aside0.mk hst; clear hst hu Bg6_4))
  exact bodyPost_ret (results_cell_row rfl _ _ g6 43 _ (0, 0) _ rfl Bg6_5.out Try.underlying43 rfl (by kernel_rfl)) rfl ⟨rfl, HB_5.out⟩
theorem moved_as (t : Tr) (a b q2 q3 : Int) (h2 : (t.sq + a) % 4294967296 = q2) (h3 : (if flag t.fl 16 then (t.ak + b) % 4294967296 else t.ak) = q3) (w : World) : Calls Try.prog 29 #[t.val, .int .u32 a, .int .u32 b] w fun e w' => e = .returned (.agg #[.int .i64 t.sp, .int .i64 t.dp, .int .u32 q2, .int .u32 q3, .int .i64 t.fl, .int .i64 t.wi, .int .i64 t.ty, .int .i64 t.co, .int .i64 t.he, .int .i64 t.da]) ∧ Below w.heap.size w w' := by
  rcases hf : flag t.fl 16 with _ | _
  · rw [hf] at h3
    exact moved_f t.sp t.dp t.sq t.ak t.fl t.wi t.ty t.co t.he t.da a b q2 q3 w (by have h : (bits .and .i64 t.fl 16 != 0) = false := hf; simpa using h) h2 h3
  · rw [hf] at h3
    exact moved_t t.sp t.dp t.sq t.ak t.fl t.wi t.ty t.co t.he t.da a b q2 q3 w (by have h : (bits .and .i64 t.fl 16 != 0) = true := hf; simpa using h) h2 h3
theorem script_ok {W : World} {ad : Addr} {c : Nat} {l : List (Bool × Tr)} (h : ScriptIn W (some ad) c l) {k : Nat} {x : Bool × Tr} (hk : l[k]? = some x) : TrOk x.2 := by
  obtain ⟨_, _, _, _, ho⟩ := h.step (Below.refl _ _) hk
  exact ho
set_option maxRecDepth 100000 in
set_option maxHeartbeats 16000000 in
theorem walk (t0 : Tr) (A : Option Addr) (c : Nat) (l : List (Bool × Tr)) (a b : Int) (w : World) (h0 : TrOk t0) (hl : ScriptIn w A c l) (ha : (Lit.int .u32 a).wf = true) (hb : (Lit.int .u32 b).wf = true) :
    Calls Try.prog 8 #[t0.val, .slice A l.length c, .int .u32 a, .int .u32 b] w fun e w' => e = .returned (.bool true) ∧ Below w.heap.size w w' := by
  have HS := Aside0.mk hl
  clear h0 hl ha hb
  by_cases hbig : l.length ≤ 4096
  case neg =>
    have hb1 : (l.length : Int) > 4096 := by omega
    go_enter Try.func8, Try.ntmps8
    go_wp2
    go_ret
    exact ⟨rfl, (Below.refl _ _).alloc (Nat.le_refl _) _⟩
  have hb1 : decide ((4096 : Int) < l.length) = false := decide_eq_false (by omega)
  have HL := Aside0.mk hbig
  clear hbig
  obtain ⟨p0, p1, p2, p3, p4, p5, p6, p7, p8, p9⟩ := t0
  obtain ⟨q2, hq2⟩ : ∃ q, (p2 + a) % 4294967296 = q := ⟨_, rfl⟩
  obtain ⟨q3, hq3⟩ : ∃ q, (if flag p4 16 then (p3 + b) % 4294967296 else p3) = q := ⟨_, rfl⟩
  have hoc := opened_moved ⟨p0, p1, p2, p3, p4, p5, p6, p7, p8, p9⟩ a b q2 q3 hq2
  have HQ2 := Aside0.mk hq2
  have HQ3 := Aside0.mk hq3
  clear hq2 hq3
  replace hoc := Aside0.mk hoc
  obtain ⟨ho1, ho2⟩ | ⟨e0, m0, d0, n0, ho1, ho2, hr0⟩ := hoc.out
  · clear hoc
    replace ho1 := Aside0.mk ho1
    replace ho2 := Aside0.mk ho2
    go_enter Try.func8, Try.ntmps8
    go_upto_region 4 with (first | ((with_reducible refine gate_dst (N := 4) rfl ?_); refine box_event ?hg (N := 4) ?hd (cs := #[.int .i64 p0, .int .i64 p1, .int .u32 p2, .int .u32 p3, .int .i64 p4, .int .i64 p5, .int .i64 p6, .int .i64 p7, .int .i64 p8, .int .i64 p9]) (t := 43) ?hr ?_; (case hd => rfl); (case hg => rfl); (case hr => first | (go_simp; done) | (go_simp; rfl)); intro g4 hgg wx1 hbox hb; have Lg4 := Aside0.mk (show w.heap.size ≤ g4 by rw [hgg]; exact Nat.le_refl _); have HB_1 := Aside0.mk (hb); have Bg4_1 := Aside0.mk hbox; clear hbox hb hgg) | ((with_reducible refine gate_dst (N := 21) rfl ?_); refine load_event rfl 43 _ rfl g4 rfl _ _ _ Bg4_1.out Try.underlying43 rfl (by kernel_rfl) ?_) | (go_at_call 28; refine (open_is ⟨p0, p1, p2, p3, p4, p5, p6, p7, p8, p9⟩ Cn.zero false ho1.out _).mono ?_; rintro e wx2 ⟨rfl, hb⟩; have HB_2 := Aside0.mk (below_step HB_1.out hb); clear HB_1; have Bg4_2 := Aside0.mk (blk_below Bg4_1.out hb); clear Bg4_1; clear hb) | ((with_reducible refine gate_dst (N := 9) rfl ?_); refine box_event ?hg (N := 9) ?hd (cs := #[.int .i64 0, .bool false, .int .u32 0, .int .u32 0, .bool false, .bool false, .int .u32 0, .int .u32 0, .bool false]) (t := 41) ?hr ?_; (case hd => rfl); (case hg => rfl); (case hr => first | (go_simp; done) | (go_simp; rfl)); intro g9 hgg wx3 hbox hb; have Ng4g9 := Aside0.mk (show g4 ≠ g9 by rw [hgg]; exact Nat.ne_of_lt (blk_lt Bg4_2.out)); have Lg9 := Aside0.mk (show w.heap.size ≤ g9 by rw [hgg]; exact below_size HB_2.out); have HB_3 := Aside0.mk (below_step HB_2.out hb); clear HB_2; have Bg4_3 := Aside0.mk (blk_below Bg4_2.out hb); clear Bg4_2; have Bg9_3 := Aside0.mk hbox; clear hbox hb hgg) | ((with_reducible refine gate_store (t := 41) (p := 9) rfl ?_); refine store_event rfl 41 _ _ rfl g9 _ rfl rfl _ _ Bg9_3.out (by kernel_rfl) rfl rfl ?_; intro wx4 hst hu; have HB_4 := Aside0.mk (below_upd HB_3.out hu (below_size HB_3.out) (fun k hk => by cases hk; exact Lg9.out)); clear HB_3; have Bg4_4 := Aside0.mk (Upd.blk hu Bg4_3.out (One.not Ng4g9.out)); clear Bg4_3; have Bg9_4 := Aside0.mk hst; clear hst hu Bg9_3))
    go_upto_region 5 with (first | ((with_reducible refine gate_dst (N := 26) rfl ?_); refine load_event rfl 43 _ rfl g4 rfl _ _ _ Bg4_4.out Try.underlying43 rfl (by kernel_rfl) ?_) | (go_at_call 29; refine (moved_as ⟨p0, p1, p2, p3, p4, p5, p6, p7, p8, p9⟩ a b q2 q3 HQ2.out HQ3.out _).mono ?_; rintro e wx5 ⟨rfl, hb⟩; have HB_5 := Aside0.mk (below_step HB_4.out hb); clear HB_4; have Bg4_5 := Aside0.mk (blk_below Bg4_4.out hb); clear Bg4_4; have Bg9_5 := Aside0.mk (blk_below Bg9_4.out hb); clear Bg9_4; clear hb) | (go_at_call 28; refine (open_is ⟨p0, p1, q2, q3, p4, p5, p6, p7, p8, p9⟩ Cn.zero false ho2.out _).mono ?_; rintro e wx6 ⟨rfl, hb⟩; have HB_6 := Aside0.mk (below_step HB_5.out hb); clear HB_5; have Bg4_6 := Aside0.mk (blk_below Bg4_5.out hb); clear Bg4_5; have Bg9_6 := Aside0.mk (blk_below Bg9_5.out hb); clear Bg9_5; clear hb) | ((with_reducible refine gate_dst (N := 11) rfl ?_); refine box_event ?hg (N := 11) ?hd (cs := #[.int .i64 0, .bool false, .int .u32 0, .int .u32 0, .bool false, .bool false, .int .u32 0, .int .u32 0, .bool false]) (t := 41) ?hr ?_; (case hd => rfl); (case hg => rfl); (case hr => first | (go_simp; done) | (go_simp; rfl)); intro g11 hgg wx7 hbox hb; have Ng4g11 := Aside0.mk (show g4 ≠ g11 by rw [hgg]; exact Nat.ne_of_lt (blk_lt Bg4_6.out)); have Ng9g11 := Aside0.mk (show g9 ≠ g11 by rw [hgg]; exact Nat.ne_of_lt (blk_lt Bg9_6.out)); have Lg11 := Aside0.mk (show w.heap.size ≤ g11 by rw [hgg]; exact below_size HB_6.out); have HB_7 := Aside0.mk (below_step HB_6.out hb); clear HB_6; have Bg4_7 := Aside0.mk (blk_below Bg4_6.out hb); clear Bg4_6; have Bg9_7 := Aside0.mk (blk_below Bg9_6.out hb); clear Bg9_6; have Bg11_7 := Aside0.mk hbox; clear hbox hb hgg) | ((with_reducible refine gate_store (t := 41) (p := 11) rfl ?_); refine store_event rfl 41 _ _ rfl g11 _ rfl rfl _ _ Bg11_7.out (by kernel_rfl) rfl rfl ?_; intro wx8 hst hu; have HB_8 := Aside0.mk (below_upd HB_7.out hu (below_size HB_7.out) (fun k hk => by cases hk; exact Lg11.out)); clear HB_7; have Bg4_8 := Aside0.mk (Upd.blk hu Bg4_7.out (One.not Ng4g11.out)); clear Bg4_7; have Bg9_8 := Aside0.mk (Upd.blk hu Bg9_7.out (One.not Ng9g11.out)); clear Bg9_7; have Bg11_8 := Aside0.mk hst; clear hst hu Bg11_7))
    go_wp2_with (first | ((with_reducible refine gate_dst (N := 34) rfl ?_); refine load_event rfl 43 _ rfl g4 rfl _ _ _ Bg4_8.out Try.underlying43 rfl (by kernel_rfl) ?_) | (go_at_call 30; refine (ropen_is ⟨p0, p1, p2, p3, p4, p5, p6, p7, p8, p9⟩ Cn.zero false ho1.out _).mono ?_; rintro e wx9 ⟨rfl, hb⟩; have HB_9 := Aside0.mk (below_step HB_8.out hb); clear HB_8; have Bg4_9 := Aside0.mk (blk_below Bg4_8.out hb); clear Bg4_8; have Bg9_9 := Aside0.mk (blk_below Bg9_8.out hb); clear Bg9_8; have Bg11_9 := Aside0.mk (blk_below Bg11_8.out hb); clear Bg11_8; clear hb) | ((with_reducible refine gate_dst (N := 13) rfl ?_); refine box_event ?hg (N := 13) ?hd (cs := #[.int .i64 0, .bool false, .int .u32 0, .int .u32 0, .bool false, .bool false, .int .u32 0, .int .u32 0, .bool false]) (t := 48) ?hr ?_; (case hd => rfl); (case hg => rfl); (case hr => first | (go_simp; done) | (go_simp; rfl)); intro g13 hgg wx10 hbox hb; have Ng4g13 := Aside0.mk (show g4 ≠ g13 by rw [hgg]; exact Nat.ne_of_lt (blk_lt Bg4_9.out)); have Ng9g13 := Aside0.mk (show g9 ≠ g13 by rw [hgg]; exact Nat.ne_of_lt (blk_lt Bg9_9.out)); have Ng11g13 := Aside0.mk (show g11 ≠ g13 by rw [hgg]; exact Nat.ne_of_lt (blk_lt Bg11_9.out)); have Lg13 := Aside0.mk (show w.heap.size ≤ g13 by rw [hgg]; exact below_size HB_9.out); have HB_10 := Aside0.mk (below_step HB_9.out hb); clear HB_9; have Bg4_10 := Aside0.mk (blk_below Bg4_9.out hb); clear Bg4_9; have Bg9_10 := Aside0.mk (blk_below Bg9_9.out hb); clear Bg9_9; have Bg11_10 := Aside0.mk (blk_below Bg11_9.out hb); clear Bg11_9; have Bg13_10 := Aside0.mk hbox; clear hbox hb hgg) | ((with_reducible refine gate_store (t := 48) (p := 13) rfl ?_); refine store_event rfl 48 _ _ rfl g13 _ rfl rfl _ _ Bg13_10.out (by kernel_rfl) rfl rfl ?_; intro wx11 hst hu; have HB_11 := Aside0.mk (below_upd HB_10.out hu (below_size HB_10.out) (fun k hk => by cases hk; exact Lg13.out)); clear HB_10; have Bg4_11 := Aside0.mk (Upd.blk hu Bg4_10.out (One.not Ng4g13.out)); clear Bg4_10; have Bg9_11 := Aside0.mk (Upd.blk hu Bg9_10.out (One.not Ng9g13.out)); clear Bg9_10; have Bg11_11 := Aside0.mk (Upd.blk hu Bg11_10.out (One.not Ng11g13.out)); clear Bg11_10; have Bg13_11 := Aside0.mk hst; clear hst hu Bg13_10) | ((with_reducible refine gate_dst (N := 48) rfl ?_); refine load_event rfl 41 _ rfl g9 rfl _ _ _ Bg9_11.out Try.underlying41 rfl (by kernel_rfl) ?_))
    go_ret
    exact ⟨rfl, HB_11.out⟩
  · clear hoc
    replace ho1 := Aside0.mk ho1
    replace ho2 := Aside0.mk ho2
    replace hr0 := Aside0.mk hr0
    go_enter Try.func8, Try.ntmps8
    go_upto_region 4 with (first | ((with_reducible refine gate_dst (N := 4) rfl ?_); refine box_event ?hg (N := 4) ?hd (cs := #[.int .i64 p0, .int .i64 p1, .int .u32 p2, .int .u32 p3, .int .i64 p4, .int .i64 p5, .int .i64 p6, .int .i64 p7, .int .i64 p8, .int .i64 p9]) (t := 43) ?hr ?_; (case hd => rfl); (case hg => rfl); (case hr => first | (go_simp; done) | (go_simp; rfl)); intro g4 hgg wx1 hbox hb; have Lg4 := Aside0.mk (show w.heap.size ≤ g4 by rw [hgg]; exact Nat.le_refl _); have HB_1 := Aside0.mk (hb); have Bg4_1 := Aside0.mk hbox; clear hbox hb hgg) | ((with_reducible refine gate_dst (N := 21) rfl ?_); refine load_event rfl 43 _ rfl g4 rfl _ _ _ Bg4_1.out Try.underlying43 rfl (by kernel_rfl) ?_) | (go_at_call 28; refine (open_is ⟨p0, p1, p2, p3, p4, p5, p6, p7, p8, p9⟩ ⟨1, ⟨true, e0, m0, false⟩, ⟨false, 0, 0, false⟩⟩ true ho1.out _).mono ?_; rintro e wx2 ⟨rfl, hb⟩; have HB_2 := Aside0.mk (below_step HB_1.out hb); clear HB_1; have Bg4_2 := Aside0.mk (blk_below Bg4_1.out hb); clear Bg4_1; clear hb) | ((with_reducible refine gate_dst (N := 9) rfl ?_); refine box_event ?hg (N := 9) ?hd (cs := #[.int .i64 0, .bool false, .int .u32 0, .int .u32 0, .bool false, .bool false, .int .u32 0, .int .u32 0, .bool false]) (t := 41) ?hr ?_; (case hd => rfl); (case hg => rfl); (case hr => first | (go_simp; done) | (go_simp; rfl)); intro g9 hgg wx3 hbox hb; have Ng4g9 := Aside0.mk (show g4 ≠ g9 by rw [hgg]; exact Nat.ne_of_lt (blk_lt Bg4_2.out)); have Lg9 := Aside0.mk (show w.heap.size ≤ g9 by rw [hgg]; exact below_size HB_2.out); have HB_3 := Aside0.mk (below_step HB_2.out hb); clear HB_2; have Bg4_3 := Aside0.mk (blk_below Bg4_2.out hb); clear Bg4_2; have Bg9_3 := Aside0.mk hbox; clear hbox hb hgg) | ((with_reducible refine gate_store (t := 41) (p := 9) rfl ?_); refine store_event rfl 41 _ _ rfl g9 _ rfl rfl _ _ Bg9_3.out (by kernel_rfl) rfl rfl ?_; intro wx4 hst hu; have HB_4 := Aside0.mk (below_upd HB_3.out hu (below_size HB_3.out) (fun k hk => by cases hk; exact Lg9.out)); clear HB_3; have Bg4_4 := Aside0.mk (Upd.blk hu Bg4_3.out (One.not Ng4g9.out)); clear Bg4_3; have Bg9_4 := Aside0.mk hst; clear hst hu Bg9_3))
    go_upto_region 5 with (first | ((with_reducible refine gate_dst (N := 26) rfl ?_); refine load_event rfl 43 _ rfl g4 rfl _ _ _ Bg4_4.out Try.underlying43 rfl (by kernel_rfl) ?_) | (go_at_call 29; refine (moved_as ⟨p0, p1, p2, p3, p4, p5, p6, p7, p8, p9⟩ a b q2 q3 HQ2.out HQ3.out _).mono ?_; rintro e wx5 ⟨rfl, hb⟩; have HB_5 := Aside0.mk (below_step HB_4.out hb); clear HB_4; have Bg4_5 := Aside0.mk (blk_below Bg4_4.out hb); clear Bg4_4; have Bg9_5 := Aside0.mk (blk_below Bg9_4.out hb); clear Bg9_4; clear hb) | (go_at_call 28; refine (open_is ⟨p0, p1, q2, q3, p4, p5, p6, p7, p8, p9⟩ ⟨1, ⟨true, d0, n0, false⟩, ⟨false, 0, 0, false⟩⟩ true ho2.out _).mono ?_; rintro e wx6 ⟨rfl, hb⟩; have HB_6 := Aside0.mk (below_step HB_5.out hb); clear HB_5; have Bg4_6 := Aside0.mk (blk_below Bg4_5.out hb); clear Bg4_5; have Bg9_6 := Aside0.mk (blk_below Bg9_5.out hb); clear Bg9_5; clear hb) | ((with_reducible refine gate_dst (N := 11) rfl ?_); refine box_event ?hg (N := 11) ?hd (cs := #[.int .i64 0, .bool false, .int .u32 0, .int .u32 0, .bool false, .bool false, .int .u32 0, .int .u32 0, .bool false]) (t := 41) ?hr ?_; (case hd => rfl); (case hg => rfl); (case hr => first | (go_simp; done) | (go_simp; rfl)); intro g11 hgg wx7 hbox hb; have Ng4g11 := Aside0.mk (show g4 ≠ g11 by rw [hgg]; exact Nat.ne_of_lt (blk_lt Bg4_6.out)); have Ng9g11 := Aside0.mk (show g9 ≠ g11 by rw [hgg]; exact Nat.ne_of_lt (blk_lt Bg9_6.out)); have Lg11 := Aside0.mk (show w.heap.size ≤ g11 by rw [hgg]; exact below_size HB_6.out); have HB_7 := Aside0.mk (below_step HB_6.out hb); clear HB_6; have Bg4_7 := Aside0.mk (blk_below Bg4_6.out hb); clear Bg4_6; have Bg9_7 := Aside0.mk (blk_below Bg9_6.out hb); clear Bg9_6; have Bg11_7 := Aside0.mk hbox; clear hbox hb hgg) | ((with_reducible refine gate_store (t := 41) (p := 11) rfl ?_); refine store_event rfl 41 _ _ rfl g11 _ rfl rfl _ _ Bg11_7.out (by kernel_rfl) rfl rfl ?_; intro wx8 hst hu; have HB_8 := Aside0.mk (below_upd HB_7.out hu (below_size HB_7.out) (fun k hk => by cases hk; exact Lg11.out)); clear HB_7; have Bg4_8 := Aside0.mk (Upd.blk hu Bg4_7.out (One.not Ng4g11.out)); clear Bg4_7; have Bg9_8 := Aside0.mk (Upd.blk hu Bg9_7.out (One.not Ng9g11.out)); clear Bg9_7; have Bg11_8 := Aside0.mk hst; clear hst hu Bg11_7))
    go_upto_region 11 with (first | ((with_reducible refine gate_dst (N := 34) rfl ?_); refine load_event rfl 43 _ rfl g4 rfl _ _ _ Bg4_8.out Try.underlying43 rfl (by kernel_rfl) ?_) | (go_at_call 30; refine (ropen_is ⟨p0, p1, p2, p3, p4, p5, p6, p7, p8, p9⟩ ⟨1, ⟨true, e0, m0, false⟩, ⟨false, 0, 0, false⟩⟩ true ho1.out _).mono ?_; rintro e wx9 ⟨rfl, hb⟩; have HB_9 := Aside0.mk (below_step HB_8.out hb); clear HB_8; have Bg4_9 := Aside0.mk (blk_below Bg4_8.out hb); clear Bg4_8; have Bg9_9 := Aside0.mk (blk_below Bg9_8.out hb); clear Bg9_8; have Bg11_9 := Aside0.mk (blk_below Bg11_8.out hb); clear Bg11_8; clear hb) | ((with_reducible refine gate_dst (N := 13) rfl ?_); refine box_event ?hg (N := 13) ?hd (cs := #[.int .i64 0, .bool false, .int .u32 0, .int .u32 0, .bool false, .bool false, .int .u32 0, .int .u32 0, .bool false]) (t := 48) ?hr ?_; (case hd => rfl); (case hg => rfl); (case hr => first | (go_simp; done) | (go_simp; rfl)); intro g13 hgg wx10 hbox hb; have Ng4g13 := Aside0.mk (show g4 ≠ g13 by rw [hgg]; exact Nat.ne_of_lt (blk_lt Bg4_9.out)); have Ng9g13 := Aside0.mk (show g9 ≠ g13 by rw [hgg]; exact Nat.ne_of_lt (blk_lt Bg9_9.out)); have Ng11g13 := Aside0.mk (show g11 ≠ g13 by rw [hgg]; exact Nat.ne_of_lt (blk_lt Bg11_9.out)); have Lg13 := Aside0.mk (show w.heap.size ≤ g13 by rw [hgg]; exact below_size HB_9.out); have HB_10 := Aside0.mk (below_step HB_9.out hb); clear HB_9; have Bg4_10 := Aside0.mk (blk_below Bg4_9.out hb); clear Bg4_9; have Bg9_10 := Aside0.mk (blk_below Bg9_9.out hb); clear Bg9_9; have Bg11_10 := Aside0.mk (blk_below Bg11_9.out hb); clear Bg11_9; have Bg13_10 := Aside0.mk hbox; clear hbox hb hgg) | ((with_reducible refine gate_store (t := 48) (p := 13) rfl ?_); refine store_event rfl 48 _ _ rfl g13 _ rfl rfl _ _ Bg13_10.out (by kernel_rfl) rfl rfl ?_; intro wx11 hst hu; have HB_11 := Aside0.mk (below_upd HB_10.out hu (below_size HB_10.out) (fun k hk => by cases hk; exact Lg13.out)); clear HB_10; have Bg4_11 := Aside0.mk (Upd.blk hu Bg4_10.out (One.not Ng4g13.out)); clear Bg4_10; have Bg9_11 := Aside0.mk (Upd.blk hu Bg9_10.out (One.not Ng9g13.out)); clear Bg9_10; have Bg11_11 := Aside0.mk (Upd.blk hu Bg11_10.out (One.not Ng11g13.out)); clear Bg11_10; have Bg13_11 := Aside0.mk hst; clear hst hu Bg13_10))
    have HC0 : Aside0 (∃ (st e1 m1 d1 n1 e2 m2 d2 n2 : Int) (f1 s2 f2 : Bool), CnR a b ⟨st, ⟨true, e1, m1, f1⟩, ⟨s2, e2, m2, f2⟩⟩ ⟨st, ⟨true, d1, n1, f1⟩, ⟨s2, d2, n2, f2⟩⟩ ∧ wx11.heap[g9]? = some (.cells #[.int .i64 st, .bool true, .int .u32 e1, .int .u32 m1, .bool f1, .bool s2, .int .u32 e2, .int .u32 m2, .bool f2] 41 (0, 0)) ∧ wx11.heap[g11]? = some (.cells #[.int .i64 st, .bool true, .int .u32 d1, .int .u32 n1, .bool f1, .bool s2, .int .u32 d2, .int .u32 n2, .bool f2] 41 (0, 0))) := ⟨_, _, _, _, _, _, _, _, _, _, _, _, hr0.out, Bg9_11.out, Bg11_11.out⟩
    clear Bg9_11 Bg11_11 Bg13_11 Bg4_11 ho1 ho2 hr0 HQ2 HQ3
    go_loopw [15, 16, 10, 12] (fun i v16 v10 v12 wr => ∃ (k : Nat), k ≤ l.length ∧ i = .int .i64 k ∧ Aside0 (∃ (st e1 m1 d1 n1 e2 m2 d2 n2 : Int) (f1 s2 f2 : Bool), CnR a b ⟨st, ⟨true, e1, m1, f1⟩, ⟨s2, e2, m2, f2⟩⟩ ⟨st, ⟨true, d1, n1, f1⟩, ⟨s2, d2, n2, f2⟩⟩ ∧ wr.heap[g9]? = some (.cells #[.int .i64 st, .bool true, .int .u32 e1, .int .u32 m1, .bool f1, .bool s2, .int .u32 e2, .int .u32 m2, .bool f2] 41 (0, 0)) ∧ wr.heap[g11]? = some (.cells #[.int .i64 st, .bool true, .int .u32 d1, .int .u32 n1, .bool f1, .bool s2, .int .u32 d2, .int .u32 n2, .bool f2] 41 (0, 0))) ∧ Aside0 (Below w.heap.size w wr)) (fun i _ _ _ _ => l.length - (intOf i).toNat)
    case atStart => exact ⟨0, by omega, rfl, HC0, HB_11⟩
    case round =>
      clear HC0 HB_11
      obtain ⟨k, hk, rfl, HC, HB⟩ := hrel
      obtain ⟨st, e1, m1, d1, n1, e2, m2, d2, n2, f1, s2, f2, hrl, hblk, hblk2⟩ := HC.out
      have HR := Aside0.mk hrl
      have BC := Aside0.mk hblk
      have BD := Aside0.mk hblk2
      clear HC hblk hblk2 hrl
      by_cases hlt : k < l.length
      case neg =>
        obtain rfl : k = l.length := by omega
        go_wp2
        go_ret
        exact ⟨rfl, HB.out⟩
      have hx := List.getElem?_eq_getElem hlt
      generalize l[k] = x at hx
      obtain ⟨xb, sp, dp, sq, ak, fl, wi, ty, co, he, da⟩ := x
      have HX := Aside0.mk hx
      clear hx
      obtain ⟨ad, rfl⟩ := script_some HS.out HX.out
      have HLT := Aside0.mk hlt
      have hltd : decide ((k : Int) < (l.length : Int)) = true := decide_eq_true (by omega)
      have hk1 : IntKind.i64.wrap ((k : Int) + 1) = (k : Int) + 1 := by have := HL.out; rw [IntKind.wrap_i64]; omega
      obtain ⟨u2, hu2⟩ : ∃ q, (sq + a) % 4294967296 = q := ⟨_, rfl⟩
      obtain ⟨u3, hu3⟩ : ∃ q, (if flag fl 16 then (ak + b) % 4294967296 else ak) = q := ⟨_, rfl⟩
      obtain ⟨v2, hv2⟩ : ∃ q, (sq + b) % 4294967296 = q := ⟨_, rfl⟩
      obtain ⟨v3, hv3⟩ : ∃ q, (if flag fl 16 then (ak + a) % 4294967296 else ak) = q := ⟨_, rfl⟩
      have HU2 := Aside0.mk hu2
      have HU3 := Aside0.mk hu3
      have HV2 := Aside0.mk hv2
      have HV3 := Aside0.mk hv3
      clear hu2 hu3 hv2 hv3
      have hs0 := script_cell HS.out HB.out HX.out
      simp only at hs0
      go_upto_region 13 with fail
      go_upto_region 14 with (first | ((with_reducible refine gate_dst (N := 61) rfl ?_); refine loadmid_event rfl _ _ rfl _ _ rfl [.int .i64 sp, .int .i64 dp, .int .u32 sq, .int .u32 ak, .int .i64 fl, .int .i64 wi, .int .i64 ty, .int .i64 co, .int .i64 he, .int .i64 da] _ (script_range HS.out HB.out HX.out) Try.underlying43 rfl (by kernel_rfl) ?_) | (go_at_call 29; refine (moved_as ⟨sp, dp, sq, ak, fl, wi, ty, co, he, da⟩ a b u2 u3 HU2.out HU3.out _).mono ?_; rintro e wx51 ⟨rfl, hb⟩; have HB_51 := Aside0.mk (below_step HB.out hb); clear HB; have Bg9_51 := Aside0.mk (blk_below BC.out hb); clear BC; have Bg11_51 := Aside0.mk (blk_below BD.out hb); clear BD; clear hb) | ((with_reducible refine gate_dst (N := 16) rfl ?_); refine box_event ?hg (N := 16) ?hd (cs := #[.int .i64 0, .int .i64 0, .int .u32 0, .int .u32 0, .int .i64 0, .int .i64 0, .int .i64 0, .int .i64 0, .int .i64 0, .int .i64 0]) (t := 43) ?hr ?_; (case hd => rfl); (case hg => rfl); (case hr => first | (go_simp; done) | (go_simp; rfl)); intro g16 hgg wx52 hbox hb; have Ng9g16 := Aside0.mk (show g9 ≠ g16 by rw [hgg]; exact Nat.ne_of_lt (blk_lt Bg9_51.out)); have Ng11g16 := Aside0.mk (show g11 ≠ g16 by rw [hgg]; exact Nat.ne_of_lt (blk_lt Bg11_51.out)); have Lg16 := Aside0.mk (show w.heap.size ≤ g16 by rw [hgg]; exact below_size HB_51.out); have HB_52 := Aside0.mk (below_step HB_51.out hb); clear HB_51; have Bg9_52 := Aside0.mk (blk_below Bg9_51.out hb); clear Bg9_51; have Bg11_52 := Aside0.mk (blk_below Bg11_51.out hb); clear Bg11_51; have Bg16_52 := Aside0.mk hbox; clear hbox hb hgg) | ((with_reducible refine gate_store (t := 43) (p := 16) rfl ?_); refine store_event rfl 43 _ _ rfl g16 _ rfl rfl _ _ Bg16_52.out (by kernel_rfl) rfl rfl ?_; intro wx53 hst hu; have HB_53 := Aside0.mk (below_upd HB_52.out hu (below_size HB_52.out) (fun k hk => by cases hk; exact Lg16.out)); clear HB_52; have Bg9_53 := Aside0.mk (Upd.blk hu Bg9_52.out (One.not Ng9g16.out)); clear Bg9_52; have Bg11_53 := Aside0.mk (Upd.blk hu Bg11_52.out (One.not Ng11g16.out)); clear Bg11_52; have Bg16_53 := Aside0.mk hst; clear hst hu Bg16_52))
      clear hs0 hk
      have hs0 := script_cell HS.out HB_53.out HX.out
      simp only at hs0
      cases xb
      · have hsm := next_moved HR.out false ⟨sp, dp, sq, ak, fl, wi, ty, co, he, da⟩ (script_ok HS.out HX.out) u2 u3 HU2.out HU3.out 
        obtain ⟨⟨nt, ⟨ns1, ne1, nm1, nf1⟩, ⟨ns2, ne2, nm2, nf2⟩⟩, gd, hn⟩ : ∃ n gd, next ⟨st, ⟨true, e1, m1, f1⟩, ⟨s2, e2, m2, f2⟩⟩ false ⟨sp, dp, sq, ak, fl, wi, ty, co, he, da⟩ = (n, gd) := ⟨_, _, rfl⟩
        obtain ⟨⟨ot, ⟨os1, oe1, om1, of1⟩, ⟨os2, oe2, om2, of2⟩⟩, hd, ho⟩ : ∃ n gd, next ⟨st, ⟨true, d1, n1, f1⟩, ⟨s2, d2, n2, f2⟩⟩ false ⟨sp, dp, u2, u3, fl, wi, ty, co, he, da⟩ = (n, gd) := ⟨_, _, rfl⟩
        obtain ⟨y1, y2⟩ := hsm
        rw [hn, ho] at y1 y2
        replace y1 : hd = gd := y1
        replace y2 : CnR a b ⟨nt, ⟨ns1, ne1, nm1, nf1⟩, ⟨ns2, ne2, nm2, nf2⟩⟩ ⟨ot, ⟨os1, oe1, om1, of1⟩, ⟨os2, oe2, om2, of2⟩⟩ := y2
        have z1 : nt = ot := y2.st.symm
        have z2 : ns1 = true := y2.one
        have z3 : ns1 = os1 := y2.a.seen.symm
        have z4 : nf1 = of1 := y2.a.fin.symm
        have z5 : ns2 = os2 := y2.b.seen.symm
        have z6 : nf2 = of2 := y2.b.fin.symm
        replace y1 : gd = hd := y1.symm
        subst y1 z1 z3 z4 z5 z6
        subst z2
        have HR2 := Aside0.mk y2
        have HN := Aside0.mk hn
        have HO := Aside0.mk ho
        clear y2 hn ho
        go_upto_region 16 with (fail)
        clear hs0 hlt
        refine wp_region_rgv 17 (by kernel_rfl) (fun x y => Upd (One g9) x y) (PutV 15 g9 #[.int .i64 st, .bool true, .int .u32 e1, .int .u32 m1, .bool f1, .bool s2, .int .u32 e2, .int .u32 m2, .bool f2] #[.int .i64 nt, .bool true, .int .u32 ne1, .int .u32 nm1, .bool nf1, .bool ns2, .int .u32 ne2, .int .u32 nm2, .bool nf2] 41) (fun (i : Nat) (v : Value) (w1 : World) => match i with | 0 => v = (.agg #[.int .i64 st, .bool true, .int .u32 e1, .int .u32 m1, .bool f1, .bool s2, .int .u32 e2, .int .u32 m2, .bool f2]) | 1 => v = (.slice (some ad) l.length c) | 2 => v = (.int .i64 k) | 3 => v = (.pointer (some (ad.add (k * 11)))) | 4 => v = (.pointer (some (ad.add (k * 11)))) | 5 => v = (.bool false) | 6 => v = (.slice (some ad) l.length c) | 7 => v = (.int .i64 k) | 8 => v = (.pointer (some (ad.add (k * 11)))) | 9 => v = (.pointer (some ⟨(ad.add (k * 11)).block, (ad.add (k * 11)).off + 1, none⟩)) | 10 => v = (.agg #[.int .i64 sp, .int .i64 dp, .int .u32 sq, .int .u32 ak, .int .i64 fl, .int .i64 wi, .int .i64 ty, .int .i64 co, .int .i64 he, .int .i64 da]) | 11 => v = (.tuple #[.agg #[.int .i64 nt, .bool true, .int .u32 ne1, .int .u32 nm1, .bool nf1, .bool ns2, .int .u32 ne2, .int .u32 nm2, .bool nf2], .bool gd]) | 12 => v = (.tuple #[.agg #[.int .i64 nt, .bool true, .int .u32 ne1, .int .u32 nm1, .bool nf1, .bool ns2, .int .u32 ne2, .int .u32 nm2, .bool nf2], .bool gd]) | 13 => v = (.agg #[.int .i64 nt, .bool true, .int .u32 ne1, .int .u32 nm1, .bool nf1, .bool ns2, .int .u32 ne2, .int .u32 nm2, .bool nf2]) | 14 => v = (.bool gd) | 15 => True | 16 => v = (.bool gd) | _ => True) (by kernel_rfl) (by kernel_rfl) (by kernel_rfl) (by kernel_rfl) (fun _ _ _ h k => Upd.trans h k) (Upd.refl _ _).drew (putv_start (blk_drew Bg9_53.out)) ?hJst ?hObl ?hEnd
        case hJst =>
          intro i v wx wy hi hs0 hs1 hJi
          match i, hi with
          | 0, _ => exact hJi
          | 1, _ => exact hJi
          | 2, _ => exact hJi
          | 3, _ => exact hJi
          | 4, _ => exact hJi
          | 5, _ => exact hJi
          | 6, _ => exact hJi
          | 7, _ => exact hJi
          | 8, _ => exact hJi
          | 9, _ => exact hJi
          | 10, _ => exact hJi
          | 11, _ => exact hJi
          | 12, _ => exact hJi
          | 13, _ => exact hJi
          | 14, _ => exact hJi
          | 15, _ => replace hJi : (fun (v : Value) (w1 : World) => True) v wx := hJi; exact trivial
          | 16, _ => exact hJi
          | _ + 17, hi => exact absurd hi (by simp)
        case hObl =>
          refine ⟨?_, ?_, ?_, ?_, ?_, ?_, ?_, ?_, ?_, ?_, ?_, ?_, ?_, ?_, ?_, ?_, ?_,  trivial⟩
          · intro listed vals a wq K hD hst hv hcl hj haft hun hK
            have hKv := fun v h => hK v wq (Upd.refl _ _) (putv_other (by decide) hv) h
            have h9 := hD.out 9 rfl rfl
            replace hst : Upd (One g9) _ wq := hst
            clear hD hj haft
            have e9 := eval_of h9
            exact step_now (v := .agg #[.int .i64 st, .bool true, .int .u32 e1, .int .u32 m1, .bool f1, .bool s2, .int .u32 e2, .int .u32 m2, .bool f2]) (w' := wq) (wanted_free rfl) (rg_loadall rfl e9 (putv_not hv (not_yet (i := 0) (j := 15) hcl (by kernel_rfl) (by kernel_rfl) hun)) Try.underlying41 rfl (by kernel_rfl)) (hKv _ rfl)
          · intro listed vals a wq K hD hst hv hcl hj haft hun hK
            have hKv := fun v h => hK v wq (Upd.refl _ _) (putv_other (by decide) hv) h
            have h1 := hD.out 1 rfl rfl
            replace hst : Upd (One g9) _ wq := hst
            clear hD hj haft
            have e1 := eval_of h1
            refine step_now (v := .slice (some ad) l.length c) (w' := wq) (wanted_free rfl) ?_ (hKv _ rfl)
            clear hK hKv hv hcl hun
            first | (go_simp; done) | (go_simp; rfl) | (go_simp; (try simp only [IntKind.wrap_u32]); omega)
          · intro listed vals a wq K hD hst hv hcl hj haft hun hK
            have hKv := fun v h => hK v wq (Upd.refl _ _) (putv_other (by decide) hv) h
            have h15 := hD.out 15 rfl rfl
            replace hst : Upd (One g9) _ wq := hst
            clear hD hj haft
            have e15 := eval_of h15
            refine step_now (v := .int .i64 k) (w' := wq) (wanted_free rfl) ?_ (hKv _ rfl)
            clear hK hKv hv hcl hun
            first | (go_simp; done) | (go_simp; rfl) | (go_simp; (try simp only [IntKind.wrap_u32]); omega)
          · intro listed vals a wq K hD hst hv hcl hj haft hun hK
            have hKv := fun v h => hK v wq (Upd.refl _ _) (putv_other (by decide) hv) h
            obtain ⟨v80, h80, j80⟩ := hD.dep hj haft 1 80 rfl rfl
            replace j80 : v80 = (.slice (some ad) l.length c) := j80
            subst j80
            obtain ⟨v81, h81, j81⟩ := hD.dep hj haft 2 81 rfl rfl
            replace j81 : v81 = (.int .i64 k) := j81
            subst j81
            replace hst : Upd (One g9) _ wq := hst
            clear hD hj haft
            have e80 := eval_of h80
            have e81 := eval_of h81
            exact step_now (w' := wq) (wanted_free rfl) (rg_index rfl e80 e81 HLT.out) (hKv _ rfl)
          · intro listed vals a wq K hD hst hv hcl hj haft hun hK
            have hKv := fun v h => hK v wq (Upd.refl _ _) (putv_other (by decide) hv) h
            obtain ⟨v82, h82, j82⟩ := hD.dep hj haft 3 82 rfl rfl
            replace j82 : v82 = (.pointer (some (ad.add (k * 11)))) := j82
            subst j82
            replace hst : Upd (One g9) _ wq := hst
            clear hD hj haft
            have e82 := eval_of h82
            exact step_now (w' := wq) (wanted_free rfl) (rg_field0 rfl e82) (hKv _ rfl)
          · intro listed vals a wq K hD hst hv hcl hj haft hun hK
            have hKv := fun v h => hK v wq (Upd.refl _ _) (putv_other (by decide) hv) h
            obtain ⟨v83, h83, j83⟩ := hD.dep hj haft 4 83 rfl rfl
            replace j83 : v83 = (.pointer (some (ad.add (k * 11)))) := j83
            subst j83
            replace hst : Upd (One g9) _ wq := hst
            clear hD hj haft
            have e83 := eval_of h83
            exact step_now (w' := wq) (wanted_free rfl) (rg_loadcell rfl e83 (script_cell HS.out (below_upd HB_53.out hst (below_size HB_53.out) (fun k hk => by cases hk; exact Lg9.out)) HX.out) Try.underlying4 rfl) (hKv _ rfl)
          · intro listed vals a wq K hD hst hv hcl hj haft hun hK
            have hKv := fun v h => hK v wq (Upd.refl _ _) (putv_other (by decide) hv) h
            have h1 := hD.out 1 rfl rfl
            replace hst : Upd (One g9) _ wq := hst
            clear hD hj haft
            have e1 := eval_of h1
            refine step_now (v := .slice (some ad) l.length c) (w' := wq) (wanted_free rfl) ?_ (hKv _ rfl)
            clear hK hKv hv hcl hun
            first | (go_simp; done) | (go_simp; rfl) | (go_simp; (try simp only [IntKind.wrap_u32]); omega)
          · intro listed vals a wq K hD hst hv hcl hj haft hun hK
            have hKv := fun v h => hK v wq (Upd.refl _ _) (putv_other (by decide) hv) h
            have h15 := hD.out 15 rfl rfl
            replace hst : Upd (One g9) _ wq := hst
            clear hD hj haft
            have e15 := eval_of h15
            refine step_now (v := .int .i64 k) (w' := wq) (wanted_free rfl) ?_ (hKv _ rfl)
            clear hK hKv hv hcl hun
            first | (go_simp; done) | (go_simp; rfl) | (go_simp; (try simp only [IntKind.wrap_u32]); omega)
          · intro listed vals a wq K hD hst hv hcl hj haft hun hK
            have hKv := fun v h => hK v wq (Upd.refl _ _) (putv_other (by decide) hv) h
            obtain ⟨v85, h85, j85⟩ := hD.dep hj haft 6 85 rfl rfl
            replace j85 : v85 = (.slice (some ad) l.length c) := j85
            subst j85
            obtain ⟨v86, h86, j86⟩ := hD.dep hj haft 7 86 rfl rfl
            replace j86 : v86 = (.int .i64 k) := j86
            subst j86
            replace hst : Upd (One g9) _ wq := hst
            clear hD hj haft
            have e85 := eval_of h85
            have e86 := eval_of h86
            exact step_now (w' := wq) (wanted_free rfl) (rg_index rfl e85 e86 HLT.out) (hKv _ rfl)
          · intro listed vals a wq K hD hst hv hcl hj haft hun hK
            have hKv := fun v h => hK v wq (Upd.refl _ _) (putv_other (by decide) hv) h
            obtain ⟨v87, h87, j87⟩ := hD.dep hj haft 8 87 rfl rfl
            replace j87 : v87 = (.pointer (some (ad.add (k * 11)))) := j87
            subst j87
            replace hst : Upd (One g9) _ wq := hst
            clear hD hj haft
            have e87 := eval_of h87
            exact step_now (w' := wq) (wanted_free rfl) (rg_field1 rfl e87) (hKv _ rfl)
          · intro listed vals a wq K hD hst hv hcl hj haft hun hK
            have hKv := fun v h => hK v wq (Upd.refl _ _) (putv_other (by decide) hv) h
            obtain ⟨v88, h88, j88⟩ := hD.dep hj haft 9 88 rfl rfl
            replace j88 : v88 = (.pointer (some ⟨(ad.add (k * 11)).block, (ad.add (k * 11)).off + 1, none⟩)) := j88
            subst j88
            replace hst : Upd (One g9) _ wq := hst
            clear hD hj haft
            have e88 := eval_of h88
            exact step_now (v := .agg #[.int .i64 sp, .int .i64 dp, .int .u32 sq, .int .u32 ak, .int .i64 fl, .int .i64 wi, .int .i64 ty, .int .i64 co, .int .i64 he, .int .i64 da]) (w' := wq) (wanted_free rfl) (rg_loadmid rfl e88 (script_range HS.out (below_upd HB_53.out hst (below_size HB_53.out) (fun k hk => by cases hk; exact Lg9.out)) HX.out) Try.underlying43 rfl (by kernel_rfl)) (hKv _ rfl)
          · intro listed vals a wq K hD hst hv hcl hj haft hun hK
            have hKv := fun v h => hK v wq (Upd.refl _ _) (putv_other (by decide) hv) h
            obtain ⟨v79, h79, j79⟩ := hD.dep hj haft 0 79 rfl rfl
            replace j79 : v79 = (.agg #[.int .i64 st, .bool true, .int .u32 e1, .int .u32 m1, .bool f1, .bool s2, .int .u32 e2, .int .u32 m2, .bool f2]) := j79
            subst j79
            obtain ⟨v84, h84, j84⟩ := hD.dep hj haft 5 84 rfl rfl
            replace j84 : v84 = (.bool false) := j84
            subst j84
            obtain ⟨v89, h89, j89⟩ := hD.dep hj haft 10 89 rfl rfl
            replace j89 : v89 = (.agg #[.int .i64 sp, .int .i64 dp, .int .u32 sq, .int .u32 ak, .int .i64 fl, .int .i64 wi, .int .i64 ty, .int .i64 co, .int .i64 he, .int .i64 da]) := j89
            subst j89
            replace hst : Upd (One g9) _ wq := hst
            clear hD hj haft
            have e79 := eval_of h79
            have e84 := eval_of h84
            have e89 := eval_of h89
            refine step_call (f := 17) (args := #[.agg #[.int .i64 st, .bool true, .int .u32 e1, .int .u32 m1, .bool f1, .bool s2, .int .u32 e2, .int .u32 m2, .bool f2], .bool false, .agg #[.int .i64 sp, .int .i64 dp, .int .u32 sq, .int .u32 ak, .int .i64 fl, .int .i64 wi, .int .i64 ty, .int .i64 co, .int .i64 he, .int .i64 da]]) (wanted_free rfl) ?_ (next_as ⟨st, ⟨true, e1, m1, f1⟩, ⟨s2, e2, m2, f2⟩⟩ false ⟨sp, dp, sq, ak, fl, wi, ty, co, he, da⟩ _ ⟨true, ne1, nm1, _⟩ ⟨_, ne2, nm2, _⟩ _ HN.out wq) ?_
            · clear hK hKv hv hcl hun; first | (go_simp; done) | (go_simp; rfl)
            · rintro e w' ⟨rfl, hbq⟩; exact ⟨_, rfl, hK _ _ (Upd.of_below hbq (Nat.le_refl _) _) (putv_below (by decide) hv hbq) rfl⟩
          · intro listed vals a wq K hD hst hv hcl hj haft hun hK
            have hKv := fun v h => hK v wq (Upd.refl _ _) (putv_other (by decide) hv) h
            obtain ⟨v90, h90, j90⟩ := hD.dep hj haft 11 90 rfl rfl
            replace j90 : v90 = (.tuple #[.agg #[.int .i64 nt, .bool true, .int .u32 ne1, .int .u32 nm1, .bool nf1, .bool ns2, .int .u32 ne2, .int .u32 nm2, .bool nf2], .bool gd]) := j90
            subst j90
            replace hst : Upd (One g9) _ wq := hst
            clear hD hj haft
            have e90 := eval_of h90
            refine step_now (v := .tuple #[.agg #[.int .i64 nt, .bool true, .int .u32 ne1, .int .u32 nm1, .bool nf1, .bool ns2, .int .u32 ne2, .int .u32 nm2, .bool nf2], .bool gd]) (w' := wq) (wanted_free rfl) ?_ (hKv _ rfl)
            clear hK hKv hv hcl hun
            first | (go_simp; done) | (go_simp; rfl) | (go_simp; (try simp only [IntKind.wrap_u32]); omega)
          · intro listed vals a wq K hD hst hv hcl hj haft hun hK
            have hKv := fun v h => hK v wq (Upd.refl _ _) (putv_other (by decide) hv) h
            obtain ⟨v78, h78, j78⟩ := hD.dep hj haft 12 78 rfl rfl
            replace j78 : v78 = (.tuple #[.agg #[.int .i64 nt, .bool true, .int .u32 ne1, .int .u32 nm1, .bool nf1, .bool ns2, .int .u32 ne2, .int .u32 nm2, .bool nf2], .bool gd]) := j78
            subst j78
            replace hst : Upd (One g9) _ wq := hst
            clear hD hj haft
            have e78 := eval_of h78
            refine step_now (v := .agg #[.int .i64 nt, .bool true, .int .u32 ne1, .int .u32 nm1, .bool nf1, .bool ns2, .int .u32 ne2, .int .u32 nm2, .bool nf2]) (w' := wq) (wanted_free rfl) ?_ (hKv _ rfl)
            clear hK hKv hv hcl hun
            first | (go_simp; done) | (go_simp; rfl) | (go_simp; (try simp only [IntKind.wrap_u32]); omega)
          · intro listed vals a wq K hD hst hv hcl hj haft hun hK
            have hKv := fun v h => hK v wq (Upd.refl _ _) (putv_other (by decide) hv) h
            obtain ⟨v78, h78, j78⟩ := hD.dep hj haft 12 78 rfl rfl
            replace j78 : v78 = (.tuple #[.agg #[.int .i64 nt, .bool true, .int .u32 ne1, .int .u32 nm1, .bool nf1, .bool ns2, .int .u32 ne2, .int .u32 nm2, .bool nf2], .bool gd]) := j78
            subst j78
            replace hst : Upd (One g9) _ wq := hst
            clear hD hj haft
            have e78 := eval_of h78
            refine step_now (v := .bool gd) (w' := wq) (wanted_free rfl) ?_ (hKv _ rfl)
            clear hK hKv hv hcl hun
            first | (go_simp; done) | (go_simp; rfl) | (go_simp; (try simp only [IntKind.wrap_u32]); omega)
          · intro listed vals a wq K hD hst hv hcl hj haft hun hK
            obtain ⟨v91, h91, j91⟩ := hD.dep hj haft 13 91 rfl rfl
            replace j91 : v91 = (.agg #[.int .i64 nt, .bool true, .int .u32 ne1, .int .u32 nm1, .bool nf1, .bool ns2, .int .u32 ne2, .int .u32 nm2, .bool nf2]) := j91
            subst j91
            have h9 := hD.out 9 rfl rfl
            replace hst : Upd (One g9) _ wq := hst
            clear hD hj haft
            have e9 := eval_of h9
            have e91 := eval_of h91
            refine rg_step_store (cells := #[.int .i64 nt, .bool true, .int .u32 ne1, .int .u32 nm1, .bool nf1, .bool ns2, .int .u32 ne2, .int .u32 nm2, .bool nf2]) (W0 := wq) (wanted_free rfl) rfl e9 e91 (putv_not hv (un_of hun)) (stput_refl _ _ _) (by kernel_rfl) rfl rfl (fun w2 hs2 hg2 => hK _ w2 hs2.1 (putv_self hg2) trivial)
          · intro listed vals a wq K hD hst hv hcl hj haft hun hK
            have hKv := fun v h => hK v wq (Upd.refl _ _) (putv_other (by decide) hv) h
            obtain ⟨v92, h92, j92⟩ := hD.dep hj haft 14 92 rfl rfl
            replace j92 : v92 = (.bool gd) := j92
            subst j92
            replace hst : Upd (One g9) _ wq := hst
            clear hD hj haft
            have e92 := eval_of h92
            refine step_now (v := .bool gd) (w' := wq) (wanted_free rfl) ?_ (hKv _ rfl)
            clear hK hKv hv hcl hun
            first | (go_simp; done) | (go_simp; rfl) | (go_simp; (try simp only [IntKind.wrap_u32]); omega)
        case hEnd =>
          intro vals wend dn hst hdn hv hj
          have j0 : vals 0 = (.agg #[.int .i64 st, .bool true, .int .u32 e1, .int .u32 m1, .bool f1, .bool s2, .int .u32 e2, .int .u32 m2, .bool f2]) := hj 0 (by decide)
          have j1 : vals 1 = (.slice (some ad) l.length c) := hj 1 (by decide)
          have j2 : vals 2 = (.int .i64 k) := hj 2 (by decide)
          have j3 : vals 3 = (.pointer (some (ad.add (k * 11)))) := hj 3 (by decide)
          have j4 : vals 4 = (.pointer (some (ad.add (k * 11)))) := hj 4 (by decide)
          have j5 : vals 5 = (.bool false) := hj 5 (by decide)
          have j6 : vals 6 = (.slice (some ad) l.length c) := hj 6 (by decide)
          have j7 : vals 7 = (.int .i64 k) := hj 7 (by decide)
          have j8 : vals 8 = (.pointer (some (ad.add (k * 11)))) := hj 8 (by decide)
          have j9 : vals 9 = (.pointer (some ⟨(ad.add (k * 11)).block, (ad.add (k * 11)).off + 1, none⟩)) := hj 9 (by decide)
          have j10 : vals 10 = (.agg #[.int .i64 sp, .int .i64 dp, .int .u32 sq, .int .u32 ak, .int .i64 fl, .int .i64 wi, .int .i64 ty, .int .i64 co, .int .i64 he, .int .i64 da]) := hj 10 (by decide)
          have j11 : vals 11 = (.tuple #[.agg #[.int .i64 nt, .bool true, .int .u32 ne1, .int .u32 nm1, .bool nf1, .bool ns2, .int .u32 ne2, .int .u32 nm2, .bool nf2], .bool gd]) := hj 11 (by decide)
          have j12 : vals 12 = (.tuple #[.agg #[.int .i64 nt, .bool true, .int .u32 ne1, .int .u32 nm1, .bool nf1, .bool ns2, .int .u32 ne2, .int .u32 nm2, .bool nf2], .bool gd]) := hj 12 (by decide)
          have j13 : vals 13 = (.agg #[.int .i64 nt, .bool true, .int .u32 ne1, .int .u32 nm1, .bool nf1, .bool ns2, .int .u32 ne2, .int .u32 nm2, .bool nf2]) := hj 13 (by decide)
          have j14 : vals 14 = (.bool gd) := hj 14 (by decide)
          have j15 : (fun (v : Value) (w1 : World) => True) (vals 15) wend := hj 15 (by decide)
          have j16 : vals 16 = (.bool gd) := hj 16 (by decide)
          replace hst : Upd (One g9) _ wend := hst
          have hvE := putv_end hv (hdn 15 (by decide))
          clear hj hv hdn
          simp only [List.take_succ_cons, List.take_zero, List.drop_succ_cons, List.drop_zero, putL, Act.put, List.setIfInBounds_toArray, List.set_cons_zero, List.set_cons_succ, j0, j1, j2, j3, j4, j5, j6, j7, j8, j9, j10, j11, j12, j13, j14, j16]
          clear j0 j1 j2 j3 j4 j5 j6 j7 j8 j9 j10 j11 j12 j13 j14 j16
          have HB_54 := Aside0.mk (below_upd HB_53.out hst (below_size HB_53.out) (fun k hk => by cases hk; exact Lg9.out))
          clear HB_53
          have Bg11_54 := Aside0.mk (Upd.blk hst Bg11_53.out (One.not (Ne.symm Ng9g11.out)))
          clear Bg11_53
          have Bg16_54 := Aside0.mk (Upd.blk hst Bg16_53.out (One.not (Ne.symm Ng9g16.out)))
          clear Bg16_53
          have Bg9_54 := Aside0.mk hvE
          clear hst hvE Bg9_53
          go_upto_region 17 with fail
          refine wp_region_rgv 13 (by kernel_rfl) (fun x y => Upd (One g11) x y) (PutV 11 g11 #[.int .i64 st, .bool true, .int .u32 d1, .int .u32 n1, .bool f1, .bool s2, .int .u32 d2, .int .u32 n2, .bool f2] #[.int .i64 nt, .bool true, .int .u32 oe1, .int .u32 om1, .bool nf1, .bool ns2, .int .u32 oe2, .int .u32 om2, .bool nf2] 41) (fun (i : Nat) (v : Value) (w1 : World) => match i with | 0 => v = (.agg #[.int .i64 st, .bool true, .int .u32 d1, .int .u32 n1, .bool f1, .bool s2, .int .u32 d2, .int .u32 n2, .bool f2]) | 1 => v = (.slice (some ad) l.length c) | 2 => v = (.int .i64 k) | 3 => v = (.pointer (some (ad.add (k * 11)))) | 4 => v = (.pointer (some (ad.add (k * 11)))) | 5 => v = (.bool false) | 6 => v = (.agg #[.int .i64 sp, .int .i64 dp, .int .u32 u2, .int .u32 u3, .int .i64 fl, .int .i64 wi, .int .i64 ty, .int .i64 co, .int .i64 he, .int .i64 da]) | 7 => v = (.tuple #[.agg #[.int .i64 nt, .bool true, .int .u32 oe1, .int .u32 om1, .bool nf1, .bool ns2, .int .u32 oe2, .int .u32 om2, .bool nf2], .bool gd]) | 8 => v = (.tuple #[.agg #[.int .i64 nt, .bool true, .int .u32 oe1, .int .u32 om1, .bool nf1, .bool ns2, .int .u32 oe2, .int .u32 om2, .bool nf2], .bool gd]) | 9 => v = (.agg #[.int .i64 nt, .bool true, .int .u32 oe1, .int .u32 om1, .bool nf1, .bool ns2, .int .u32 oe2, .int .u32 om2, .bool nf2]) | 10 => v = (.bool gd) | 11 => True | 12 => v = (.bool gd) | _ => True) (by kernel_rfl) (by kernel_rfl) (by kernel_rfl) (by kernel_rfl) (fun _ _ _ h k => Upd.trans h k) (Upd.refl _ _).drew (putv_start (blk_drew Bg11_54.out)) ?hJst ?hObl ?hEnd
          case hJst =>
            intro i v wx wy hi hs0 hs1 hJi
            match i, hi with
            | 0, _ => exact hJi
            | 1, _ => exact hJi
            | 2, _ => exact hJi
            | 3, _ => exact hJi
            | 4, _ => exact hJi
            | 5, _ => exact hJi
            | 6, _ => exact hJi
            | 7, _ => exact hJi
            | 8, _ => exact hJi
            | 9, _ => exact hJi
            | 10, _ => exact hJi
            | 11, _ => replace hJi : (fun (v : Value) (w1 : World) => True) v wx := hJi; exact trivial
            | 12, _ => exact hJi
            | _ + 13, hi => exact absurd hi (by simp)
          case hObl =>
            refine ⟨?_, ?_, ?_, ?_, ?_, ?_, ?_, ?_, ?_, ?_, ?_, ?_, ?_,  trivial⟩
            · intro listed vals a wq K hD hst hv hcl hj haft hun hK
              have hKv := fun v h => hK v wq (Upd.refl _ _) (putv_other (by decide) hv) h
              have h11 := hD.out 11 rfl rfl
              replace hst : Upd (One g11) _ wq := hst
              clear hD hj haft
              have e11 := eval_of h11
              exact step_now (v := .agg #[.int .i64 st, .bool true, .int .u32 d1, .int .u32 n1, .bool f1, .bool s2, .int .u32 d2, .int .u32 n2, .bool f2]) (w' := wq) (wanted_free rfl) (rg_loadall rfl e11 (putv_not hv (not_yet (i := 0) (j := 11) hcl (by kernel_rfl) (by kernel_rfl) hun)) Try.underlying41 rfl (by kernel_rfl)) (hKv _ rfl)
            · intro listed vals a wq K hD hst hv hcl hj haft hun hK
              have hKv := fun v h => hK v wq (Upd.refl _ _) (putv_other (by decide) hv) h
              have h1 := hD.out 1 rfl rfl
              replace hst : Upd (One g11) _ wq := hst
              clear hD hj haft
              have e1 := eval_of h1
              refine step_now (v := .slice (some ad) l.length c) (w' := wq) (wanted_free rfl) ?_ (hKv _ rfl)
              clear hK hKv hv hcl hun
              first | (go_simp; done) | (go_simp; rfl) | (go_simp; (try simp only [IntKind.wrap_u32]); omega)
            · intro listed vals a wq K hD hst hv hcl hj haft hun hK
              have hKv := fun v h => hK v wq (Upd.refl _ _) (putv_other (by decide) hv) h
              have h15 := hD.out 15 rfl rfl
              replace hst : Upd (One g11) _ wq := hst
              clear hD hj haft
              have e15 := eval_of h15
              refine step_now (v := .int .i64 k) (w' := wq) (wanted_free rfl) ?_ (hKv _ rfl)
              clear hK hKv hv hcl hun
              first | (go_simp; done) | (go_simp; rfl) | (go_simp; (try simp only [IntKind.wrap_u32]); omega)
            · intro listed vals a wq K hD hst hv hcl hj haft hun hK
              have hKv := fun v h => hK v wq (Upd.refl _ _) (putv_other (by decide) hv) h
              obtain ⟨v95, h95, j95⟩ := hD.dep hj haft 1 95 rfl rfl
              replace j95 : v95 = (.slice (some ad) l.length c) := j95
              subst j95
              obtain ⟨v96, h96, j96⟩ := hD.dep hj haft 2 96 rfl rfl
              replace j96 : v96 = (.int .i64 k) := j96
              subst j96
              replace hst : Upd (One g11) _ wq := hst
              clear hD hj haft
              have e95 := eval_of h95
              have e96 := eval_of h96
              exact step_now (w' := wq) (wanted_free rfl) (rg_index rfl e95 e96 HLT.out) (hKv _ rfl)
            · intro listed vals a wq K hD hst hv hcl hj haft hun hK
              have hKv := fun v h => hK v wq (Upd.refl _ _) (putv_other (by decide) hv) h
              obtain ⟨v97, h97, j97⟩ := hD.dep hj haft 3 97 rfl rfl
              replace j97 : v97 = (.pointer (some (ad.add (k * 11)))) := j97
              subst j97
              replace hst : Upd (One g11) _ wq := hst
              clear hD hj haft
              have e97 := eval_of h97
              exact step_now (w' := wq) (wanted_free rfl) (rg_field0 rfl e97) (hKv _ rfl)
            · intro listed vals a wq K hD hst hv hcl hj haft hun hK
              have hKv := fun v h => hK v wq (Upd.refl _ _) (putv_other (by decide) hv) h
              obtain ⟨v98, h98, j98⟩ := hD.dep hj haft 4 98 rfl rfl
              replace j98 : v98 = (.pointer (some (ad.add (k * 11)))) := j98
              subst j98
              replace hst : Upd (One g11) _ wq := hst
              clear hD hj haft
              have e98 := eval_of h98
              exact step_now (w' := wq) (wanted_free rfl) (rg_loadcell rfl e98 (script_cell HS.out (below_upd HB_54.out hst (below_size HB_54.out) (fun k hk => by cases hk; exact Lg11.out)) HX.out) Try.underlying4 rfl) (hKv _ rfl)
            · intro listed vals a wq K hD hst hv hcl hj haft hun hK
              have hKv := fun v h => hK v wq (Upd.refl _ _) (putv_other (by decide) hv) h
              have h16 := hD.out 16 rfl rfl
              replace hst : Upd (One g11) _ wq := hst
              clear hD hj haft
              have e16 := eval_of h16
              exact step_now (v := .agg #[.int .i64 sp, .int .i64 dp, .int .u32 u2, .int .u32 u3, .int .i64 fl, .int .i64 wi, .int .i64 ty, .int .i64 co, .int .i64 he, .int .i64 da]) (w' := wq) (wanted_free rfl) (rg_loadall rfl e16 (Upd.blk hst Bg16_54.out (One.not (Ne.symm Ng11g16.out))) Try.underlying43 rfl (by kernel_rfl)) (hKv _ rfl)
            · intro listed vals a wq K hD hst hv hcl hj haft hun hK
              have hKv := fun v h => hK v wq (Upd.refl _ _) (putv_other (by decide) hv) h
              obtain ⟨v94, h94, j94⟩ := hD.dep hj haft 0 94 rfl rfl
              replace j94 : v94 = (.agg #[.int .i64 st, .bool true, .int .u32 d1, .int .u32 n1, .bool f1, .bool s2, .int .u32 d2, .int .u32 n2, .bool f2]) := j94
              subst j94
              obtain ⟨v99, h99, j99⟩ := hD.dep hj haft 5 99 rfl rfl
              replace j99 : v99 = (.bool false) := j99
              subst j99
              obtain ⟨v100, h100, j100⟩ := hD.dep hj haft 6 100 rfl rfl
              replace j100 : v100 = (.agg #[.int .i64 sp, .int .i64 dp, .int .u32 u2, .int .u32 u3, .int .i64 fl, .int .i64 wi, .int .i64 ty, .int .i64 co, .int .i64 he, .int .i64 da]) := j100
              subst j100
              replace hst : Upd (One g11) _ wq := hst
              clear hD hj haft
              have e94 := eval_of h94
              have e99 := eval_of h99
              have e100 := eval_of h100
              refine step_call (f := 17) (args := #[.agg #[.int .i64 st, .bool true, .int .u32 d1, .int .u32 n1, .bool f1, .bool s2, .int .u32 d2, .int .u32 n2, .bool f2], .bool false, .agg #[.int .i64 sp, .int .i64 dp, .int .u32 u2, .int .u32 u3, .int .i64 fl, .int .i64 wi, .int .i64 ty, .int .i64 co, .int .i64 he, .int .i64 da]]) (wanted_free rfl) ?_ (next_as ⟨st, ⟨true, d1, n1, f1⟩, ⟨s2, d2, n2, f2⟩⟩ false ⟨sp, dp, u2, u3, fl, wi, ty, co, he, da⟩ _ ⟨true, oe1, om1, _⟩ ⟨_, oe2, om2, _⟩ _ HO.out wq) ?_
              · clear hK hKv hv hcl hun; first | (go_simp; done) | (go_simp; rfl)
              · rintro e w' ⟨rfl, hbq⟩; exact ⟨_, rfl, hK _ _ (Upd.of_below hbq (Nat.le_refl _) _) (putv_below (by decide) hv hbq) rfl⟩
            · intro listed vals a wq K hD hst hv hcl hj haft hun hK
              have hKv := fun v h => hK v wq (Upd.refl _ _) (putv_other (by decide) hv) h
              obtain ⟨v101, h101, j101⟩ := hD.dep hj haft 7 101 rfl rfl
              replace j101 : v101 = (.tuple #[.agg #[.int .i64 nt, .bool true, .int .u32 oe1, .int .u32 om1, .bool nf1, .bool ns2, .int .u32 oe2, .int .u32 om2, .bool nf2], .bool gd]) := j101
              subst j101
              replace hst : Upd (One g11) _ wq := hst
              clear hD hj haft
              have e101 := eval_of h101
              refine step_now (v := .tuple #[.agg #[.int .i64 nt, .bool true, .int .u32 oe1, .int .u32 om1, .bool nf1, .bool ns2, .int .u32 oe2, .int .u32 om2, .bool nf2], .bool gd]) (w' := wq) (wanted_free rfl) ?_ (hKv _ rfl)
              clear hK hKv hv hcl hun
              first | (go_simp; done) | (go_simp; rfl) | (go_simp; (try simp only [IntKind.wrap_u32]); omega)
            · intro listed vals a wq K hD hst hv hcl hj haft hun hK
              have hKv := fun v h => hK v wq (Upd.refl _ _) (putv_other (by decide) hv) h
              obtain ⟨v93, h93, j93⟩ := hD.dep hj haft 8 93 rfl rfl
              replace j93 : v93 = (.tuple #[.agg #[.int .i64 nt, .bool true, .int .u32 oe1, .int .u32 om1, .bool nf1, .bool ns2, .int .u32 oe2, .int .u32 om2, .bool nf2], .bool gd]) := j93
              subst j93
              replace hst : Upd (One g11) _ wq := hst
              clear hD hj haft
              have e93 := eval_of h93
              refine step_now (v := .agg #[.int .i64 nt, .bool true, .int .u32 oe1, .int .u32 om1, .bool nf1, .bool ns2, .int .u32 oe2, .int .u32 om2, .bool nf2]) (w' := wq) (wanted_free rfl) ?_ (hKv _ rfl)
              clear hK hKv hv hcl hun
              first | (go_simp; done) | (go_simp; rfl) | (go_simp; (try simp only [IntKind.wrap_u32]); omega)
            · intro listed vals a wq K hD hst hv hcl hj haft hun hK
              have hKv := fun v h => hK v wq (Upd.refl _ _) (putv_other (by decide) hv) h
              obtain ⟨v93, h93, j93⟩ := hD.dep hj haft 8 93 rfl rfl
              replace j93 : v93 = (.tuple #[.agg #[.int .i64 nt, .bool true, .int .u32 oe1, .int .u32 om1, .bool nf1, .bool ns2, .int .u32 oe2, .int .u32 om2, .bool nf2], .bool gd]) := j93
              subst j93
              replace hst : Upd (One g11) _ wq := hst
              clear hD hj haft
              have e93 := eval_of h93
              refine step_now (v := .bool gd) (w' := wq) (wanted_free rfl) ?_ (hKv _ rfl)
              clear hK hKv hv hcl hun
              first | (go_simp; done) | (go_simp; rfl) | (go_simp; (try simp only [IntKind.wrap_u32]); omega)
            · intro listed vals a wq K hD hst hv hcl hj haft hun hK
              obtain ⟨v102, h102, j102⟩ := hD.dep hj haft 9 102 rfl rfl
              replace j102 : v102 = (.agg #[.int .i64 nt, .bool true, .int .u32 oe1, .int .u32 om1, .bool nf1, .bool ns2, .int .u32 oe2, .int .u32 om2, .bool nf2]) := j102
              subst j102
              have h11 := hD.out 11 rfl rfl
              replace hst : Upd (One g11) _ wq := hst
              clear hD hj haft
              have e11 := eval_of h11
              have e102 := eval_of h102
              refine rg_step_store (cells := #[.int .i64 nt, .bool true, .int .u32 oe1, .int .u32 om1, .bool nf1, .bool ns2, .int .u32 oe2, .int .u32 om2, .bool nf2]) (W0 := wq) (wanted_free rfl) rfl e11 e102 (putv_not hv (un_of hun)) (stput_refl _ _ _) (by kernel_rfl) rfl rfl (fun w2 hs2 hg2 => hK _ w2 hs2.1 (putv_self hg2) trivial)
            · intro listed vals a wq K hD hst hv hcl hj haft hun hK
              have hKv := fun v h => hK v wq (Upd.refl _ _) (putv_other (by decide) hv) h
              obtain ⟨v103, h103, j103⟩ := hD.dep hj haft 10 103 rfl rfl
              replace j103 : v103 = (.bool gd) := j103
              subst j103
              replace hst : Upd (One g11) _ wq := hst
              clear hD hj haft
              have e103 := eval_of h103
              refine step_now (v := .bool gd) (w' := wq) (wanted_free rfl) ?_ (hKv _ rfl)
              clear hK hKv hv hcl hun
              first | (go_simp; done) | (go_simp; rfl) | (go_simp; (try simp only [IntKind.wrap_u32]); omega)
          case hEnd =>
            intro vals wend dn hst hdn hv hj
            have j0 : vals 0 = (.agg #[.int .i64 st, .bool true, .int .u32 d1, .int .u32 n1, .bool f1, .bool s2, .int .u32 d2, .int .u32 n2, .bool f2]) := hj 0 (by decide)
            have j1 : vals 1 = (.slice (some ad) l.length c) := hj 1 (by decide)
            have j2 : vals 2 = (.int .i64 k) := hj 2 (by decide)
            have j3 : vals 3 = (.pointer (some (ad.add (k * 11)))) := hj 3 (by decide)
            have j4 : vals 4 = (.pointer (some (ad.add (k * 11)))) := hj 4 (by decide)
            have j5 : vals 5 = (.bool false) := hj 5 (by decide)
            have j6 : vals 6 = (.agg #[.int .i64 sp, .int .i64 dp, .int .u32 u2, .int .u32 u3, .int .i64 fl, .int .i64 wi, .int .i64 ty, .int .i64 co, .int .i64 he, .int .i64 da]) := hj 6 (by decide)
            have j7 : vals 7 = (.tuple #[.agg #[.int .i64 nt, .bool true, .int .u32 oe1, .int .u32 om1, .bool nf1, .bool ns2, .int .u32 oe2, .int .u32 om2, .bool nf2], .bool gd]) := hj 7 (by decide)
            have j8 : vals 8 = (.tuple #[.agg #[.int .i64 nt, .bool true, .int .u32 oe1, .int .u32 om1, .bool nf1, .bool ns2, .int .u32 oe2, .int .u32 om2, .bool nf2], .bool gd]) := hj 8 (by decide)
            have j9 : vals 9 = (.agg #[.int .i64 nt, .bool true, .int .u32 oe1, .int .u32 om1, .bool nf1, .bool ns2, .int .u32 oe2, .int .u32 om2, .bool nf2]) := hj 9 (by decide)
            have j10 : vals 10 = (.bool gd) := hj 10 (by decide)
            have j11 : (fun (v : Value) (w1 : World) => True) (vals 11) wend := hj 11 (by decide)
            have j12 : vals 12 = (.bool gd) := hj 12 (by decide)
            replace hst : Upd (One g11) _ wend := hst
            have hvE := putv_end hv (hdn 11 (by decide))
            clear hj hv hdn
            simp only [List.take_succ_cons, List.take_zero, List.drop_succ_cons, List.drop_zero, putL, Act.put, List.setIfInBounds_toArray, List.set_cons_zero, List.set_cons_succ, j0, j1, j2, j3, j4, j5, j6, j7, j8, j9, j10, j12]
            clear j0 j1 j2 j3 j4 j5 j6 j7 j8 j9 j10 j12
            have HB_55 := Aside0.mk (below_upd HB_54.out hst (below_size HB_54.out) (fun k hk => by cases hk; exact Lg11.out))
            clear HB_54
            have Bg9_55 := Aside0.mk (Upd.blk hst Bg9_54.out (One.not Ng9g11.out))
            clear Bg9_54
            have Bg16_55 := Aside0.mk (Upd.blk hst Bg16_54.out (One.not (Ne.symm Ng11g16.out)))
            clear Bg16_54
            have Bg11_55 := Aside0.mk hvE
            clear hst hvE Bg11_54
            have hc1 : (ne1 + a) % 4294967296 = oe1 := (HR2.out.a.e rfl).symm
            cases ns2
            · go_wp2_with (first | ((with_reducible refine gate_dst (N := 109) rfl ?_); (refine gate_guard (by rfl) ?_; dsimp only); refine load1_event rfl _ _ rfl g9 0 rfl _ _ _ _ Bg9_55.out rfl Try.underlying3 rfl ?_) | ((with_reducible refine gate_dst (N := 111) rfl ?_); (refine gate_guard (by rfl) ?_; dsimp only); refine load1_event rfl _ _ rfl g11 0 rfl _ _ _ _ Bg11_55.out rfl Try.underlying3 rfl ?_) | ((with_reducible refine gate_dst (N := 117) rfl ?_); (refine gate_guard (by rfl) ?_; dsimp only); refine load1_event rfl _ _ rfl g9 1 rfl _ _ _ _ Bg9_55.out rfl Try.underlying4 rfl ?_) | ((with_reducible refine gate_dst (N := 120) rfl ?_); (refine gate_guard (by rfl) ?_; dsimp only); refine load1_event rfl _ _ rfl g11 1 rfl _ _ _ _ Bg11_55.out rfl Try.underlying4 rfl ?_) | ((with_reducible refine gate_dst (N := 126) rfl ?_); (refine gate_guard (by rfl) ?_; dsimp only); refine load1_event rfl _ _ rfl g9 5 rfl _ _ _ _ Bg9_55.out rfl Try.underlying4 rfl ?_) | ((with_reducible refine gate_dst (N := 129) rfl ?_); (refine gate_guard (by rfl) ?_; dsimp only); refine load1_event rfl _ _ rfl g11 5 rfl _ _ _ _ Bg11_55.out rfl Try.underlying4 rfl ?_) | ((with_reducible refine gate_dst (N := 135) rfl ?_); (refine gate_guard (by rfl) ?_; dsimp only); refine load1_event rfl _ _ rfl g9 2 rfl _ _ _ _ Bg9_55.out rfl Try.underlying33 rfl ?_) | ((with_reducible refine gate_dst (N := 140) rfl ?_); (refine gate_guard (by rfl) ?_; dsimp only); refine load1_event rfl _ _ rfl g11 2 rfl _ _ _ _ Bg11_55.out rfl Try.underlying33 rfl ?_) | ((with_reducible refine gate_dst (N := 146) rfl ?_); (refine gate_guard (by rfl) ?_; dsimp only); refine load1_event rfl _ _ rfl g9 5 rfl _ _ _ _ Bg9_55.out rfl Try.underlying4 rfl ?_))
              go_roundw
              case rel => exact ⟨k + 1, by have := HLT.out; omega, by go_num, ⟨nt, ne1, nm1, oe1, om1, ne2, nm2, oe2, om2, nf1, _, nf2, HR2.out, Bg9_55.out, Bg11_55.out⟩, HB_55⟩
              case measure => have := HLT.out; simp [intOf]; omega
            · have hc2 : (ne2 + b) % 4294967296 = oe2 := (HR2.out.b.e rfl).symm
              go_wp2_with (first | ((with_reducible refine gate_dst (N := 109) rfl ?_); (refine gate_guard (by rfl) ?_; dsimp only); refine load1_event rfl _ _ rfl g9 0 rfl _ _ _ _ Bg9_55.out rfl Try.underlying3 rfl ?_) | ((with_reducible refine gate_dst (N := 111) rfl ?_); (refine gate_guard (by rfl) ?_; dsimp only); refine load1_event rfl _ _ rfl g11 0 rfl _ _ _ _ Bg11_55.out rfl Try.underlying3 rfl ?_) | ((with_reducible refine gate_dst (N := 117) rfl ?_); (refine gate_guard (by rfl) ?_; dsimp only); refine load1_event rfl _ _ rfl g9 1 rfl _ _ _ _ Bg9_55.out rfl Try.underlying4 rfl ?_) | ((with_reducible refine gate_dst (N := 120) rfl ?_); (refine gate_guard (by rfl) ?_; dsimp only); refine load1_event rfl _ _ rfl g11 1 rfl _ _ _ _ Bg11_55.out rfl Try.underlying4 rfl ?_) | ((with_reducible refine gate_dst (N := 126) rfl ?_); (refine gate_guard (by rfl) ?_; dsimp only); refine load1_event rfl _ _ rfl g9 5 rfl _ _ _ _ Bg9_55.out rfl Try.underlying4 rfl ?_) | ((with_reducible refine gate_dst (N := 129) rfl ?_); (refine gate_guard (by rfl) ?_; dsimp only); refine load1_event rfl _ _ rfl g11 5 rfl _ _ _ _ Bg11_55.out rfl Try.underlying4 rfl ?_) | ((with_reducible refine gate_dst (N := 135) rfl ?_); (refine gate_guard (by rfl) ?_; dsimp only); refine load1_event rfl _ _ rfl g9 2 rfl _ _ _ _ Bg9_55.out rfl Try.underlying33 rfl ?_) | ((with_reducible refine gate_dst (N := 140) rfl ?_); (refine gate_guard (by rfl) ?_; dsimp only); refine load1_event rfl _ _ rfl g11 2 rfl _ _ _ _ Bg11_55.out rfl Try.underlying33 rfl ?_) | ((with_reducible refine gate_dst (N := 146) rfl ?_); (refine gate_guard (by rfl) ?_; dsimp only); refine load1_event rfl _ _ rfl g9 5 rfl _ _ _ _ Bg9_55.out rfl Try.underlying4 rfl ?_) | ((with_reducible refine gate_dst (N := 150) rfl ?_); (refine gate_guard (by rfl) ?_; dsimp only); refine load1_event rfl _ _ rfl g9 6 rfl _ _ _ _ Bg9_55.out rfl Try.underlying33 rfl ?_) | ((with_reducible refine gate_dst (N := 155) rfl ?_); (refine gate_guard (by rfl) ?_; dsimp only); refine load1_event rfl _ _ rfl g11 6 rfl _ _ _ _ Bg11_55.out rfl Try.underlying33 rfl ?_))
              go_roundw
              case rel => exact ⟨k + 1, by have := HLT.out; omega, by go_num, ⟨nt, ne1, nm1, oe1, om1, ne2, nm2, oe2, om2, nf1, _, nf2, HR2.out, Bg9_55.out, Bg11_55.out⟩, HB_55⟩
              case measure => have := HLT.out; simp [intOf]; omega
      · have hsm := next_moved HR.out true ⟨sp, dp, sq, ak, fl, wi, ty, co, he, da⟩ (script_ok HS.out HX.out) v2 v3 HV2.out HV3.out 
        obtain ⟨⟨nt, ⟨ns1, ne1, nm1, nf1⟩, ⟨ns2, ne2, nm2, nf2⟩⟩, gd, hn⟩ : ∃ n gd, next ⟨st, ⟨true, e1, m1, f1⟩, ⟨s2, e2, m2, f2⟩⟩ true ⟨sp, dp, sq, ak, fl, wi, ty, co, he, da⟩ = (n, gd) := ⟨_, _, rfl⟩
        obtain ⟨⟨ot, ⟨os1, oe1, om1, of1⟩, ⟨os2, oe2, om2, of2⟩⟩, hd, ho⟩ : ∃ n gd, next ⟨st, ⟨true, d1, n1, f1⟩, ⟨s2, d2, n2, f2⟩⟩ true ⟨sp, dp, v2, v3, fl, wi, ty, co, he, da⟩ = (n, gd) := ⟨_, _, rfl⟩
        obtain ⟨y1, y2⟩ := hsm
        rw [hn, ho] at y1 y2
        replace y1 : hd = gd := y1
        replace y2 : CnR a b ⟨nt, ⟨ns1, ne1, nm1, nf1⟩, ⟨ns2, ne2, nm2, nf2⟩⟩ ⟨ot, ⟨os1, oe1, om1, of1⟩, ⟨os2, oe2, om2, of2⟩⟩ := y2
        have z1 : nt = ot := y2.st.symm
        have z2 : ns1 = true := y2.one
        have z3 : ns1 = os1 := y2.a.seen.symm
        have z4 : nf1 = of1 := y2.a.fin.symm
        have z5 : ns2 = os2 := y2.b.seen.symm
        have z6 : nf2 = of2 := y2.b.fin.symm
        replace y1 : gd = hd := y1.symm
        subst y1 z1 z3 z4 z5 z6
        subst z2
        have HR2 := Aside0.mk y2
        have HN := Aside0.mk hn
        have HO := Aside0.mk ho
        clear y2 hn ho
        go_upto_region 16 with (first | ((with_reducible refine gate_dst (N := 74) rfl ?_); refine loadmid_event rfl _ _ rfl _ _ rfl [.int .i64 sp, .int .i64 dp, .int .u32 sq, .int .u32 ak, .int .i64 fl, .int .i64 wi, .int .i64 ty, .int .i64 co, .int .i64 he, .int .i64 da] _ (script_range HS.out HB_53.out HX.out) Try.underlying43 rfl (by kernel_rfl) ?_) | (go_at_call 29; refine (moved_as ⟨sp, dp, sq, ak, fl, wi, ty, co, he, da⟩ b a v2 v3 HV2.out HV3.out _).mono ?_; rintro e wx54 ⟨rfl, hb⟩; have HB_54 := Aside0.mk (below_step HB_53.out hb); clear HB_53; have Bg9_54 := Aside0.mk (blk_below Bg9_53.out hb); clear Bg9_53; have Bg11_54 := Aside0.mk (blk_below Bg11_53.out hb); clear Bg11_53; have Bg16_54 := Aside0.mk (blk_below Bg16_53.out hb); clear Bg16_53; clear hb) | ((with_reducible refine gate_store (t := 43) (p := 16) rfl ?_); refine store_event rfl 43 _ _ rfl g16 _ rfl rfl _ _ Bg16_54.out (by kernel_rfl) rfl rfl ?_; intro wx55 hst hu; have HB_55 := Aside0.mk (below_upd HB_54.out hu (below_size HB_54.out) (fun k hk => by cases hk; exact Lg16.out)); clear HB_54; have Bg9_55 := Aside0.mk (Upd.blk hu Bg9_54.out (One.not Ng9g16.out)); clear Bg9_54; have Bg11_55 := Aside0.mk (Upd.blk hu Bg11_54.out (One.not Ng11g16.out)); clear Bg11_54; have Bg16_55 := Aside0.mk hst; clear hst hu Bg16_54))
        clear hs0 hlt
        refine wp_region_rgv 17 (by kernel_rfl) (fun x y => Upd (One g9) x y) (PutV 15 g9 #[.int .i64 st, .bool true, .int .u32 e1, .int .u32 m1, .bool f1, .bool s2, .int .u32 e2, .int .u32 m2, .bool f2] #[.int .i64 nt, .bool true, .int .u32 ne1, .int .u32 nm1, .bool nf1, .bool ns2, .int .u32 ne2, .int .u32 nm2, .bool nf2] 41) (fun (i : Nat) (v : Value) (w1 : World) => match i with | 0 => v = (.agg #[.int .i64 st, .bool true, .int .u32 e1, .int .u32 m1, .bool f1, .bool s2, .int .u32 e2, .int .u32 m2, .bool f2]) | 1 => v = (.slice (some ad) l.length c) | 2 => v = (.int .i64 k) | 3 => v = (.pointer (some (ad.add (k * 11)))) | 4 => v = (.pointer (some (ad.add (k * 11)))) | 5 => v = (.bool true) | 6 => v = (.slice (some ad) l.length c) | 7 => v = (.int .i64 k) | 8 => v = (.pointer (some (ad.add (k * 11)))) | 9 => v = (.pointer (some ⟨(ad.add (k * 11)).block, (ad.add (k * 11)).off + 1, none⟩)) | 10 => v = (.agg #[.int .i64 sp, .int .i64 dp, .int .u32 sq, .int .u32 ak, .int .i64 fl, .int .i64 wi, .int .i64 ty, .int .i64 co, .int .i64 he, .int .i64 da]) | 11 => v = (.tuple #[.agg #[.int .i64 nt, .bool true, .int .u32 ne1, .int .u32 nm1, .bool nf1, .bool ns2, .int .u32 ne2, .int .u32 nm2, .bool nf2], .bool gd]) | 12 => v = (.tuple #[.agg #[.int .i64 nt, .bool true, .int .u32 ne1, .int .u32 nm1, .bool nf1, .bool ns2, .int .u32 ne2, .int .u32 nm2, .bool nf2], .bool gd]) | 13 => v = (.agg #[.int .i64 nt, .bool true, .int .u32 ne1, .int .u32 nm1, .bool nf1, .bool ns2, .int .u32 ne2, .int .u32 nm2, .bool nf2]) | 14 => v = (.bool gd) | 15 => True | 16 => v = (.bool gd) | _ => True) (by kernel_rfl) (by kernel_rfl) (by kernel_rfl) (by kernel_rfl) (fun _ _ _ h k => Upd.trans h k) (Upd.refl _ _).drew (putv_start (blk_drew Bg9_55.out)) ?hJst ?hObl ?hEnd
        case hJst =>
          intro i v wx wy hi hs0 hs1 hJi
          match i, hi with
          | 0, _ => exact hJi
          | 1, _ => exact hJi
          | 2, _ => exact hJi
          | 3, _ => exact hJi
          | 4, _ => exact hJi
          | 5, _ => exact hJi
          | 6, _ => exact hJi
          | 7, _ => exact hJi
          | 8, _ => exact hJi
          | 9, _ => exact hJi
          | 10, _ => exact hJi
          | 11, _ => exact hJi
          | 12, _ => exact hJi
          | 13, _ => exact hJi
          | 14, _ => exact hJi
          | 15, _ => replace hJi : (fun (v : Value) (w1 : World) => True) v wx := hJi; exact trivial
          | 16, _ => exact hJi
          | _ + 17, hi => exact absurd hi (by simp)
        case hObl =>
          refine ⟨?_, ?_, ?_, ?_, ?_, ?_, ?_, ?_, ?_, ?_, ?_, ?_, ?_, ?_, ?_, ?_, ?_,  trivial⟩
          · intro listed vals a wq K hD hst hv hcl hj haft hun hK
            have hKv := fun v h => hK v wq (Upd.refl _ _) (putv_other (by decide) hv) h
            have h9 := hD.out 9 rfl rfl
            replace hst : Upd (One g9) _ wq := hst
            clear hD hj haft
            have e9 := eval_of h9
            exact step_now (v := .agg #[.int .i64 st, .bool true, .int .u32 e1, .int .u32 m1, .bool f1, .bool s2, .int .u32 e2, .int .u32 m2, .bool f2]) (w' := wq) (wanted_free rfl) (rg_loadall rfl e9 (putv_not hv (not_yet (i := 0) (j := 15) hcl (by kernel_rfl) (by kernel_rfl) hun)) Try.underlying41 rfl (by kernel_rfl)) (hKv _ rfl)
          · intro listed vals a wq K hD hst hv hcl hj haft hun hK
            have hKv := fun v h => hK v wq (Upd.refl _ _) (putv_other (by decide) hv) h
            have h1 := hD.out 1 rfl rfl
            replace hst : Upd (One g9) _ wq := hst
            clear hD hj haft
            have e1 := eval_of h1
            refine step_now (v := .slice (some ad) l.length c) (w' := wq) (wanted_free rfl) ?_ (hKv _ rfl)
            clear hK hKv hv hcl hun
            first | (go_simp; done) | (go_simp; rfl) | (go_simp; (try simp only [IntKind.wrap_u32]); omega)
          · intro listed vals a wq K hD hst hv hcl hj haft hun hK
            have hKv := fun v h => hK v wq (Upd.refl _ _) (putv_other (by decide) hv) h
            have h15 := hD.out 15 rfl rfl
            replace hst : Upd (One g9) _ wq := hst
            clear hD hj haft
            have e15 := eval_of h15
            refine step_now (v := .int .i64 k) (w' := wq) (wanted_free rfl) ?_ (hKv _ rfl)
            clear hK hKv hv hcl hun
            first | (go_simp; done) | (go_simp; rfl) | (go_simp; (try simp only [IntKind.wrap_u32]); omega)
          · intro listed vals a wq K hD hst hv hcl hj haft hun hK
            have hKv := fun v h => hK v wq (Upd.refl _ _) (putv_other (by decide) hv) h
            obtain ⟨v80, h80, j80⟩ := hD.dep hj haft 1 80 rfl rfl
            replace j80 : v80 = (.slice (some ad) l.length c) := j80
            subst j80
            obtain ⟨v81, h81, j81⟩ := hD.dep hj haft 2 81 rfl rfl
            replace j81 : v81 = (.int .i64 k) := j81
            subst j81
            replace hst : Upd (One g9) _ wq := hst
            clear hD hj haft
            have e80 := eval_of h80
            have e81 := eval_of h81
            exact step_now (w' := wq) (wanted_free rfl) (rg_index rfl e80 e81 HLT.out) (hKv _ rfl)
          · intro listed vals a wq K hD hst hv hcl hj haft hun hK
            have hKv := fun v h => hK v wq (Upd.refl _ _) (putv_other (by decide) hv) h
            obtain ⟨v82, h82, j82⟩ := hD.dep hj haft 3 82 rfl rfl
            replace j82 : v82 = (.pointer (some (ad.add (k * 11)))) := j82
            subst j82
            replace hst : Upd (One g9) _ wq := hst
            clear hD hj haft
            have e82 := eval_of h82
            exact step_now (w' := wq) (wanted_free rfl) (rg_field0 rfl e82) (hKv _ rfl)
          · intro listed vals a wq K hD hst hv hcl hj haft hun hK
            have hKv := fun v h => hK v wq (Upd.refl _ _) (putv_other (by decide) hv) h
            obtain ⟨v83, h83, j83⟩ := hD.dep hj haft 4 83 rfl rfl
            replace j83 : v83 = (.pointer (some (ad.add (k * 11)))) := j83
            subst j83
            replace hst : Upd (One g9) _ wq := hst
            clear hD hj haft
            have e83 := eval_of h83
            exact step_now (w' := wq) (wanted_free rfl) (rg_loadcell rfl e83 (script_cell HS.out (below_upd HB_55.out hst (below_size HB_55.out) (fun k hk => by cases hk; exact Lg9.out)) HX.out) Try.underlying4 rfl) (hKv _ rfl)
          · intro listed vals a wq K hD hst hv hcl hj haft hun hK
            have hKv := fun v h => hK v wq (Upd.refl _ _) (putv_other (by decide) hv) h
            have h1 := hD.out 1 rfl rfl
            replace hst : Upd (One g9) _ wq := hst
            clear hD hj haft
            have e1 := eval_of h1
            refine step_now (v := .slice (some ad) l.length c) (w' := wq) (wanted_free rfl) ?_ (hKv _ rfl)
            clear hK hKv hv hcl hun
            first | (go_simp; done) | (go_simp; rfl) | (go_simp; (try simp only [IntKind.wrap_u32]); omega)
          · intro listed vals a wq K hD hst hv hcl hj haft hun hK
            have hKv := fun v h => hK v wq (Upd.refl _ _) (putv_other (by decide) hv) h
            have h15 := hD.out 15 rfl rfl
            replace hst : Upd (One g9) _ wq := hst
            clear hD hj haft
            have e15 := eval_of h15
            refine step_now (v := .int .i64 k) (w' := wq) (wanted_free rfl) ?_ (hKv _ rfl)
            clear hK hKv hv hcl hun
            first | (go_simp; done) | (go_simp; rfl) | (go_simp; (try simp only [IntKind.wrap_u32]); omega)
          · intro listed vals a wq K hD hst hv hcl hj haft hun hK
            have hKv := fun v h => hK v wq (Upd.refl _ _) (putv_other (by decide) hv) h
            obtain ⟨v85, h85, j85⟩ := hD.dep hj haft 6 85 rfl rfl
            replace j85 : v85 = (.slice (some ad) l.length c) := j85
            subst j85
            obtain ⟨v86, h86, j86⟩ := hD.dep hj haft 7 86 rfl rfl
            replace j86 : v86 = (.int .i64 k) := j86
            subst j86
            replace hst : Upd (One g9) _ wq := hst
            clear hD hj haft
            have e85 := eval_of h85
            have e86 := eval_of h86
            exact step_now (w' := wq) (wanted_free rfl) (rg_index rfl e85 e86 HLT.out) (hKv _ rfl)
          · intro listed vals a wq K hD hst hv hcl hj haft hun hK
            have hKv := fun v h => hK v wq (Upd.refl _ _) (putv_other (by decide) hv) h
            obtain ⟨v87, h87, j87⟩ := hD.dep hj haft 8 87 rfl rfl
            replace j87 : v87 = (.pointer (some (ad.add (k * 11)))) := j87
            subst j87
            replace hst : Upd (One g9) _ wq := hst
            clear hD hj haft
            have e87 := eval_of h87
            exact step_now (w' := wq) (wanted_free rfl) (rg_field1 rfl e87) (hKv _ rfl)
          · intro listed vals a wq K hD hst hv hcl hj haft hun hK
            have hKv := fun v h => hK v wq (Upd.refl _ _) (putv_other (by decide) hv) h
            obtain ⟨v88, h88, j88⟩ := hD.dep hj haft 9 88 rfl rfl
            replace j88 : v88 = (.pointer (some ⟨(ad.add (k * 11)).block, (ad.add (k * 11)).off + 1, none⟩)) := j88
            subst j88
            replace hst : Upd (One g9) _ wq := hst
            clear hD hj haft
            have e88 := eval_of h88
            exact step_now (v := .agg #[.int .i64 sp, .int .i64 dp, .int .u32 sq, .int .u32 ak, .int .i64 fl, .int .i64 wi, .int .i64 ty, .int .i64 co, .int .i64 he, .int .i64 da]) (w' := wq) (wanted_free rfl) (rg_loadmid rfl e88 (script_range HS.out (below_upd HB_55.out hst (below_size HB_55.out) (fun k hk => by cases hk; exact Lg9.out)) HX.out) Try.underlying43 rfl (by kernel_rfl)) (hKv _ rfl)
          · intro listed vals a wq K hD hst hv hcl hj haft hun hK
            have hKv := fun v h => hK v wq (Upd.refl _ _) (putv_other (by decide) hv) h
            obtain ⟨v79, h79, j79⟩ := hD.dep hj haft 0 79 rfl rfl
            replace j79 : v79 = (.agg #[.int .i64 st, .bool true, .int .u32 e1, .int .u32 m1, .bool f1, .bool s2, .int .u32 e2, .int .u32 m2, .bool f2]) := j79
            subst j79
            obtain ⟨v84, h84, j84⟩ := hD.dep hj haft 5 84 rfl rfl
            replace j84 : v84 = (.bool true) := j84
            subst j84
            obtain ⟨v89, h89, j89⟩ := hD.dep hj haft 10 89 rfl rfl
            replace j89 : v89 = (.agg #[.int .i64 sp, .int .i64 dp, .int .u32 sq, .int .u32 ak, .int .i64 fl, .int .i64 wi, .int .i64 ty, .int .i64 co, .int .i64 he, .int .i64 da]) := j89
            subst j89
            replace hst : Upd (One g9) _ wq := hst
            clear hD hj haft
            have e79 := eval_of h79
            have e84 := eval_of h84
            have e89 := eval_of h89
            refine step_call (f := 17) (args := #[.agg #[.int .i64 st, .bool true, .int .u32 e1, .int .u32 m1, .bool f1, .bool s2, .int .u32 e2, .int .u32 m2, .bool f2], .bool true, .agg #[.int .i64 sp, .int .i64 dp, .int .u32 sq, .int .u32 ak, .int .i64 fl, .int .i64 wi, .int .i64 ty, .int .i64 co, .int .i64 he, .int .i64 da]]) (wanted_free rfl) ?_ (next_as ⟨st, ⟨true, e1, m1, f1⟩, ⟨s2, e2, m2, f2⟩⟩ true ⟨sp, dp, sq, ak, fl, wi, ty, co, he, da⟩ _ ⟨true, ne1, nm1, _⟩ ⟨_, ne2, nm2, _⟩ _ HN.out wq) ?_
            · clear hK hKv hv hcl hun; first | (go_simp; done) | (go_simp; rfl)
            · rintro e w' ⟨rfl, hbq⟩; exact ⟨_, rfl, hK _ _ (Upd.of_below hbq (Nat.le_refl _) _) (putv_below (by decide) hv hbq) rfl⟩
          · intro listed vals a wq K hD hst hv hcl hj haft hun hK
            have hKv := fun v h => hK v wq (Upd.refl _ _) (putv_other (by decide) hv) h
            obtain ⟨v90, h90, j90⟩ := hD.dep hj haft 11 90 rfl rfl
            replace j90 : v90 = (.tuple #[.agg #[.int .i64 nt, .bool true, .int .u32 ne1, .int .u32 nm1, .bool nf1, .bool ns2, .int .u32 ne2, .int .u32 nm2, .bool nf2], .bool gd]) := j90
            subst j90
            replace hst : Upd (One g9) _ wq := hst
            clear hD hj haft
            have e90 := eval_of h90
            refine step_now (v := .tuple #[.agg #[.int .i64 nt, .bool true, .int .u32 ne1, .int .u32 nm1, .bool nf1, .bool ns2, .int .u32 ne2, .int .u32 nm2, .bool nf2], .bool gd]) (w' := wq) (wanted_free rfl) ?_ (hKv _ rfl)
            clear hK hKv hv hcl hun
            first | (go_simp; done) | (go_simp; rfl) | (go_simp; (try simp only [IntKind.wrap_u32]); omega)
          · intro listed vals a wq K hD hst hv hcl hj haft hun hK
            have hKv := fun v h => hK v wq (Upd.refl _ _) (putv_other (by decide) hv) h
            obtain ⟨v78, h78, j78⟩ := hD.dep hj haft 12 78 rfl rfl
            replace j78 : v78 = (.tuple #[.agg #[.int .i64 nt, .bool true, .int .u32 ne1, .int .u32 nm1, .bool nf1, .bool ns2, .int .u32 ne2, .int .u32 nm2, .bool nf2], .bool gd]) := j78
            subst j78
            replace hst : Upd (One g9) _ wq := hst
            clear hD hj haft
            have e78 := eval_of h78
            refine step_now (v := .agg #[.int .i64 nt, .bool true, .int .u32 ne1, .int .u32 nm1, .bool nf1, .bool ns2, .int .u32 ne2, .int .u32 nm2, .bool nf2]) (w' := wq) (wanted_free rfl) ?_ (hKv _ rfl)
            clear hK hKv hv hcl hun
            first | (go_simp; done) | (go_simp; rfl) | (go_simp; (try simp only [IntKind.wrap_u32]); omega)
          · intro listed vals a wq K hD hst hv hcl hj haft hun hK
            have hKv := fun v h => hK v wq (Upd.refl _ _) (putv_other (by decide) hv) h
            obtain ⟨v78, h78, j78⟩ := hD.dep hj haft 12 78 rfl rfl
            replace j78 : v78 = (.tuple #[.agg #[.int .i64 nt, .bool true, .int .u32 ne1, .int .u32 nm1, .bool nf1, .bool ns2, .int .u32 ne2, .int .u32 nm2, .bool nf2], .bool gd]) := j78
            subst j78
            replace hst : Upd (One g9) _ wq := hst
            clear hD hj haft
            have e78 := eval_of h78
            refine step_now (v := .bool gd) (w' := wq) (wanted_free rfl) ?_ (hKv _ rfl)
            clear hK hKv hv hcl hun
            first | (go_simp; done) | (go_simp; rfl) | (go_simp; (try simp only [IntKind.wrap_u32]); omega)
          · intro listed vals a wq K hD hst hv hcl hj haft hun hK
            obtain ⟨v91, h91, j91⟩ := hD.dep hj haft 13 91 rfl rfl
            replace j91 : v91 = (.agg #[.int .i64 nt, .bool true, .int .u32 ne1, .int .u32 nm1, .bool nf1, .bool ns2, .int .u32 ne2, .int .u32 nm2, .bool nf2]) := j91
            subst j91
            have h9 := hD.out 9 rfl rfl
            replace hst : Upd (One g9) _ wq := hst
            clear hD hj haft
            have e9 := eval_of h9
            have e91 := eval_of h91
            refine rg_step_store (cells := #[.int .i64 nt, .bool true, .int .u32 ne1, .int .u32 nm1, .bool nf1, .bool ns2, .int .u32 ne2, .int .u32 nm2, .bool nf2]) (W0 := wq) (wanted_free rfl) rfl e9 e91 (putv_not hv (un_of hun)) (stput_refl _ _ _) (by kernel_rfl) rfl rfl (fun w2 hs2 hg2 => hK _ w2 hs2.1 (putv_self hg2) trivial)
          · intro listed vals a wq K hD hst hv hcl hj haft hun hK
            have hKv := fun v h => hK v wq (Upd.refl _ _) (putv_other (by decide) hv) h
            obtain ⟨v92, h92, j92⟩ := hD.dep hj haft 14 92 rfl rfl
            replace j92 : v92 = (.bool gd) := j92
            subst j92
            replace hst : Upd (One g9) _ wq := hst
            clear hD hj haft
            have e92 := eval_of h92
            refine step_now (v := .bool gd) (w' := wq) (wanted_free rfl) ?_ (hKv _ rfl)
            clear hK hKv hv hcl hun
            first | (go_simp; done) | (go_simp; rfl) | (go_simp; (try simp only [IntKind.wrap_u32]); omega)
        case hEnd =>
          intro vals wend dn hst hdn hv hj
          have j0 : vals 0 = (.agg #[.int .i64 st, .bool true, .int .u32 e1, .int .u32 m1, .bool f1, .bool s2, .int .u32 e2, .int .u32 m2, .bool f2]) := hj 0 (by decide)
          have j1 : vals 1 = (.slice (some ad) l.length c) := hj 1 (by decide)
          have j2 : vals 2 = (.int .i64 k) := hj 2 (by decide)
          have j3 : vals 3 = (.pointer (some (ad.add (k * 11)))) := hj 3 (by decide)
          have j4 : vals 4 = (.pointer (some (ad.add (k * 11)))) := hj 4 (by decide)
          have j5 : vals 5 = (.bool true) := hj 5 (by decide)
          have j6 : vals 6 = (.slice (some ad) l.length c) := hj 6 (by decide)
          have j7 : vals 7 = (.int .i64 k) := hj 7 (by decide)
          have j8 : vals 8 = (.pointer (some (ad.add (k * 11)))) := hj 8 (by decide)
          have j9 : vals 9 = (.pointer (some ⟨(ad.add (k * 11)).block, (ad.add (k * 11)).off + 1, none⟩)) := hj 9 (by decide)
          have j10 : vals 10 = (.agg #[.int .i64 sp, .int .i64 dp, .int .u32 sq, .int .u32 ak, .int .i64 fl, .int .i64 wi, .int .i64 ty, .int .i64 co, .int .i64 he, .int .i64 da]) := hj 10 (by decide)
          have j11 : vals 11 = (.tuple #[.agg #[.int .i64 nt, .bool true, .int .u32 ne1, .int .u32 nm1, .bool nf1, .bool ns2, .int .u32 ne2, .int .u32 nm2, .bool nf2], .bool gd]) := hj 11 (by decide)
          have j12 : vals 12 = (.tuple #[.agg #[.int .i64 nt, .bool true, .int .u32 ne1, .int .u32 nm1, .bool nf1, .bool ns2, .int .u32 ne2, .int .u32 nm2, .bool nf2], .bool gd]) := hj 12 (by decide)
          have j13 : vals 13 = (.agg #[.int .i64 nt, .bool true, .int .u32 ne1, .int .u32 nm1, .bool nf1, .bool ns2, .int .u32 ne2, .int .u32 nm2, .bool nf2]) := hj 13 (by decide)
          have j14 : vals 14 = (.bool gd) := hj 14 (by decide)
          have j15 : (fun (v : Value) (w1 : World) => True) (vals 15) wend := hj 15 (by decide)
          have j16 : vals 16 = (.bool gd) := hj 16 (by decide)
          replace hst : Upd (One g9) _ wend := hst
          have hvE := putv_end hv (hdn 15 (by decide))
          clear hj hv hdn
          simp only [List.take_succ_cons, List.take_zero, List.drop_succ_cons, List.drop_zero, putL, Act.put, List.setIfInBounds_toArray, List.set_cons_zero, List.set_cons_succ, j0, j1, j2, j3, j4, j5, j6, j7, j8, j9, j10, j11, j12, j13, j14, j16]
          clear j0 j1 j2 j3 j4 j5 j6 j7 j8 j9 j10 j11 j12 j13 j14 j16
          have HB_56 := Aside0.mk (below_upd HB_55.out hst (below_size HB_55.out) (fun k hk => by cases hk; exact Lg9.out))
          clear HB_55
          have Bg11_56 := Aside0.mk (Upd.blk hst Bg11_55.out (One.not (Ne.symm Ng9g11.out)))
          clear Bg11_55
          have Bg16_56 := Aside0.mk (Upd.blk hst Bg16_55.out (One.not (Ne.symm Ng9g16.out)))
          clear Bg16_55
          have Bg9_56 := Aside0.mk hvE
          clear hst hvE Bg9_55
          go_upto_region 17 with fail
          refine wp_region_rgv 13 (by kernel_rfl) (fun x y => Upd (One g11) x y) (PutV 11 g11 #[.int .i64 st, .bool true, .int .u32 d1, .int .u32 n1, .bool f1, .bool s2, .int .u32 d2, .int .u32 n2, .bool f2] #[.int .i64 nt, .bool true, .int .u32 oe1, .int .u32 om1, .bool nf1, .bool ns2, .int .u32 oe2, .int .u32 om2, .bool nf2] 41) (fun (i : Nat) (v : Value) (w1 : World) => match i with | 0 => v = (.agg #[.int .i64 st, .bool true, .int .u32 d1, .int .u32 n1, .bool f1, .bool s2, .int .u32 d2, .int .u32 n2, .bool f2]) | 1 => v = (.slice (some ad) l.length c) | 2 => v = (.int .i64 k) | 3 => v = (.pointer (some (ad.add (k * 11)))) | 4 => v = (.pointer (some (ad.add (k * 11)))) | 5 => v = (.bool true) | 6 => v = (.agg #[.int .i64 sp, .int .i64 dp, .int .u32 v2, .int .u32 v3, .int .i64 fl, .int .i64 wi, .int .i64 ty, .int .i64 co, .int .i64 he, .int .i64 da]) | 7 => v = (.tuple #[.agg #[.int .i64 nt, .bool true, .int .u32 oe1, .int .u32 om1, .bool nf1, .bool ns2, .int .u32 oe2, .int .u32 om2, .bool nf2], .bool gd]) | 8 => v = (.tuple #[.agg #[.int .i64 nt, .bool true, .int .u32 oe1, .int .u32 om1, .bool nf1, .bool ns2, .int .u32 oe2, .int .u32 om2, .bool nf2], .bool gd]) | 9 => v = (.agg #[.int .i64 nt, .bool true, .int .u32 oe1, .int .u32 om1, .bool nf1, .bool ns2, .int .u32 oe2, .int .u32 om2, .bool nf2]) | 10 => v = (.bool gd) | 11 => True | 12 => v = (.bool gd) | _ => True) (by kernel_rfl) (by kernel_rfl) (by kernel_rfl) (by kernel_rfl) (fun _ _ _ h k => Upd.trans h k) (Upd.refl _ _).drew (putv_start (blk_drew Bg11_56.out)) ?hJst ?hObl ?hEnd
          case hJst =>
            intro i v wx wy hi hs0 hs1 hJi
            match i, hi with
            | 0, _ => exact hJi
            | 1, _ => exact hJi
            | 2, _ => exact hJi
            | 3, _ => exact hJi
            | 4, _ => exact hJi
            | 5, _ => exact hJi
            | 6, _ => exact hJi
            | 7, _ => exact hJi
            | 8, _ => exact hJi
            | 9, _ => exact hJi
            | 10, _ => exact hJi
            | 11, _ => replace hJi : (fun (v : Value) (w1 : World) => True) v wx := hJi; exact trivial
            | 12, _ => exact hJi
            | _ + 13, hi => exact absurd hi (by simp)
          case hObl =>
            refine ⟨?_, ?_, ?_, ?_, ?_, ?_, ?_, ?_, ?_, ?_, ?_, ?_, ?_,  trivial⟩
            · intro listed vals a wq K hD hst hv hcl hj haft hun hK
              have hKv := fun v h => hK v wq (Upd.refl _ _) (putv_other (by decide) hv) h
              have h11 := hD.out 11 rfl rfl
              replace hst : Upd (One g11) _ wq := hst
              clear hD hj haft
              have e11 := eval_of h11
              exact step_now (v := .agg #[.int .i64 st, .bool true, .int .u32 d1, .int .u32 n1, .bool f1, .bool s2, .int .u32 d2, .int .u32 n2, .bool f2]) (w' := wq) (wanted_free rfl) (rg_loadall rfl e11 (putv_not hv (not_yet (i := 0) (j := 11) hcl (by kernel_rfl) (by kernel_rfl) hun)) Try.underlying41 rfl (by kernel_rfl)) (hKv _ rfl)
            · intro listed vals a wq K hD hst hv hcl hj haft hun hK
              have hKv := fun v h => hK v wq (Upd.refl _ _) (putv_other (by decide) hv) h
              have h1 := hD.out 1 rfl rfl
              replace hst : Upd (One g11) _ wq := hst
              clear hD hj haft
              have e1 := eval_of h1
              refine step_now (v := .slice (some ad) l.length c) (w' := wq) (wanted_free rfl) ?_ (hKv _ rfl)
              clear hK hKv hv hcl hun
              first | (go_simp; done) | (go_simp; rfl) | (go_simp; (try simp only [IntKind.wrap_u32]); omega)
            · intro listed vals a wq K hD hst hv hcl hj haft hun hK
              have hKv := fun v h => hK v wq (Upd.refl _ _) (putv_other (by decide) hv) h
              have h15 := hD.out 15 rfl rfl
              replace hst : Upd (One g11) _ wq := hst
              clear hD hj haft
              have e15 := eval_of h15
              refine step_now (v := .int .i64 k) (w' := wq) (wanted_free rfl) ?_ (hKv _ rfl)
              clear hK hKv hv hcl hun
              first | (go_simp; done) | (go_simp; rfl) | (go_simp; (try simp only [IntKind.wrap_u32]); omega)
            · intro listed vals a wq K hD hst hv hcl hj haft hun hK
              have hKv := fun v h => hK v wq (Upd.refl _ _) (putv_other (by decide) hv) h
              obtain ⟨v95, h95, j95⟩ := hD.dep hj haft 1 95 rfl rfl
              replace j95 : v95 = (.slice (some ad) l.length c) := j95
              subst j95
              obtain ⟨v96, h96, j96⟩ := hD.dep hj haft 2 96 rfl rfl
              replace j96 : v96 = (.int .i64 k) := j96
              subst j96
              replace hst : Upd (One g11) _ wq := hst
              clear hD hj haft
              have e95 := eval_of h95
              have e96 := eval_of h96
              exact step_now (w' := wq) (wanted_free rfl) (rg_index rfl e95 e96 HLT.out) (hKv _ rfl)
            · intro listed vals a wq K hD hst hv hcl hj haft hun hK
              have hKv := fun v h => hK v wq (Upd.refl _ _) (putv_other (by decide) hv) h
              obtain ⟨v97, h97, j97⟩ := hD.dep hj haft 3 97 rfl rfl
              replace j97 : v97 = (.pointer (some (ad.add (k * 11)))) := j97
              subst j97
              replace hst : Upd (One g11) _ wq := hst
              clear hD hj haft
              have e97 := eval_of h97
              exact step_now (w' := wq) (wanted_free rfl) (rg_field0 rfl e97) (hKv _ rfl)
            · intro listed vals a wq K hD hst hv hcl hj haft hun hK
              have hKv := fun v h => hK v wq (Upd.refl _ _) (putv_other (by decide) hv) h
              obtain ⟨v98, h98, j98⟩ := hD.dep hj haft 4 98 rfl rfl
              replace j98 : v98 = (.pointer (some (ad.add (k * 11)))) := j98
              subst j98
              replace hst : Upd (One g11) _ wq := hst
              clear hD hj haft
              have e98 := eval_of h98
              exact step_now (w' := wq) (wanted_free rfl) (rg_loadcell rfl e98 (script_cell HS.out (below_upd HB_56.out hst (below_size HB_56.out) (fun k hk => by cases hk; exact Lg11.out)) HX.out) Try.underlying4 rfl) (hKv _ rfl)
            · intro listed vals a wq K hD hst hv hcl hj haft hun hK
              have hKv := fun v h => hK v wq (Upd.refl _ _) (putv_other (by decide) hv) h
              have h16 := hD.out 16 rfl rfl
              replace hst : Upd (One g11) _ wq := hst
              clear hD hj haft
              have e16 := eval_of h16
              exact step_now (v := .agg #[.int .i64 sp, .int .i64 dp, .int .u32 v2, .int .u32 v3, .int .i64 fl, .int .i64 wi, .int .i64 ty, .int .i64 co, .int .i64 he, .int .i64 da]) (w' := wq) (wanted_free rfl) (rg_loadall rfl e16 (Upd.blk hst Bg16_56.out (One.not (Ne.symm Ng11g16.out))) Try.underlying43 rfl (by kernel_rfl)) (hKv _ rfl)
            · intro listed vals a wq K hD hst hv hcl hj haft hun hK
              have hKv := fun v h => hK v wq (Upd.refl _ _) (putv_other (by decide) hv) h
              obtain ⟨v94, h94, j94⟩ := hD.dep hj haft 0 94 rfl rfl
              replace j94 : v94 = (.agg #[.int .i64 st, .bool true, .int .u32 d1, .int .u32 n1, .bool f1, .bool s2, .int .u32 d2, .int .u32 n2, .bool f2]) := j94
              subst j94
              obtain ⟨v99, h99, j99⟩ := hD.dep hj haft 5 99 rfl rfl
              replace j99 : v99 = (.bool true) := j99
              subst j99
              obtain ⟨v100, h100, j100⟩ := hD.dep hj haft 6 100 rfl rfl
              replace j100 : v100 = (.agg #[.int .i64 sp, .int .i64 dp, .int .u32 v2, .int .u32 v3, .int .i64 fl, .int .i64 wi, .int .i64 ty, .int .i64 co, .int .i64 he, .int .i64 da]) := j100
              subst j100
              replace hst : Upd (One g11) _ wq := hst
              clear hD hj haft
              have e94 := eval_of h94
              have e99 := eval_of h99
              have e100 := eval_of h100
              refine step_call (f := 17) (args := #[.agg #[.int .i64 st, .bool true, .int .u32 d1, .int .u32 n1, .bool f1, .bool s2, .int .u32 d2, .int .u32 n2, .bool f2], .bool true, .agg #[.int .i64 sp, .int .i64 dp, .int .u32 v2, .int .u32 v3, .int .i64 fl, .int .i64 wi, .int .i64 ty, .int .i64 co, .int .i64 he, .int .i64 da]]) (wanted_free rfl) ?_ (next_as ⟨st, ⟨true, d1, n1, f1⟩, ⟨s2, d2, n2, f2⟩⟩ true ⟨sp, dp, v2, v3, fl, wi, ty, co, he, da⟩ _ ⟨true, oe1, om1, _⟩ ⟨_, oe2, om2, _⟩ _ HO.out wq) ?_
              · clear hK hKv hv hcl hun; first | (go_simp; done) | (go_simp; rfl)
              · rintro e w' ⟨rfl, hbq⟩; exact ⟨_, rfl, hK _ _ (Upd.of_below hbq (Nat.le_refl _) _) (putv_below (by decide) hv hbq) rfl⟩
            · intro listed vals a wq K hD hst hv hcl hj haft hun hK
              have hKv := fun v h => hK v wq (Upd.refl _ _) (putv_other (by decide) hv) h
              obtain ⟨v101, h101, j101⟩ := hD.dep hj haft 7 101 rfl rfl
              replace j101 : v101 = (.tuple #[.agg #[.int .i64 nt, .bool true, .int .u32 oe1, .int .u32 om1, .bool nf1, .bool ns2, .int .u32 oe2, .int .u32 om2, .bool nf2], .bool gd]) := j101
              subst j101
              replace hst : Upd (One g11) _ wq := hst
              clear hD hj haft
              have e101 := eval_of h101
              refine step_now (v := .tuple #[.agg #[.int .i64 nt, .bool true, .int .u32 oe1, .int .u32 om1, .bool nf1, .bool ns2, .int .u32 oe2, .int .u32 om2, .bool nf2], .bool gd]) (w' := wq) (wanted_free rfl) ?_ (hKv _ rfl)
              clear hK hKv hv hcl hun
              first | (go_simp; done) | (go_simp; rfl) | (go_simp; (try simp only [IntKind.wrap_u32]); omega)
            · intro listed vals a wq K hD hst hv hcl hj haft hun hK
              have hKv := fun v h => hK v wq (Upd.refl _ _) (putv_other (by decide) hv) h
              obtain ⟨v93, h93, j93⟩ := hD.dep hj haft 8 93 rfl rfl
              replace j93 : v93 = (.tuple #[.agg #[.int .i64 nt, .bool true, .int .u32 oe1, .int .u32 om1, .bool nf1, .bool ns2, .int .u32 oe2, .int .u32 om2, .bool nf2], .bool gd]) := j93
              subst j93
              replace hst : Upd (One g11) _ wq := hst
              clear hD hj haft
              have e93 := eval_of h93
              refine step_now (v := .agg #[.int .i64 nt, .bool true, .int .u32 oe1, .int .u32 om1, .bool nf1, .bool ns2, .int .u32 oe2, .int .u32 om2, .bool nf2]) (w' := wq) (wanted_free rfl) ?_ (hKv _ rfl)
              clear hK hKv hv hcl hun
              first | (go_simp; done) | (go_simp; rfl) | (go_simp; (try simp only [IntKind.wrap_u32]); omega)
            · intro listed vals a wq K hD hst hv hcl hj haft hun hK
              have hKv := fun v h => hK v wq (Upd.refl _ _) (putv_other (by decide) hv) h
              obtain ⟨v93, h93, j93⟩ := hD.dep hj haft 8 93 rfl rfl
              replace j93 : v93 = (.tuple #[.agg #[.int .i64 nt, .bool true, .int .u32 oe1, .int .u32 om1, .bool nf1, .bool ns2, .int .u32 oe2, .int .u32 om2, .bool nf2], .bool gd]) := j93
              subst j93
              replace hst : Upd (One g11) _ wq := hst
              clear hD hj haft
              have e93 := eval_of h93
              refine step_now (v := .bool gd) (w' := wq) (wanted_free rfl) ?_ (hKv _ rfl)
              clear hK hKv hv hcl hun
              first | (go_simp; done) | (go_simp; rfl) | (go_simp; (try simp only [IntKind.wrap_u32]); omega)
            · intro listed vals a wq K hD hst hv hcl hj haft hun hK
              obtain ⟨v102, h102, j102⟩ := hD.dep hj haft 9 102 rfl rfl
              replace j102 : v102 = (.agg #[.int .i64 nt, .bool true, .int .u32 oe1, .int .u32 om1, .bool nf1, .bool ns2, .int .u32 oe2, .int .u32 om2, .bool nf2]) := j102
              subst j102
              have h11 := hD.out 11 rfl rfl
              replace hst : Upd (One g11) _ wq := hst
              clear hD hj haft
              have e11 := eval_of h11
              have e102 := eval_of h102
              refine rg_step_store (cells := #[.int .i64 nt, .bool true, .int .u32 oe1, .int .u32 om1, .bool nf1, .bool ns2, .int .u32 oe2, .int .u32 om2, .bool nf2]) (W0 := wq) (wanted_free rfl) rfl e11 e102 (putv_not hv (un_of hun)) (stput_refl _ _ _) (by kernel_rfl) rfl rfl (fun w2 hs2 hg2 => hK _ w2 hs2.1 (putv_self hg2) trivial)
            · intro listed vals a wq K hD hst hv hcl hj haft hun hK
              have hKv := fun v h => hK v wq (Upd.refl _ _) (putv_other (by decide) hv) h
              obtain ⟨v103, h103, j103⟩ := hD.dep hj haft 10 103 rfl rfl
              replace j103 : v103 = (.bool gd) := j103
              subst j103
              replace hst : Upd (One g11) _ wq := hst
              clear hD hj haft
              have e103 := eval_of h103
              refine step_now (v := .bool gd) (w' := wq) (wanted_free rfl) ?_ (hKv _ rfl)
              clear hK hKv hv hcl hun
              first | (go_simp; done) | (go_simp; rfl) | (go_simp; (try simp only [IntKind.wrap_u32]); omega)
          case hEnd =>
            intro vals wend dn hst hdn hv hj
            have j0 : vals 0 = (.agg #[.int .i64 st, .bool true, .int .u32 d1, .int .u32 n1, .bool f1, .bool s2, .int .u32 d2, .int .u32 n2, .bool f2]) := hj 0 (by decide)
            have j1 : vals 1 = (.slice (some ad) l.length c) := hj 1 (by decide)
            have j2 : vals 2 = (.int .i64 k) := hj 2 (by decide)
            have j3 : vals 3 = (.pointer (some (ad.add (k * 11)))) := hj 3 (by decide)
            have j4 : vals 4 = (.pointer (some (ad.add (k * 11)))) := hj 4 (by decide)
            have j5 : vals 5 = (.bool true) := hj 5 (by decide)
            have j6 : vals 6 = (.agg #[.int .i64 sp, .int .i64 dp, .int .u32 v2, .int .u32 v3, .int .i64 fl, .int .i64 wi, .int .i64 ty, .int .i64 co, .int .i64 he, .int .i64 da]) := hj 6 (by decide)
            have j7 : vals 7 = (.tuple #[.agg #[.int .i64 nt, .bool true, .int .u32 oe1, .int .u32 om1, .bool nf1, .bool ns2, .int .u32 oe2, .int .u32 om2, .bool nf2], .bool gd]) := hj 7 (by decide)
            have j8 : vals 8 = (.tuple #[.agg #[.int .i64 nt, .bool true, .int .u32 oe1, .int .u32 om1, .bool nf1, .bool ns2, .int .u32 oe2, .int .u32 om2, .bool nf2], .bool gd]) := hj 8 (by decide)
            have j9 : vals 9 = (.agg #[.int .i64 nt, .bool true, .int .u32 oe1, .int .u32 om1, .bool nf1, .bool ns2, .int .u32 oe2, .int .u32 om2, .bool nf2]) := hj 9 (by decide)
            have j10 : vals 10 = (.bool gd) := hj 10 (by decide)
            have j11 : (fun (v : Value) (w1 : World) => True) (vals 11) wend := hj 11 (by decide)
            have j12 : vals 12 = (.bool gd) := hj 12 (by decide)
            replace hst : Upd (One g11) _ wend := hst
            have hvE := putv_end hv (hdn 11 (by decide))
            clear hj hv hdn
            simp only [List.take_succ_cons, List.take_zero, List.drop_succ_cons, List.drop_zero, putL, Act.put, List.setIfInBounds_toArray, List.set_cons_zero, List.set_cons_succ, j0, j1, j2, j3, j4, j5, j6, j7, j8, j9, j10, j12]
            clear j0 j1 j2 j3 j4 j5 j6 j7 j8 j9 j10 j12
            have HB_57 := Aside0.mk (below_upd HB_56.out hst (below_size HB_56.out) (fun k hk => by cases hk; exact Lg11.out))
            clear HB_56
            have Bg9_57 := Aside0.mk (Upd.blk hst Bg9_56.out (One.not Ng9g11.out))
            clear Bg9_56
            have Bg16_57 := Aside0.mk (Upd.blk hst Bg16_56.out (One.not (Ne.symm Ng11g16.out)))
            clear Bg16_56
            have Bg11_57 := Aside0.mk hvE
            clear hst hvE Bg11_56
            have hc1 : (ne1 + a) % 4294967296 = oe1 := (HR2.out.a.e rfl).symm
            cases ns2
            · go_wp2_with (first | ((with_reducible refine gate_dst (N := 109) rfl ?_); (refine gate_guard (by rfl) ?_; dsimp only); refine load1_event rfl _ _ rfl g9 0 rfl _ _ _ _ Bg9_57.out rfl Try.underlying3 rfl ?_) | ((with_reducible refine gate_dst (N := 111) rfl ?_); (refine gate_guard (by rfl) ?_; dsimp only); refine load1_event rfl _ _ rfl g11 0 rfl _ _ _ _ Bg11_57.out rfl Try.underlying3 rfl ?_) | ((with_reducible refine gate_dst (N := 117) rfl ?_); (refine gate_guard (by rfl) ?_; dsimp only); refine load1_event rfl _ _ rfl g9 1 rfl _ _ _ _ Bg9_57.out rfl Try.underlying4 rfl ?_) | ((with_reducible refine gate_dst (N := 120) rfl ?_); (refine gate_guard (by rfl) ?_; dsimp only); refine load1_event rfl _ _ rfl g11 1 rfl _ _ _ _ Bg11_57.out rfl Try.underlying4 rfl ?_) | ((with_reducible refine gate_dst (N := 126) rfl ?_); (refine gate_guard (by rfl) ?_; dsimp only); refine load1_event rfl _ _ rfl g9 5 rfl _ _ _ _ Bg9_57.out rfl Try.underlying4 rfl ?_) | ((with_reducible refine gate_dst (N := 129) rfl ?_); (refine gate_guard (by rfl) ?_; dsimp only); refine load1_event rfl _ _ rfl g11 5 rfl _ _ _ _ Bg11_57.out rfl Try.underlying4 rfl ?_) | ((with_reducible refine gate_dst (N := 135) rfl ?_); (refine gate_guard (by rfl) ?_; dsimp only); refine load1_event rfl _ _ rfl g9 2 rfl _ _ _ _ Bg9_57.out rfl Try.underlying33 rfl ?_) | ((with_reducible refine gate_dst (N := 140) rfl ?_); (refine gate_guard (by rfl) ?_; dsimp only); refine load1_event rfl _ _ rfl g11 2 rfl _ _ _ _ Bg11_57.out rfl Try.underlying33 rfl ?_) | ((with_reducible refine gate_dst (N := 146) rfl ?_); (refine gate_guard (by rfl) ?_; dsimp only); refine load1_event rfl _ _ rfl g9 5 rfl _ _ _ _ Bg9_57.out rfl Try.underlying4 rfl ?_))
              go_roundw
              case rel => exact ⟨k + 1, by have := HLT.out; omega, by go_num, ⟨nt, ne1, nm1, oe1, om1, ne2, nm2, oe2, om2, nf1, _, nf2, HR2.out, Bg9_57.out, Bg11_57.out⟩, HB_57⟩
              case measure => have := HLT.out; simp [intOf]; omega
            · have hc2 : (ne2 + b) % 4294967296 = oe2 := (HR2.out.b.e rfl).symm
              go_wp2_with (first | ((with_reducible refine gate_dst (N := 109) rfl ?_); (refine gate_guard (by rfl) ?_; dsimp only); refine load1_event rfl _ _ rfl g9 0 rfl _ _ _ _ Bg9_57.out rfl Try.underlying3 rfl ?_) | ((with_reducible refine gate_dst (N := 111) rfl ?_); (refine gate_guard (by rfl) ?_; dsimp only); refine load1_event rfl _ _ rfl g11 0 rfl _ _ _ _ Bg11_57.out rfl Try.underlying3 rfl ?_) | ((with_reducible refine gate_dst (N := 117) rfl ?_); (refine gate_guard (by rfl) ?_; dsimp only); refine load1_event rfl _ _ rfl g9 1 rfl _ _ _ _ Bg9_57.out rfl Try.underlying4 rfl ?_) | ((with_reducible refine gate_dst (N := 120) rfl ?_); (refine gate_guard (by rfl) ?_; dsimp only); refine load1_event rfl _ _ rfl g11 1 rfl _ _ _ _ Bg11_57.out rfl Try.underlying4 rfl ?_) | ((with_reducible refine gate_dst (N := 126) rfl ?_); (refine gate_guard (by rfl) ?_; dsimp only); refine load1_event rfl _ _ rfl g9 5 rfl _ _ _ _ Bg9_57.out rfl Try.underlying4 rfl ?_) | ((with_reducible refine gate_dst (N := 129) rfl ?_); (refine gate_guard (by rfl) ?_; dsimp only); refine load1_event rfl _ _ rfl g11 5 rfl _ _ _ _ Bg11_57.out rfl Try.underlying4 rfl ?_) | ((with_reducible refine gate_dst (N := 135) rfl ?_); (refine gate_guard (by rfl) ?_; dsimp only); refine load1_event rfl _ _ rfl g9 2 rfl _ _ _ _ Bg9_57.out rfl Try.underlying33 rfl ?_) | ((with_reducible refine gate_dst (N := 140) rfl ?_); (refine gate_guard (by rfl) ?_; dsimp only); refine load1_event rfl _ _ rfl g11 2 rfl _ _ _ _ Bg11_57.out rfl Try.underlying33 rfl ?_) | ((with_reducible refine gate_dst (N := 146) rfl ?_); (refine gate_guard (by rfl) ?_; dsimp only); refine load1_event rfl _ _ rfl g9 5 rfl _ _ _ _ Bg9_57.out rfl Try.underlying4 rfl ?_) | ((with_reducible refine gate_dst (N := 150) rfl ?_); (refine gate_guard (by rfl) ?_; dsimp only); refine load1_event rfl _ _ rfl g9 6 rfl _ _ _ _ Bg9_57.out rfl Try.underlying33 rfl ?_) | ((with_reducible refine gate_dst (N := 155) rfl ?_); (refine gate_guard (by rfl) ?_; dsimp only); refine load1_event rfl _ _ rfl g11 6 rfl _ _ _ _ Bg11_57.out rfl Try.underlying33 rfl ?_))
              go_roundw
              case rel => exact ⟨k + 1, by have := HLT.out; omega, by go_num, ⟨nt, ne1, nm1, oe1, om1, ne2, nm2, oe2, om2, nf1, _, nf2, HR2.out, Bg9_57.out, Bg11_57.out⟩, HB_57⟩
              case measure => have := HLT.out; simp [intOf]; omega
end Go.Proofs.Ytainkpgplmkiaaa.WindowWrapsWalk
