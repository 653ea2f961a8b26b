/- The reference's window: its small functions and its Open: contracts. No condition. -/
import Derived.Test.YtainkpgplmkiaaaWin6
import Derived.Test.YtainkpgplmkiaaaWinFlags
namespace Go.Proofs.Ytainkpgplmkiaaa.RefWin
open Go Go.RowKit Go.Proofs.YtainkpgplmkiaaaW.PrintWords Go.Proofs.YtainkpgplmkiaaaW.PrintLast Go.Proofs.YtainkpgplmkiaaaW.PrintMore Go.Proofs.Ytainkpgplmkiaaa.MWorld Go.Proofs.Ytainkpgplmkiaaa.Ev Go.Proofs.Ytainkpgplmkiaaa.Win Go.Proofs.Ytainkpgplmkiaaa.Win2 Go.Proofs.Ytainkpgplmkiaaa.Rg Go.Proofs.Ytainkpgplmkiaaa.WinModel Go.Proofs.Ytainkpgplmkiaaa.Win6 Go.Proofs.Ytainkpgplmkiaaa.WinFlags
set_option linter.unusedVariables false
set_option linter.unusedSimpArgs false
theorem rless_any (a b : Int) (w : World) : Calls Try.prog 46 #[.int .u32 a, .int .u32 b] w fun e w' => e = .returned (.bool (less a b)) ∧ w = w' := by
  by_cases h1 : 1 ≤ (b - a) % 4294967296
  · go_enter Try.func46, Try.ntmps46
    go_wp2
    go_ret
    refine ⟨ret_bool ?_, rfl⟩
    unfold less
    rw [decide_eq_decide]; omega
  · have hl : less a b = false := decide_eq_false (fun h => h1 h.1)
    rw [hl]
    go_enter Try.func46, Try.ntmps46
    go_wp2
    go_ret
    exact ⟨rfl, rfl⟩
theorem greater_any (a b : Int) (w : World) : Calls Try.prog 48 #[.int .u32 a, .int .u32 b] w fun e w' => e = .returned (.int .u32 (later a b)) ∧ w = w' := by
  cases hl : less a b
  all_goals
    have hq : later a b = if less a b then b else a := rfl
    rw [hl] at hq
    rw [hq]
    clear hq
    go_enter Try.func48, Try.ntmps48
    go_wp2_with (go_at_call 46; refine (rless_any _ _ _).mono ?_; rintro e w' ⟨rfl, rfl⟩; rw [hl])
    go_ret
    exact ⟨rfl, rfl⟩
set_option maxRecDepth 100000 in
theorem has_any (sp dp sq ak fl wi ty co he da n : Int) (w : World) : Calls Try.prog 45 #[.agg #[.int .i64 sp, .int .i64 dp, .int .u32 sq, .int .u32 ak, .int .i64 fl, .int .i64 wi, .int .i64 ty, .int .i64 co, .int .i64 he, .int .i64 da], .int .i64 n] w fun e w' => e = .returned (.bool (flag fl n)) ∧ Below w.heap.size w w' := by
  go_enter Try.func45, Try.ntmps45
  go_wp2_with (first | ((with_reducible refine gate_dst (N := 2) rfl ?_); refine box_event ?hg (N := 2) ?hd (cs := #[.int .i64 sp, .int .i64 dp, .int .u32 sq, .int .u32 ak, .int .i64 fl, .int .i64 wi, .int .i64 ty, .int .i64 co, .int .i64 he, .int .i64 da]) (t := 52) ?hr ?_; (case hd => rfl); (case hg => rfl); (case hr => first | (go_simp; done) | (go_simp; rfl)); intro g2 hgg wx1 hbox hb; have Lg2 := Aside0.mk (show w.heap.size ≤ g2 by rw [hgg]; exact Nat.le_refl _); have HB_1 := Aside0.mk (hb); have Bg2_1 := Aside0.mk hbox; clear hbox hb hgg) | ((with_reducible refine gate_dst (N := 6) rfl ?_); refine load1_event rfl _ _ rfl g2 4 rfl _ _ _ _ Bg2_1.out rfl Try.underlying3 rfl ?_))
  go_ret
  exact ⟨rfl, HB_1.out⟩
theorem has_as (sp dp sq ak fl wi ty co he da n : Int) (b : Bool) (h : flag fl n = b) (w : World) : Calls Try.prog 45 #[.agg #[.int .i64 sp, .int .i64 dp, .int .u32 sq, .int .u32 ak, .int .i64 fl, .int .i64 wi, .int .i64 ty, .int .i64 co, .int .i64 he, .int .i64 da], .int .i64 n] w fun e w' => e = .returned (.bool b) ∧ Below w.heap.size w w' := by
  have := has_any sp dp sq ak fl wi ty co he da n w
  rw [h] at this
  exact this
set_option maxRecDepth 100000 in
set_option maxHeartbeats 4000000 in
theorem end_00 (sp dp sq ak fl wi ty co he da en : Int) (w : World) (h2 : Aside0 (flag fl 2 = false)) (h1 : Aside0 (flag fl 1 = false)) (he' : Aside0 (endOf sq fl da = en)) : Calls Try.prog 47 #[.agg #[.int .i64 sp, .int .i64 dp, .int .u32 sq, .int .u32 ak, .int .i64 fl, .int .i64 wi, .int .i64 ty, .int .i64 co, .int .i64 he, .int .i64 da]] w fun e w' => e = .returned (.int .u32 en) ∧ Below w.heap.size w w' := by
  go_enter Try.func47, Try.ntmps47
  go_upto_region 2 with (first | ((with_reducible refine gate_dst (N := 1) rfl ?_); refine box_event ?hg (N := 1) ?hd (cs := #[.int .i64 sp, .int .i64 dp, .int .u32 sq, .int .u32 ak, .int .i64 fl, .int .i64 wi, .int .i64 ty, .int .i64 co, .int .i64 he, .int .i64 da]) (t := 52) ?hr ?_; (case hd => rfl); (case hg => rfl); (case hr => first | (go_simp; done) | (go_simp; rfl)); intro g1 hgg wx1 hbox hb; have Lg1 := Aside0.mk (show w.heap.size ≤ g1 by rw [hgg]; exact Nat.le_refl _); have HB_1 := Aside0.mk (hb); have Bg1_1 := Aside0.mk hbox; clear hbox hb hgg) | ((with_reducible refine gate_dst (N := 5) rfl ?_); refine load1_event rfl _ _ rfl g1 2 rfl _ _ _ _ Bg1_1.out rfl Try.underlying33 rfl ?_) | ((with_reducible refine gate_dst (N := 7) rfl ?_); refine load1_event rfl _ _ rfl g1 9 rfl _ _ _ _ Bg1_1.out rfl Try.underlying3 rfl ?_))
  go_upto_region 4 with (first | ((with_reducible refine gate_dst (N := 10) rfl ?_); refine load_event rfl 52 _ rfl g1 rfl _ _ _ Bg1_1.out Try.underlying52 rfl (by kernel_rfl) ?_) | (go_at_call 45; refine (has_as sp dp sq ak fl wi ty co he da 2 false h2.out _).mono ?_; rintro e wx2 ⟨rfl, hb⟩; have HB_2 := Aside0.mk (below_step HB_1.out hb); clear HB_1; have Bg1_2 := Aside0.mk (blk_below Bg1_1.out hb); clear Bg1_1; clear hb))
  go_wp2_with (first | ((with_reducible refine gate_dst (N := 14) rfl ?_); refine load_event rfl 52 _ rfl g1 rfl _ _ _ Bg1_2.out Try.underlying52 rfl (by kernel_rfl) ?_) | (go_at_call 45; refine (has_as sp dp sq ak fl wi ty co he da 1 false h1.out _).mono ?_; rintro e wx3 ⟨rfl, hb⟩; have HB_3 := Aside0.mk (below_step HB_2.out hb); clear HB_2; have Bg1_3 := Aside0.mk (blk_below Bg1_2.out hb); clear Bg1_2; clear hb))
  go_ret
  refine ⟨ret_int ?_, HB_3.out⟩
  have h2' := h2.out; have h1' := h1.out; have he2 := he'.out
  unfold endOf at he2; rw [h2', h1'] at he2
  subst he2
  simp only [if_true, if_false, Bool.false_eq_true, reduceIte]
  omega
set_option maxRecDepth 100000 in
set_option maxHeartbeats 4000000 in
theorem end_01 (sp dp sq ak fl wi ty co he da en : Int) (w : World) (h2 : Aside0 (flag fl 2 = false)) (h1 : Aside0 (flag fl 1 = true)) (he' : Aside0 (endOf sq fl da = en)) : Calls Try.prog 47 #[.agg #[.int .i64 sp, .int .i64 dp, .int .u32 sq, .int .u32 ak, .int .i64 fl, .int .i64 wi, .int .i64 ty, .int .i64 co, .int .i64 he, .int .i64 da]] w fun e w' => e = .returned (.int .u32 en) ∧ Below w.heap.size w w' := by
  go_enter Try.func47, Try.ntmps47
  go_upto_region 2 with (first | ((with_reducible refine gate_dst (N := 1) rfl ?_); refine box_event ?hg (N := 1) ?hd (cs := #[.int .i64 sp, .int .i64 dp, .int .u32 sq, .int .u32 ak, .int .i64 fl, .int .i64 wi, .int .i64 ty, .int .i64 co, .int .i64 he, .int .i64 da]) (t := 52) ?hr ?_; (case hd => rfl); (case hg => rfl); (case hr => first | (go_simp; done) | (go_simp; rfl)); intro g1 hgg wx1 hbox hb; have Lg1 := Aside0.mk (show w.heap.size ≤ g1 by rw [hgg]; exact Nat.le_refl _); have HB_1 := Aside0.mk (hb); have Bg1_1 := Aside0.mk hbox; clear hbox hb hgg) | ((with_reducible refine gate_dst (N := 5) rfl ?_); refine load1_event rfl _ _ rfl g1 2 rfl _ _ _ _ Bg1_1.out rfl Try.underlying33 rfl ?_) | ((with_reducible refine gate_dst (N := 7) rfl ?_); refine load1_event rfl _ _ rfl g1 9 rfl _ _ _ _ Bg1_1.out rfl Try.underlying3 rfl ?_))
  go_upto_region 4 with (first | ((with_reducible refine gate_dst (N := 10) rfl ?_); refine load_event rfl 52 _ rfl g1 rfl _ _ _ Bg1_1.out Try.underlying52 rfl (by kernel_rfl) ?_) | (go_at_call 45; refine (has_as sp dp sq ak fl wi ty co he da 2 false h2.out _).mono ?_; rintro e wx2 ⟨rfl, hb⟩; have HB_2 := Aside0.mk (below_step HB_1.out hb); clear HB_1; have Bg1_2 := Aside0.mk (blk_below Bg1_1.out hb); clear Bg1_1; clear hb))
  go_wp2_with (first | ((with_reducible refine gate_dst (N := 14) rfl ?_); refine load_event rfl 52 _ rfl g1 rfl _ _ _ Bg1_2.out Try.underlying52 rfl (by kernel_rfl) ?_) | (go_at_call 45; refine (has_as sp dp sq ak fl wi ty co he da 1 true h1.out _).mono ?_; rintro e wx3 ⟨rfl, hb⟩; have HB_3 := Aside0.mk (below_step HB_2.out hb); clear HB_2; have Bg1_3 := Aside0.mk (blk_below Bg1_2.out hb); clear Bg1_2; clear hb))
  go_ret
  refine ⟨ret_int ?_, HB_3.out⟩
  have h2' := h2.out; have h1' := h1.out; have he2 := he'.out
  unfold endOf at he2; rw [h2', h1'] at he2
  subst he2
  simp only [if_true, if_false, Bool.false_eq_true, reduceIte]
  omega
set_option maxRecDepth 100000 in
set_option maxHeartbeats 4000000 in
theorem end_10 (sp dp sq ak fl wi ty co he da en : Int) (w : World) (h2 : Aside0 (flag fl 2 = true)) (h1 : Aside0 (flag fl 1 = false)) (he' : Aside0 (endOf sq fl da = en)) : Calls Try.prog 47 #[.agg #[.int .i64 sp, .int .i64 dp, .int .u32 sq, .int .u32 ak, .int .i64 fl, .int .i64 wi, .int .i64 ty, .int .i64 co, .int .i64 he, .int .i64 da]] w fun e w' => e = .returned (.int .u32 en) ∧ Below w.heap.size w w' := by
  go_enter Try.func47, Try.ntmps47
  go_upto_region 2 with (first | ((with_reducible refine gate_dst (N := 1) rfl ?_); refine box_event ?hg (N := 1) ?hd (cs := #[.int .i64 sp, .int .i64 dp, .int .u32 sq, .int .u32 ak, .int .i64 fl, .int .i64 wi, .int .i64 ty, .int .i64 co, .int .i64 he, .int .i64 da]) (t := 52) ?hr ?_; (case hd => rfl); (case hg => rfl); (case hr => first | (go_simp; done) | (go_simp; rfl)); intro g1 hgg wx1 hbox hb; have Lg1 := Aside0.mk (show w.heap.size ≤ g1 by rw [hgg]; exact Nat.le_refl _); have HB_1 := Aside0.mk (hb); have Bg1_1 := Aside0.mk hbox; clear hbox hb hgg) | ((with_reducible refine gate_dst (N := 5) rfl ?_); refine load1_event rfl _ _ rfl g1 2 rfl _ _ _ _ Bg1_1.out rfl Try.underlying33 rfl ?_) | ((with_reducible refine gate_dst (N := 7) rfl ?_); refine load1_event rfl _ _ rfl g1 9 rfl _ _ _ _ Bg1_1.out rfl Try.underlying3 rfl ?_))
  go_upto_region 4 with (first | ((with_reducible refine gate_dst (N := 10) rfl ?_); refine load_event rfl 52 _ rfl g1 rfl _ _ _ Bg1_1.out Try.underlying52 rfl (by kernel_rfl) ?_) | (go_at_call 45; refine (has_as sp dp sq ak fl wi ty co he da 2 true h2.out _).mono ?_; rintro e wx2 ⟨rfl, hb⟩; have HB_2 := Aside0.mk (below_step HB_1.out hb); clear HB_1; have Bg1_2 := Aside0.mk (blk_below Bg1_1.out hb); clear Bg1_1; clear hb))
  go_wp2_with (first | ((with_reducible refine gate_dst (N := 14) rfl ?_); refine load_event rfl 52 _ rfl g1 rfl _ _ _ Bg1_2.out Try.underlying52 rfl (by kernel_rfl) ?_) | (go_at_call 45; refine (has_as sp dp sq ak fl wi ty co he da 1 false h1.out _).mono ?_; rintro e wx3 ⟨rfl, hb⟩; have HB_3 := Aside0.mk (below_step HB_2.out hb); clear HB_2; have Bg1_3 := Aside0.mk (blk_below Bg1_2.out hb); clear Bg1_2; clear hb))
  go_ret
  refine ⟨ret_int ?_, HB_3.out⟩
  have h2' := h2.out; have h1' := h1.out; have he2 := he'.out
  unfold endOf at he2; rw [h2', h1'] at he2
  subst he2
  simp only [if_true, if_false, Bool.false_eq_true, reduceIte]
  omega
set_option maxRecDepth 100000 in
set_option maxHeartbeats 4000000 in
theorem end_11 (sp dp sq ak fl wi ty co he da en : Int) (w : World) (h2 : Aside0 (flag fl 2 = true)) (h1 : Aside0 (flag fl 1 = true)) (he' : Aside0 (endOf sq fl da = en)) : Calls Try.prog 47 #[.agg #[.int .i64 sp, .int .i64 dp, .int .u32 sq, .int .u32 ak, .int .i64 fl, .int .i64 wi, .int .i64 ty, .int .i64 co, .int .i64 he, .int .i64 da]] w fun e w' => e = .returned (.int .u32 en) ∧ Below w.heap.size w w' := by
  go_enter Try.func47, Try.ntmps47
  go_upto_region 2 with (first | ((with_reducible refine gate_dst (N := 1) rfl ?_); refine box_event ?hg (N := 1) ?hd (cs := #[.int .i64 sp, .int .i64 dp, .int .u32 sq, .int .u32 ak, .int .i64 fl, .int .i64 wi, .int .i64 ty, .int .i64 co, .int .i64 he, .int .i64 da]) (t := 52) ?hr ?_; (case hd => rfl); (case hg => rfl); (case hr => first | (go_simp; done) | (go_simp; rfl)); intro g1 hgg wx1 hbox hb; have Lg1 := Aside0.mk (show w.heap.size ≤ g1 by rw [hgg]; exact Nat.le_refl _); have HB_1 := Aside0.mk (hb); have Bg1_1 := Aside0.mk hbox; clear hbox hb hgg) | ((with_reducible refine gate_dst (N := 5) rfl ?_); refine load1_event rfl _ _ rfl g1 2 rfl _ _ _ _ Bg1_1.out rfl Try.underlying33 rfl ?_) | ((with_reducible refine gate_dst (N := 7) rfl ?_); refine load1_event rfl _ _ rfl g1 9 rfl _ _ _ _ Bg1_1.out rfl Try.underlying3 rfl ?_))
  go_upto_region 4 with (first | ((with_reducible refine gate_dst (N := 10) rfl ?_); refine load_event rfl 52 _ rfl g1 rfl _ _ _ Bg1_1.out Try.underlying52 rfl (by kernel_rfl) ?_) | (go_at_call 45; refine (has_as sp dp sq ak fl wi ty co he da 2 true h2.out _).mono ?_; rintro e wx2 ⟨rfl, hb⟩; have HB_2 := Aside0.mk (below_step HB_1.out hb); clear HB_1; have Bg1_2 := Aside0.mk (blk_below Bg1_1.out hb); clear Bg1_1; clear hb))
  go_wp2_with (first | ((with_reducible refine gate_dst (N := 14) rfl ?_); refine load_event rfl 52 _ rfl g1 rfl _ _ _ Bg1_2.out Try.underlying52 rfl (by kernel_rfl) ?_) | (go_at_call 45; refine (has_as sp dp sq ak fl wi ty co he da 1 true h1.out _).mono ?_; rintro e wx3 ⟨rfl, hb⟩; have HB_3 := Aside0.mk (below_step HB_2.out hb); clear HB_2; have Bg1_3 := Aside0.mk (blk_below Bg1_2.out hb); clear Bg1_2; clear hb))
  go_ret
  refine ⟨ret_int ?_, HB_3.out⟩
  have h2' := h2.out; have h1' := h1.out; have he2 := he'.out
  unfold endOf at he2; rw [h2', h1'] at he2
  subst he2
  simp only [if_true, if_false, Bool.false_eq_true, reduceIte]
  omega
theorem end_as (sp dp sq ak fl wi ty co he da en : Int) (w : World) (he' : endOf sq fl da = en) : Calls Try.prog 47 #[.agg #[.int .i64 sp, .int .i64 dp, .int .u32 sq, .int .u32 ak, .int .i64 fl, .int .i64 wi, .int .i64 ty, .int .i64 co, .int .i64 he, .int .i64 da]] w fun e w' => e = .returned (.int .u32 en) ∧ Below w.heap.size w w' := by
  rcases h2 : flag fl 2 with _ | _ <;> rcases h1 : flag fl 1 with _ | _
  · exact end_00 sp dp sq ak fl wi ty co he da en w ⟨h2⟩ ⟨h1⟩ ⟨he'⟩
  · exact end_01 sp dp sq ak fl wi ty co he da en w ⟨h2⟩ ⟨h1⟩ ⟨he'⟩
  · exact end_10 sp dp sq ak fl wi ty co he da en w ⟨h2⟩ ⟨h1⟩ ⟨he'⟩
  · exact end_11 sp dp sq ak fl wi ty co he da en w ⟨h2⟩ ⟨h1⟩ ⟨he'⟩
theorem ropen_says (t : Tr) : opened t = if ((bits .and .i64 t.fl 23 != 2) || (t.da != 0)) then (Cn.zero, false) else (⟨1, ⟨true, endOf t.sq t.fl t.da, (endOf t.sq t.fl t.da + t.wi) % 4294967296, false⟩, ⟨false, 0, 0, false⟩⟩, true) := by
  unfold opened
  rw [and23]
  cases flag t.fl 2 <;> cases flag t.fl 1 <;> cases flag t.fl 4 <;> cases flag t.fl 16 <;> rfl
set_option maxRecDepth 100000 in
set_option maxHeartbeats 8000000 in
theorem ropen_ways (sp dp sq ak fl wi ty co he da en : Int) (w : World) (FE : Aside0 (endOf sq fl da = en)) : Calls Try.prog 30 #[.agg #[.int .i64 sp, .int .i64 dp, .int .u32 sq, .int .u32 ak, .int .i64 fl, .int .i64 wi, .int .i64 ty, .int .i64 co, .int .i64 he, .int .i64 da]] w (OpenPost ⟨sp, dp, sq, ak, fl, wi, ty, co, he, da⟩ w) := by
  go_enter Try.func30, Try.ntmps30
  go_upto_region 1 with (first | ((with_reducible refine gate_dst (N := 1) rfl ?_); refine box_event ?hg (N := 1) ?hd (cs := #[.int .i64 sp, .int .i64 dp, .int .u32 sq, .int .u32 ak, .int .i64 fl, .int .i64 wi, .int .i64 ty, .int .i64 co, .int .i64 he, .int .i64 da]) (t := 52) ?hr ?_; (case hd => rfl); (case hg => rfl); (case hr => first | (go_simp; done) | (go_simp; rfl)); intro g1 hgg wx1 hbox hb; have Lg1 := Aside0.mk (show w.heap.size ≤ g1 by rw [hgg]; exact Nat.le_refl _); have HB_1 := Aside0.mk (hb); have Bg1_1 := Aside0.mk hbox; clear hbox hb hgg) | ((with_reducible refine gate_dst (N := 2) rfl ?_); refine box_event ?hg (N := 2) ?hd (cs := #[.int .i64 0, .bool false, .int .u32 0, .int .u32 0, .bool false, .bool false, .int .u32 0, .int .u32 0, .bool false]) (t := 48) ?hr ?_; (case hd => rfl); (case hg => rfl); (case hr => first | (go_simp; done) | (go_simp; rfl)); intro g2 hgg wx2 hbox hb; have Ng1g2 := Aside0.mk (show g1 ≠ g2 by rw [hgg]; exact Nat.ne_of_lt (blk_lt Bg1_1.out)); have Lg2 := Aside0.mk (show w.heap.size ≤ g2 by rw [hgg]; exact below_size HB_1.out); have HB_2 := Aside0.mk (below_step HB_1.out hb); clear HB_1; have Bg1_2 := Aside0.mk (blk_below Bg1_1.out hb); clear Bg1_1; have Bg2_2 := Aside0.mk hbox; clear hbox hb hgg))
  refine wp_region_rg_seq (fun x y => Below x.heap.size x y) (fun (i : Nat) (v : Value) (w1 : World) => match i with | 0 => v = (.pointer (some ⟨g1, 4, none⟩)) | 1 => v = (.int .i64 fl) | 2 => v = (.int .i64 (bits .and .i64 fl 23)) | 3 => v = (.bool ((bits .and .i64 fl 23 != 2))) | 4 => v = (.bool ((bits .and .i64 fl 23 != 2))) | 5 => ((bits .and .i64 fl 23 != 2)) = false → v = (.pointer (some ⟨g1, 9, none⟩)) | 6 => ((bits .and .i64 fl 23 != 2)) = false → v = (.int .i64 da) | 7 => ((bits .and .i64 fl 23 != 2)) = false → v = (.bool ((da != 0))) | 8 => v = (.bool (((bits .and .i64 fl 23 != 2) || (da != 0)))) | _ => True) (by kernel_rfl) (by kernel_rfl) below_tr (Below.refl _ _) ?hJst ?hObl ?hEnd
  case hJst =>
    intro i v wx wy hi hs0 hs1 hJi
    match i, hi with
    | 0, _ => exact hJi
    | 1, _ => exact hJi
    | 2, _ => exact hJi
    | 3, _ => exact hJi
    | 4, _ => exact hJi
    | 5, _ => exact hJi
    | 6, _ => exact hJi
    | 7, _ => exact hJi
    | 8, _ => exact hJi
    | _ + 9, hi => exact absurd hi (by simp)
  case hObl =>
    refine ⟨?_, ?_, ?_, ?_, ?_, ?_, ?_, ?_, ?_,  trivial⟩
    · intro listed vals a wq K hD hst hj haft hun hK
      have h1 := hD.out 1 rfl rfl
      replace hst : Below _ _ wq := hst
      clear hD hj haft hun
      have e1 := eval_of h1
      refine step_now (v := .pointer (some ⟨g1, 4, none⟩)) (w' := wq) (wanted_free rfl) ?_ (hK _ _ (Below.refl _ _) rfl)
      clear hK
      first | (go_simp; done) | (go_simp; rfl) | (go_simp; (try simp only [IntKind.wrap_u32]); omega)
    · intro listed vals a wq K hD hst hj haft hun hK
      obtain ⟨v5, h5, j5⟩ := hD.dep hj haft 0 5 rfl rfl
      replace j5 : v5 = (.pointer (some ⟨g1, 4, none⟩)) := j5
      subst j5
      replace hst : Below _ _ wq := hst
      clear hD hj haft hun
      have e5 := eval_of h5
      exact step_now (v := .int .i64 fl) (w' := wq) (wanted_free rfl) (rg_load rfl e5 (blk_below Bg1_2.out hst) rfl Try.underlying3 rfl) (hK _ _ (Below.refl _ _) rfl)
    · intro listed vals a wq K hD hst hj haft hun hK
      obtain ⟨v6, h6, j6⟩ := hD.dep hj haft 1 6 rfl rfl
      replace j6 : v6 = (.int .i64 fl) := j6
      subst j6
      replace hst : Below _ _ wq := hst
      clear hD hj haft hun
      have e6 := eval_of h6
      refine step_now (v := .int .i64 (bits .and .i64 fl 23)) (w' := wq) (wanted_free rfl) ?_ (hK _ _ (Below.refl _ _) rfl)
      clear hK
      first | (go_simp; done) | (go_simp; rfl) | (go_simp; (try simp only [IntKind.wrap_u32]); omega)
    · intro listed vals a wq K hD hst hj haft hun hK
      obtain ⟨v7, h7, j7⟩ := hD.dep hj haft 2 7 rfl rfl
      replace j7 : v7 = (.int .i64 (bits .and .i64 fl 23)) := j7
      subst j7
      replace hst : Below _ _ wq := hst
      clear hD hj haft hun
      have e7 := eval_of h7
      refine step_now (v := .bool ((bits .and .i64 fl 23 != 2))) (w' := wq) (wanted_free rfl) ?_ (hK _ _ (Below.refl _ _) rfl)
      clear hK
      first | (go_simp; done) | (go_simp; rfl) | (go_simp; (try simp only [IntKind.wrap_u32]); omega)
    · intro listed vals a wq K hD hst hj haft hun hK
      obtain ⟨v8, h8, j8⟩ := hD.dep hj haft 3 8 rfl rfl
      replace j8 : v8 = (.bool ((bits .and .i64 fl 23 != 2))) := j8
      subst j8
      replace hst : Below _ _ wq := hst
      clear hD hj haft hun
      have e8 := eval_of h8
      refine step_now (v := .bool ((bits .and .i64 fl 23 != 2))) (w' := wq) (wanted_free rfl) ?_ (hK _ _ (Below.refl _ _) rfl)
      clear hK
      first | (go_simp; done) | (go_simp; rfl) | (go_simp; (try simp only [IntKind.wrap_u32]); omega)
    · intro listed vals a wq K hD hst hj haft hun hK
      obtain ⟨v9, h9, j9⟩ := hD.dep hj haft 4 9 rfl rfl
      replace j9 : v9 = (.bool ((bits .and .i64 fl 23 != 2))) := j9
      subst j9
      have h1 := hD.out 1 rfl rfl
      replace hst : Below _ _ wq := hst
      clear hD hj haft hun
      rcases hE : ((bits .and .i64 fl 23 != 2)) with _ | _
      · rw [hE] at h9
        have e1 := eval_of h1
        refine step_now (v := .pointer (some ⟨g1, 9, none⟩)) (w' := wq) (wanted_on (t := 9) (u := false) rfl rfl rfl h9) ?_ (hK _ _ (Below.refl _ _) (fun _ => rfl))
        clear hK
        first | (go_simp; done) | (go_simp; rfl) | (go_simp; (try simp only [IntKind.wrap_u32]); omega)
      · rw [hE] at h9
        exact step_off (wanted_off (t := 9) (u := false) rfl rfl rfl h9) (hK _ _ (Below.refl _ _) (fun h => by rw [hE] at h; cases h))
    · intro listed vals a wq K hD hst hj haft hun hK
      obtain ⟨v10, h10, j10⟩ := hD.dep hj haft 5 10 rfl rfl
      replace j10 : ((bits .and .i64 fl 23 != 2)) = false → v10 = (.pointer (some ⟨g1, 9, none⟩)) := j10
      obtain ⟨v9, h9, j9⟩ := hD.dep hj haft 4 9 rfl rfl
      replace j9 : v9 = (.bool ((bits .and .i64 fl 23 != 2))) := j9
      subst j9
      replace hst : Below _ _ wq := hst
      clear hD hj haft hun
      rcases hE : ((bits .and .i64 fl 23 != 2)) with _ | _
      · rw [hE] at h9
        obtain rfl := j10 hE
        have e10 := eval_of h10
        exact step_now (v := .int .i64 da) (w' := wq) (wanted_on (t := 9) (u := false) rfl rfl rfl h9) (rg_load rfl e10 (blk_below Bg1_2.out hst) rfl Try.underlying3 rfl) (hK _ _ (Below.refl _ _) (fun _ => rfl))
      · rw [hE] at h9
        exact step_off (wanted_off (t := 9) (u := false) rfl rfl rfl h9) (hK _ _ (Below.refl _ _) (fun h => by rw [hE] at h; cases h))
    · intro listed vals a wq K hD hst hj haft hun hK
      obtain ⟨v11, h11, j11⟩ := hD.dep hj haft 6 11 rfl rfl
      replace j11 : ((bits .and .i64 fl 23 != 2)) = false → v11 = (.int .i64 da) := j11
      obtain ⟨v9, h9, j9⟩ := hD.dep hj haft 4 9 rfl rfl
      replace j9 : v9 = (.bool ((bits .and .i64 fl 23 != 2))) := j9
      subst j9
      replace hst : Below _ _ wq := hst
      clear hD hj haft hun
      rcases hE : ((bits .and .i64 fl 23 != 2)) with _ | _
      · rw [hE] at h9
        obtain rfl := j11 hE
        have e11 := eval_of h11
        refine step_now (v := .bool ((da != 0))) (w' := wq) (wanted_on (t := 9) (u := false) rfl rfl rfl h9) ?_ (hK _ _ (Below.refl _ _) (fun _ => rfl))
        clear hK
        first | (go_simp; done) | (go_simp; rfl) | (go_simp; (try simp only [IntKind.wrap_u32]); omega)
      · rw [hE] at h9
        exact step_off (wanted_off (t := 9) (u := false) rfl rfl rfl h9) (hK _ _ (Below.refl _ _) (fun h => by rw [hE] at h; cases h))
    · intro listed vals a wq K hD hst hj haft hun hK
      obtain ⟨v9, h9, j9⟩ := hD.dep hj haft 4 9 rfl rfl
      replace j9 : v9 = (.bool ((bits .and .i64 fl 23 != 2))) := j9
      subst j9
      obtain ⟨v12, h12, j12⟩ := hD.dep hj haft 7 12 rfl rfl
      replace j12 : ((bits .and .i64 fl 23 != 2)) = false → v12 = (.bool ((da != 0))) := j12
      replace hst : Below _ _ wq := hst
      clear hD hj haft hun
      rcases hE : ((bits .and .i64 fl 23 != 2)) with _ | _
      · rw [hE] at h9
        obtain rfl := j12 hE
        have e9 := eval_of h9
        have e12 := eval_of h12
        refine step_now (v := .bool (((bits .and .i64 fl 23 != 2) || (da != 0)))) (w' := wq) (wanted_free rfl) ?_ (hK _ _ (Below.refl _ _) rfl)
        rw [hE]
        clear hK
        first | (go_simp; done) | (go_simp; rfl) | (go_simp; (try simp only [IntKind.wrap_u32]); omega)
      · rw [hE] at h9
        have e9 := eval_of h9
        have e12 := eval_of h12
        refine step_now (v := .bool (((bits .and .i64 fl 23 != 2) || (da != 0)))) (w' := wq) (wanted_free rfl) ?_ (hK _ _ (Below.refl _ _) rfl)
        rw [hE]
        clear hK
        first | (go_simp; done) | (go_simp; rfl) | (go_simp; (try simp only [IntKind.wrap_u32]); omega)
  case hEnd =>
    intro vals wend hst hj
    have j0 : vals 0 = (.pointer (some ⟨g1, 4, none⟩)) := hj 0 (by decide)
    have j1 : vals 1 = (.int .i64 fl) := hj 1 (by decide)
    have j2 : vals 2 = (.int .i64 (bits .and .i64 fl 23)) := hj 2 (by decide)
    have j3 : vals 3 = (.bool ((bits .and .i64 fl 23 != 2))) := hj 3 (by decide)
    have j4 : vals 4 = (.bool ((bits .and .i64 fl 23 != 2))) := hj 4 (by decide)
    have j8 : vals 8 = (.bool (((bits .and .i64 fl 23 != 2) || (da != 0)))) := hj 8 (by decide)
    replace hst : Below _ _ wend := hst
    clear hj
    rw [putAll_list]
    simp only [putL, Act.put, List.setIfInBounds_toArray, List.set_cons_zero, List.set_cons_succ, j0, j1, j2, j3, j4, j8]
    clear j0 j1 j2 j3 j4 j8
    generalize vals 5 = u10_
    generalize vals 6 = u11_
    generalize vals 7 = u12_
    have HB_3 := Aside0.mk (below_step HB_2.out hst)
    clear HB_2
    have Bg1_3 := Aside0.mk (blk_below Bg1_2.out hst)
    clear Bg1_2
    have Bg2_3 := Aside0.mk (blk_below Bg2_2.out hst)
    clear Bg2_2
    clear hst
    rcases hc : (((bits .and .i64 fl 23 != 2) || (da != 0))) with _ | _
    · go_wp2_with (first | ((with_reducible refine gate_dst (N := 15) rfl ?_); refine load_event rfl 52 _ rfl g1 rfl _ _ _ Bg1_3.out Try.underlying52 rfl (by kernel_rfl) ?_) | (go_at_call 47; refine (end_as sp dp sq ak fl wi ty co he da en _ FE.out).mono ?_; rintro e wx4 ⟨rfl, hb⟩; have HB_4 := Aside0.mk (below_step HB_3.out hb); clear HB_3; have Bg1_4 := Aside0.mk (blk_below Bg1_3.out hb); clear Bg1_3; have Bg2_4 := Aside0.mk (blk_below Bg2_3.out hb); clear Bg2_3; clear hb) | ((with_reducible refine gate_dst (N := 20) rfl ?_); refine load1_event rfl _ _ rfl g1 5 rfl _ _ _ _ Bg1_4.out rfl Try.underlying3 rfl ?_) | ((with_reducible refine gate_store (t := 48) (p := 2) rfl ?_); refine store_event rfl 48 _ _ rfl g2 _ rfl rfl _ _ Bg2_4.out (by kernel_rfl) rfl rfl ?_; intro wx5 hst hu; have HB_5 := Aside0.mk (below_upd HB_4.out hu (below_size HB_4.out) (fun k hk => by cases hk; exact Lg2.out)); clear HB_4; have Bg1_5 := Aside0.mk (Upd.blk hu Bg1_4.out (One.not Ng1g2.out)); clear Bg1_4; have Bg2_5 := Aside0.mk hst; clear hst hu Bg2_4))
      refine bodyPost_ret (results_ct rfl _ _ g2 48 #[.int .i64 1, .bool true, .int .u32 en, .int .u32 ((en + wi) % 4294967296), .bool false, .bool false, .int .u32 0, .int .u32 0, .bool false] (0, 0) _ rfl Bg2_5.out Try.underlying48 rfl (by kernel_rfl)) rfl (openPost_mk (⟨1, ⟨true, en, (en + wi) % 4294967296, false⟩, ⟨false, 0, 0, false⟩⟩, true) ?_ HB_5.out)
      rw [ropen_says]
      simp only [FE.out, hc, if_true, if_false, Bool.false_eq_true, reduceIte]
    · go_wp2_with (first | ((with_reducible refine gate_store (t := 48) (p := 2) rfl ?_); refine store_event rfl 48 _ _ rfl g2 _ rfl rfl _ _ Bg2_3.out (by kernel_rfl) rfl rfl ?_; intro wx4 hst hu; have HB_4 := Aside0.mk (below_upd HB_3.out hu (below_size HB_3.out) (fun k hk => by cases hk; exact Lg2.out)); clear HB_3; have Bg1_4 := Aside0.mk (Upd.blk hu Bg1_3.out (One.not Ng1g2.out)); clear Bg1_3; have Bg2_4 := Aside0.mk hst; clear hst hu Bg2_3))
      refine bodyPost_ret (results_ct rfl _ _ g2 48 #[.int .i64 0, .bool false, .int .u32 0, .int .u32 0, .bool false, .bool false, .int .u32 0, .int .u32 0, .bool false] (0, 0) _ rfl Bg2_4.out Try.underlying48 rfl (by kernel_rfl)) rfl (openPost_mk (Cn.zero, false) ?_ HB_4.out)
      rw [ropen_says]
      simp only [FE.out, hc, if_true, if_false, Bool.false_eq_true, reduceIte]
theorem ropen_any (t : Tr) (w : World) : Calls Try.prog 30 #[t.val] w (OpenPost t w) := by
  obtain ⟨sp, dp, sq, ak, fl, wi, ty, co, he, da⟩ := t
  exact ropen_ways sp dp sq ak fl wi ty co he da _ w ⟨rfl⟩
end Go.Proofs.Ytainkpgplmkiaaa.RefWin
