/- The reference's Next of window: its ways, of B. No condition. -/
import Derived.Test.YtainkpgplmkiaaaWinScript
import Derived.Test.YtainkpgplmkiaaaRefWin
import Derived.Deep.Cut
import Derived.Deep.CutRange
namespace Go.Proofs.Ytainkpgplmkiaaa.RefNextT
open Go Go.RowKit Go.Proofs.YtainkpgplmkiaaaW.PrintWords Go.Proofs.YtainkpgplmkiaaaW.PrintLast Go.Proofs.YtainkpgplmkiaaaW.PrintMore Go.Proofs.Ytainkpgplmkiaaa.MWorld Go.Proofs.Ytainkpgplmkiaaa.Ev Go.Proofs.Ytainkpgplmkiaaa.Win Go.Proofs.Ytainkpgplmkiaaa.Win2 Go.Proofs.Ytainkpgplmkiaaa.Rg Go.Proofs.Ytainkpgplmkiaaa.WinModel Go.Proofs.Ytainkpgplmkiaaa.Win4 Go.Proofs.Ytainkpgplmkiaaa.Win6 Go.Proofs.Ytainkpgplmkiaaa.WinFlags Go.Proofs.Ytainkpgplmkiaaa.RefWin Go.Proofs.Ytainkpgplmkiaaa.WinScript
set_option linter.unusedVariables false
set_option linter.unusedSimpArgs false
theorem br {w : World} : Below w.heap.size w w := Below.refl _ _
theorem blk_range {w : World} {g : Nat} {cs : Array Value} {t : TypeId} (h : w.heap[g]? = some (.cells cs t (0, 0))) (off : Nat) (vs : List Value) (he : (cs.toList.drop off).take vs.length = vs) : w.rangeAt g off vs := by
  intro j v hv
  have e : w.cell? ⟨g, off + j, none⟩ = cs[off + j]? := blk_cell h (off + j)
  rw [e, ← Array.getElem?_toList, ← List.getElem?_drop]
  rw [← he] at hv
  rw [List.getElem?_take] at hv
  split at hv
  · exact hv
  · cases hv
theorem stput_below {g : Nat} {o o0 : Obj} {x0 x y : World} (h0 : x0.heap[g]? = some o0) (hs : StPut g o x0 x) (hb : Below x.heap.size x y) : StPut g o x y := by
  refine ⟨Upd.of_below hb (Nat.le_refl _) _, .inl ?_⟩
  have : ∃ p, x.heap[g]? = some p := by
    rcases hs.2 with e | e
    · exact ⟨_, e.trans h0⟩
    · exact ⟨_, e⟩
  obtain ⟨p, hp⟩ := this
  rw [hp]
  exact blk_below hp hb
section
variable {ops : Array Oper} {a : Act} {o og : Oper} {g : Nat} {t : Tmp} {u : Bool}
theorem wanted_und (hg : o.guard = some (g, u)) (ho : ops[g]? = some og) (hd : og.dst = some t) (hv : a.tmps[t]? = some undef) : Region.wanted o (yielded ops a.tmps) = false := by
  simp [Region.wanted, hg, yielded, ho, hd, hv, undef]
theorem wanted_nest {E p B : Bool} (hg : o.guard = some (g, u)) (ho : ops[g]? = some og) (hd : og.dst = some t) {v : Value} (hv : a.tmps[t]? = some v) (hj : (E = p → v = .bool B) ∧ (E = (!p) → v = undef)) (hE : ((E == p) && (B == u)) = false) : Region.wanted o (yielded ops a.tmps) = false := by
  cases hp : (E == p)
  · have h1 : E = !p := by cases E <;> cases p <;> simp_all
    exact wanted_und hg ho hd (by rw [hv, hj.2 h1])
  · have h1 : E = p := by simpa using hp
    have h2 : B = !u := by rw [hp] at hE; cases B <;> cases u <;> simp_all
    exact wanted_off hg ho hd (by rw [hv, hj.1 h1, h2])
theorem wanted_nest_on {E p B : Bool} (hg : o.guard = some (g, u)) (ho : ops[g]? = some og) (hd : og.dst = some t) {v : Value} (hv : a.tmps[t]? = some v) (hj : (E = p → v = .bool B) ∧ (E = (!p) → v = undef)) (hE : ((E == p) && (B == u)) = true) : Region.wanted o (yielded ops a.tmps) = true := by
  have h0 := Bool.and_eq_true_iff.1 hE
  have h1 : E = p := by simpa using h0.1
  have h2 : B = u := by simpa using h0.2
  exact wanted_on hg ho hd (by rw [hv, hj.1 h1, h2])
end
theorem st_low {st : Int} (h : (decide (st < 1) || decide (4 < st)) = false) : ((st == 1) || (st == 2)) = decide (st ≤ 2) := by
  simp only [Bool.or_eq_false_iff, decide_eq_false_iff_not] at h
  rw [Bool.eq_iff_iff]
  simp only [Bool.or_eq_true, beq_iff_eq, decide_eq_true_eq]
  omega
set_option maxRecDepth 100000 in
set_option maxHeartbeats 32000000 in
theorem ways (st e1 m1 e2 m2 sp dp sq ak fl wi ty co he da en : Int) (s1 f1 s2 f2 sy fi rs ac : Bool) (w : World) (F2 : Aside0 (flag fl 2 = sy)) (F1 : Aside0 (flag fl 1 = fi)) (F4 : Aside0 (flag fl 4 = rs)) (F16 : Aside0 (flag fl 16 = ac)) (FE : Aside0 (endOf sq fl da = en)) : Calls Try.prog 18 #[.agg #[.int .i64 st, .bool s1, .int .u32 e1, .int .u32 m1, .bool f1, .bool s2, .int .u32 e2, .int .u32 m2, .bool f2], .bool true, .agg #[.int .i64 sp, .int .i64 dp, .int .u32 sq, .int .u32 ak, .int .i64 fl, .int .i64 wi, .int .i64 ty, .int .i64 co, .int .i64 he, .int .i64 da]] w (NextPost ⟨st, ⟨s1, e1, m1, f1⟩, ⟨s2, e2, m2, f2⟩⟩ true ⟨sp, dp, sq, ak, fl, wi, ty, co, he, da⟩ w) := by
  go_enter Try.func18, Try.ntmps18
  go_upto_region 6 with (first | ((with_reducible refine gate_dst (N := 3) rfl ?_); refine box_event ?hg (N := 3) ?hd (cs := #[.int .i64 st, .bool s1, .int .u32 e1, .int .u32 m1, .bool f1, .bool s2, .int .u32 e2, .int .u32 m2, .bool f2]) (t := 48) ?hr ?_; (case hd => rfl); (case hg => rfl); (case hr => first | (go_simp; done) | (go_simp; rfl)); intro g3 hgg wx1 hbox hb; have Lg3 := Aside0.mk (show w.heap.size ≤ g3 by rw [hgg]; exact Nat.le_refl _); have HB_1 := Aside0.mk (hb); have Bg3_1 := Aside0.mk hbox; clear hbox hb hgg) | ((with_reducible refine gate_dst (N := 5) rfl ?_); refine box_event ?hg (N := 5) ?hd (cs := #[.int .i64 sp, .int .i64 dp, .int .u32 sq, .int .u32 ak, .int .i64 fl, .int .i64 wi, .int .i64 ty, .int .i64 co, .int .i64 he, .int .i64 da]) (t := 52) ?hr ?_; (case hd => rfl); (case hg => rfl); (case hr => first | (go_simp; done) | (go_simp; rfl)); intro g5 hgg wx2 hbox hb; have Ng3g5 := Aside0.mk (show g3 ≠ g5 by rw [hgg]; exact Nat.ne_of_lt (blk_lt Bg3_1.out)); have Lg5 := Aside0.mk (show w.heap.size ≤ g5 by rw [hgg]; exact below_size HB_1.out); have HB_2 := Aside0.mk (below_step HB_1.out hb); clear HB_1; have Bg3_2 := Aside0.mk (blk_below Bg3_1.out hb); clear Bg3_1; have Bg5_2 := Aside0.mk hbox; clear hbox hb hgg) | ((with_reducible refine gate_dst (N := 6) rfl ?_); refine box_event ?hg (N := 6) ?hd (cs := #[.int .i64 0, .bool false, .int .u32 0, .int .u32 0, .bool false, .bool false, .int .u32 0, .int .u32 0, .bool false]) (t := 48) ?hr ?_; (case hd => rfl); (case hg => rfl); (case hr => first | (go_simp; done) | (go_simp; rfl)); intro g6 hgg wx3 hbox hb; have Ng3g6 := Aside0.mk (show g3 ≠ g6 by rw [hgg]; exact Nat.ne_of_lt (blk_lt Bg3_2.out)); have Ng5g6 := Aside0.mk (show g5 ≠ g6 by rw [hgg]; exact Nat.ne_of_lt (blk_lt Bg5_2.out)); have Lg6 := Aside0.mk (show w.heap.size ≤ g6 by rw [hgg]; exact below_size HB_2.out); have HB_3 := Aside0.mk (below_step HB_2.out hb); clear HB_2; have Bg3_3 := Aside0.mk (blk_below Bg3_2.out hb); clear Bg3_2; have Bg5_3 := Aside0.mk (blk_below Bg5_2.out hb); clear Bg5_2; have Bg6_3 := Aside0.mk hbox; clear hbox hb hgg) | ((with_reducible refine gate_dst (N := 12) rfl ?_); refine loadmid_event rfl _ _ rfl g3 1 rfl [.bool s1, .int .u32 e1, .int .u32 m1, .bool f1] _ (blk_range Bg3_3.out 1 [.bool s1, .int .u32 e1, .int .u32 m1, .bool f1] rfl) Try.underlying46 rfl (by kernel_rfl) ?_) | ((with_reducible refine gate_dst (N := 8) rfl ?_); refine box_event ?hg (N := 8) ?hd (cs := #[.bool false, .int .u32 0, .int .u32 0, .bool false]) (t := 46) ?hr ?_; (case hd => rfl); (case hg => rfl); (case hr => first | (go_simp; done) | (go_simp; rfl)); intro g8 hgg wx4 hbox hb; have Ng3g8 := Aside0.mk (show g3 ≠ g8 by rw [hgg]; exact Nat.ne_of_lt (blk_lt Bg3_3.out)); have Ng5g8 := Aside0.mk (show g5 ≠ g8 by rw [hgg]; exact Nat.ne_of_lt (blk_lt Bg5_3.out)); have Ng6g8 := Aside0.mk (show g6 ≠ g8 by rw [hgg]; exact Nat.ne_of_lt (blk_lt Bg6_3.out)); have Lg8 := Aside0.mk (show w.heap.size ≤ g8 by rw [hgg]; exact below_size HB_3.out); have HB_4 := Aside0.mk (below_step HB_3.out hb); clear HB_3; have Bg3_4 := Aside0.mk (blk_below Bg3_3.out hb); clear Bg3_3; have Bg5_4 := Aside0.mk (blk_below Bg5_3.out hb); clear Bg5_3; have Bg6_4 := Aside0.mk (blk_below Bg6_3.out hb); clear Bg6_3; have Bg8_4 := Aside0.mk hbox; clear hbox hb hgg) | ((with_reducible refine gate_store (t := 46) (p := 8) rfl ?_); refine store_event rfl 46 _ _ rfl g8 _ rfl rfl _ _ Bg8_4.out (by kernel_rfl) rfl rfl ?_; intro wx5 hst hu; have HB_5 := Aside0.mk (below_upd HB_4.out hu (below_size HB_4.out) (fun k hk => by cases hk; exact Lg8.out)); clear HB_4; have Bg3_5 := Aside0.mk (Upd.blk hu Bg3_4.out (One.not Ng3g8.out)); clear Bg3_4; have Bg5_5 := Aside0.mk (Upd.blk hu Bg5_4.out (One.not Ng5g8.out)); clear Bg5_4; have Bg6_5 := Aside0.mk (Upd.blk hu Bg6_4.out (One.not Ng6g8.out)); clear Bg6_4; have Bg8_5 := Aside0.mk hst; clear hst hu Bg8_4) | ((with_reducible refine gate_dst (N := 14) rfl ?_); refine loadmid_event rfl _ _ rfl g3 5 rfl [.bool s2, .int .u32 e2, .int .u32 m2, .bool f2] _ (blk_range Bg3_5.out 5 [.bool s2, .int .u32 e2, .int .u32 m2, .bool f2] rfl) Try.underlying46 rfl (by kernel_rfl) ?_) | ((with_reducible refine gate_dst (N := 9) rfl ?_); refine box_event ?hg (N := 9) ?hd (cs := #[.bool false, .int .u32 0, .int .u32 0, .bool false]) (t := 46) ?hr ?_; (case hd => rfl); (case hg => rfl); (case hr => first | (go_simp; done) | (go_simp; rfl)); intro g9 hgg wx6 hbox hb; have Ng3g9 := Aside0.mk (show g3 ≠ g9 by rw [hgg]; exact Nat.ne_of_lt (blk_lt Bg3_5.out)); have Ng5g9 := Aside0.mk (show g5 ≠ g9 by rw [hgg]; exact Nat.ne_of_lt (blk_lt Bg5_5.out)); have Ng6g9 := Aside0.mk (show g6 ≠ g9 by rw [hgg]; exact Nat.ne_of_lt (blk_lt Bg6_5.out)); have Ng8g9 := Aside0.mk (show g8 ≠ g9 by rw [hgg]; exact Nat.ne_of_lt (blk_lt Bg8_5.out)); have Lg9 := Aside0.mk (show w.heap.size ≤ g9 by rw [hgg]; exact below_size HB_5.out); have HB_6 := Aside0.mk (below_step HB_5.out hb); clear HB_5; have Bg3_6 := Aside0.mk (blk_below Bg3_5.out hb); clear Bg3_5; have Bg5_6 := Aside0.mk (blk_below Bg5_5.out hb); clear Bg5_5; have Bg6_6 := Aside0.mk (blk_below Bg6_5.out hb); clear Bg6_5; have Bg8_6 := Aside0.mk (blk_below Bg8_5.out hb); clear Bg8_5; have Bg9_6 := Aside0.mk hbox; clear hbox hb hgg) | ((with_reducible refine gate_store (t := 46) (p := 9) rfl ?_); refine store_event rfl 46 _ _ rfl g9 _ rfl rfl _ _ Bg9_6.out (by kernel_rfl) rfl rfl ?_; intro wx7 hst hu; have HB_7 := Aside0.mk (below_upd HB_6.out hu (below_size HB_6.out) (fun k hk => by cases hk; exact Lg9.out)); clear HB_6; have Bg3_7 := Aside0.mk (Upd.blk hu Bg3_6.out (One.not Ng3g9.out)); clear Bg3_6; have Bg5_7 := Aside0.mk (Upd.blk hu Bg5_6.out (One.not Ng5g9.out)); clear Bg5_6; have Bg6_7 := Aside0.mk (Upd.blk hu Bg6_6.out (One.not Ng6g9.out)); clear Bg6_6; have Bg8_7 := Aside0.mk (Upd.blk hu Bg8_6.out (One.not Ng8g9.out)); clear Bg8_6; have Bg9_7 := Aside0.mk hst; clear hst hu Bg9_6) | ((with_reducible refine gate_dst (N := 17) rfl ?_); refine loadmid_event rfl _ _ rfl g3 5 rfl [.bool s2, .int .u32 e2, .int .u32 m2, .bool f2] _ (blk_range Bg3_7.out 5 [.bool s2, .int .u32 e2, .int .u32 m2, .bool f2] rfl) Try.underlying46 rfl (by kernel_rfl) ?_) | ((with_reducible refine gate_store (t := 46) (p := 8) rfl ?_); refine store_event rfl 46 _ _ rfl g8 _ rfl rfl _ _ Bg8_7.out (by kernel_rfl) rfl rfl ?_; intro wx8 hst hu; have HB_8 := Aside0.mk (below_upd HB_7.out hu (below_size HB_7.out) (fun k hk => by cases hk; exact Lg8.out)); clear HB_7; have Bg3_8 := Aside0.mk (Upd.blk hu Bg3_7.out (One.not Ng3g8.out)); clear Bg3_7; have Bg5_8 := Aside0.mk (Upd.blk hu Bg5_7.out (One.not Ng5g8.out)); clear Bg5_7; have Bg6_8 := Aside0.mk (Upd.blk hu Bg6_7.out (One.not Ng6g8.out)); clear Bg6_7; have Bg9_8 := Aside0.mk (Upd.blk hu Bg9_7.out (One.not (Ne.symm Ng8g9.out))); clear Bg9_7; have Bg8_8 := Aside0.mk hst; clear hst hu Bg8_7) | ((with_reducible refine gate_dst (N := 19) rfl ?_); refine loadmid_event rfl _ _ rfl g3 1 rfl [.bool s1, .int .u32 e1, .int .u32 m1, .bool f1] _ (blk_range Bg3_8.out 1 [.bool s1, .int .u32 e1, .int .u32 m1, .bool f1] rfl) Try.underlying46 rfl (by kernel_rfl) ?_) | ((with_reducible refine gate_store (t := 46) (p := 9) rfl ?_); refine store_event rfl 46 _ _ rfl g9 _ rfl rfl _ _ Bg9_8.out (by kernel_rfl) rfl rfl ?_; intro wx9 hst hu; have HB_9 := Aside0.mk (below_upd HB_8.out hu (below_size HB_8.out) (fun k hk => by cases hk; exact Lg9.out)); clear HB_8; have Bg3_9 := Aside0.mk (Upd.blk hu Bg3_8.out (One.not Ng3g9.out)); clear Bg3_8; have Bg5_9 := Aside0.mk (Upd.blk hu Bg5_8.out (One.not Ng5g9.out)); clear Bg5_8; have Bg6_9 := Aside0.mk (Upd.blk hu Bg6_8.out (One.not Ng6g9.out)); clear Bg6_8; have Bg8_9 := Aside0.mk (Upd.blk hu Bg8_8.out (One.not Ng8g9.out)); clear Bg8_8; have Bg9_9 := Aside0.mk hst; clear hst hu Bg9_8))
  refine wp_region_rg_seq (fun x y => Below x.heap.size x y) (fun (i : Nat) (v : Value) (w1 : World) => match i with | 0 => v = (.pointer (some ⟨g3, 0, none⟩)) | 1 => v = (.int .i64 st) | 2 => v = (.bool (decide (st < 1))) | 3 => v = (.bool (decide (st < 1))) | 4 => (decide (st < 1)) = false → v = (.pointer (some ⟨g3, 0, none⟩)) | 5 => (decide (st < 1)) = false → v = (.int .i64 st) | 6 => (decide (st < 1)) = false → v = (.bool (decide (4 < st))) | 7 => v = (.bool ((decide (st < 1) || decide (4 < st)))) | _ => True) (by kernel_rfl) (by kernel_rfl) below_tr br ?hJst1 ?hObl1 ?hEnd1
  case hJst1 =>
    intro i v wx wy hi hs0 hs1 hJi
    match i, hi with
    | 0, _ => exact hJi
    | 1, _ => exact hJi
    | 2, _ => exact hJi
    | 3, _ => exact hJi
    | 4, _ => exact hJi
    | 5, _ => exact hJi
    | 6, _ => exact hJi
    | 7, _ => exact hJi
    | _ + 8, hi => exact absurd hi (by simp)
  case hObl1 =>
    refine ⟨?_, ?_, ?_, ?_, ?_, ?_, ?_, ?_,  trivial⟩
    · intro _ _ a wq K hD hst hj ha hun hK
      have h3 := hD.out 3 rfl rfl
      clear hD hj ha hun
      have e3 := eval_of h3
      refine step_now (v := .pointer (some ⟨g3, 0, none⟩)) (w' := wq) (wanted_free rfl) ?_ (hK _ _ br rfl)
      clear hK
      first | (go_simp; done) | (go_simp; rfl)
    · intro _ _ a wq K hD hst hj ha hun hK
      obtain ⟨v20, h20, j20⟩ := hD.dep hj ha 0 20 rfl rfl
      replace j20 : v20 = (.pointer (some ⟨g3, 0, none⟩)) := j20
      subst j20
      replace hst : Below _ _ wq := hst
      clear hD hj ha hun
      have e20 := eval_of h20
      exact step_now (v := .int .i64 st) (w' := wq) (wanted_free rfl) (rg_load rfl e20 (blk_below Bg3_9.out hst) rfl Try.underlying3 rfl) (hK _ _ br rfl)
    · intro _ _ a wq K hD hst hj ha hun hK
      obtain ⟨v21, h21, j21⟩ := hD.dep hj ha 1 21 rfl rfl
      replace j21 : v21 = (.int .i64 st) := j21
      subst j21
      clear hD hj ha hun
      have e21 := eval_of h21
      refine step_now (v := .bool (decide (st < 1))) (w' := wq) (wanted_free rfl) ?_ (hK _ _ br rfl)
      clear hK
      first | (go_simp; done) | (go_simp; rfl)
    · intro _ _ a wq K hD hst hj ha hun hK
      obtain ⟨v22, h22, j22⟩ := hD.dep hj ha 2 22 rfl rfl
      replace j22 : v22 = (.bool (decide (st < 1))) := j22
      subst j22
      clear hD hj ha hun
      have e22 := eval_of h22
      refine step_now (v := .bool (decide (st < 1))) (w' := wq) (wanted_free rfl) ?_ (hK _ _ br rfl)
      clear hK
      first | (go_simp; done) | (go_simp; rfl)
    · intro _ _ a wq K hD hst hj ha hun hK
      obtain ⟨v23, h23, j23⟩ := hD.dep hj ha 3 23 rfl rfl
      replace j23 : v23 = (.bool (decide (st < 1))) := j23
      subst j23
      have h3 := hD.out 3 rfl rfl
      clear hD hj ha hun
      rcases hE : (decide (st < 1)) with _ | _
      · rw [hE] at h23
        have e3 := eval_of h3
        refine step_now (v := .pointer (some ⟨g3, 0, none⟩)) (w' := wq) (wanted_on (t := 23) (u := false) rfl rfl rfl h23) ?_ (hK _ _ br (fun _ => rfl))
        clear hK
        first | (go_simp; done) | (go_simp; rfl)
      · rw [hE] at h23
        exact step_off (wanted_off (t := 23) (u := false) rfl rfl rfl h23) (hK _ _ br (fun h => by rw [hE] at h; cases h))
    · intro _ _ a wq K hD hst hj ha hun hK
      obtain ⟨v24, h24, j24⟩ := hD.dep hj ha 4 24 rfl rfl
      replace j24 : (decide (st < 1)) = false → v24 = (.pointer (some ⟨g3, 0, none⟩)) := j24
      obtain ⟨v23, h23, j23⟩ := hD.dep hj ha 3 23 rfl rfl
      replace j23 : v23 = (.bool (decide (st < 1))) := j23
      subst j23
      replace hst : Below _ _ wq := hst
      clear hD hj ha hun
      rcases hE : (decide (st < 1)) with _ | _
      · rw [hE] at h23
        obtain rfl := j24 hE
        have e24 := eval_of h24
        exact step_now (v := .int .i64 st) (w' := wq) (wanted_on (t := 23) (u := false) rfl rfl rfl h23) (rg_load rfl e24 (blk_below Bg3_9.out hst) rfl Try.underlying3 rfl) (hK _ _ br (fun _ => rfl))
      · rw [hE] at h23
        exact step_off (wanted_off (t := 23) (u := false) rfl rfl rfl h23) (hK _ _ br (fun h => by rw [hE] at h; cases h))
    · intro _ _ a wq K hD hst hj ha hun hK
      obtain ⟨v25, h25, j25⟩ := hD.dep hj ha 5 25 rfl rfl
      replace j25 : (decide (st < 1)) = false → v25 = (.int .i64 st) := j25
      obtain ⟨v23, h23, j23⟩ := hD.dep hj ha 3 23 rfl rfl
      replace j23 : v23 = (.bool (decide (st < 1))) := j23
      subst j23
      clear hD hj ha hun
      rcases hE : (decide (st < 1)) with _ | _
      · rw [hE] at h23
        obtain rfl := j25 hE
        have e25 := eval_of h25
        refine step_now (v := .bool (decide (4 < st))) (w' := wq) (wanted_on (t := 23) (u := false) rfl rfl rfl h23) ?_ (hK _ _ br (fun _ => rfl))
        clear hK
        first | (go_simp; done) | (go_simp; rfl)
      · rw [hE] at h23
        exact step_off (wanted_off (t := 23) (u := false) rfl rfl rfl h23) (hK _ _ br (fun h => by rw [hE] at h; cases h))
    · intro _ _ a wq K hD hst hj ha hun hK
      obtain ⟨v23, h23, j23⟩ := hD.dep hj ha 3 23 rfl rfl
      replace j23 : v23 = (.bool (decide (st < 1))) := j23
      subst j23
      obtain ⟨v26, h26, j26⟩ := hD.dep hj ha 6 26 rfl rfl
      replace j26 : (decide (st < 1)) = false → v26 = (.bool (decide (4 < st))) := j26
      clear hD hj ha hun
      rcases hE : (decide (st < 1)) with _ | _
      · rw [hE] at h23
        obtain rfl := j26 hE
        have e23 := eval_of h23
        have e26 := eval_of h26
        refine step_now (v := .bool ((decide (st < 1) || decide (4 < st)))) (w' := wq) (wanted_free rfl) ?_ (hK _ _ br rfl)
        rw [hE]
        clear hK
        first | (go_simp; done) | (go_simp; rfl) | (go_simp; (try simp only [IntKind.wrap_u32]); omega)
      · rw [hE] at h23
        have e23 := eval_of h23
        have e26 := eval_of h26
        refine step_now (v := .bool ((decide (st < 1) || decide (4 < st)))) (w' := wq) (wanted_free rfl) ?_ (hK _ _ br rfl)
        rw [hE]
        clear hK
        first | (go_simp; done) | (go_simp; rfl) | (go_simp; (try simp only [IntKind.wrap_u32]); omega)
  intro vals wend hst hj
  have j0 : vals 0 = (.pointer (some ⟨g3, 0, none⟩)) := hj 0 (by decide)
  have j1 : vals 1 = (.int .i64 st) := hj 1 (by decide)
  have j2 : vals 2 = (.bool (decide (st < 1))) := hj 2 (by decide)
  have j3 : vals 3 = (.bool (decide (st < 1))) := hj 3 (by decide)
  have j7 : vals 7 = (.bool ((decide (st < 1) || decide (4 < st)))) := hj 7 (by decide)
  replace hst : Below _ _ wend := hst
  clear hj
  rw [putAll_list]
  simp only [putL, Act.put, List.setIfInBounds_toArray, List.set_cons_zero, List.set_cons_succ, j0, j1, j2, j3, j7]
  clear j0 j1 j2 j3 j7
  generalize vals 4 = u24_
  generalize vals 5 = u25_
  generalize vals 6 = u26_
  have HB_10 := Aside0.mk (below_step HB_9.out hst)
  clear HB_9
  have Bg3_10 := Aside0.mk (blk_below Bg3_9.out hst)
  clear Bg3_9
  have Bg5_10 := Aside0.mk (blk_below Bg5_9.out hst)
  clear Bg5_9
  have Bg6_10 := Aside0.mk (blk_below Bg6_9.out hst)
  clear Bg6_9
  have Bg8_10 := Aside0.mk (blk_below Bg8_9.out hst)
  clear Bg8_9
  have Bg9_10 := Aside0.mk (blk_below Bg9_9.out hst)
  clear Bg9_9
  clear hst
  rcases hc0 : ((decide (st < 1) || decide (4 < st))) with _ | _
  · go_upto_region 8 with (fail)
    refine wp_region_rg_seq (fun x y => Below x.heap.size x y) (fun (i : Nat) (v : Value) (w1 : World) => match i with | 0 => v = (.pointer (some ⟨g9, 0, none⟩)) | 1 => v = (.bool s1) | 2 => v = (.bool s1) | 3 => (s1) = true → v = (.agg #[.int .i64 sp, .int .i64 dp, .int .u32 sq, .int .u32 ak, .int .i64 fl, .int .i64 wi, .int .i64 ty, .int .i64 co, .int .i64 he, .int .i64 da]) | 4 => (s1) = true → v = (.bool (ac)) | 5 => v = (.bool ((s1 && ac))) | 6 => v = (.bool ((s1 && ac))) | 7 => ((s1 && ac)) = true → v = (.pointer (some ⟨g9, 1, none⟩)) | 8 => ((s1 && ac)) = true → v = (.int .u32 e1) | 9 => ((s1 && ac)) = true → v = (.pointer (some ⟨g5, 3, none⟩)) | 10 => ((s1 && ac)) = true → v = (.int .u32 ak) | 11 => ((s1 && ac)) = true → v = (.bool (less e1 ak)) | 12 => v = (.bool (((s1 && ac) && less e1 ak))) | 13 => v = (.bool (((s1 && ac) && less e1 ak))) | 14 => (((s1 && ac) && less e1 ak)) = false → v = (.agg #[.int .i64 sp, .int .i64 dp, .int .u32 sq, .int .u32 ak, .int .i64 fl, .int .i64 wi, .int .i64 ty, .int .i64 co, .int .i64 he, .int .i64 da]) | 15 => (((s1 && ac) && less e1 ak)) = false → v = (.bool (ac)) | 16 => (((s1 && ac) && less e1 ak)) = false → v = (.bool (!(ac))) | 17 => ((((s1 && ac) && less e1 ak)) = false → v = (.bool (!(ac)))) ∧ ((((s1 && ac) && less e1 ak)) = true → v = undef) | 18 => (((((s1 && ac) && less e1 ak) == false) && ((!(ac)) == true))) = true → v = (.agg #[.int .i64 sp, .int .i64 dp, .int .u32 sq, .int .u32 ak, .int .i64 fl, .int .i64 wi, .int .i64 ty, .int .i64 co, .int .i64 he, .int .i64 da]) | 19 => (((((s1 && ac) && less e1 ak) == false) && ((!(ac)) == true))) = true → v = (.bool (sy)) | 20 => (((((s1 && ac) && less e1 ak) == false) && ((!(ac)) == true))) = true → v = (.bool (!(sy))) | 21 => (((s1 && ac) && less e1 ak)) = false → v = (.bool ((!(ac) && !(sy)))) | 22 => ((((s1 && ac) && less e1 ak)) = false → v = (.bool ((!(ac) && !(sy))))) ∧ ((((s1 && ac) && less e1 ak)) = true → v = undef) | 23 => (((((s1 && ac) && less e1 ak) == false) && (((!(ac) && !(sy))) == true))) = true → v = (.agg #[.int .i64 sp, .int .i64 dp, .int .u32 sq, .int .u32 ak, .int .i64 fl, .int .i64 wi, .int .i64 ty, .int .i64 co, .int .i64 he, .int .i64 da]) | 24 => (((((s1 && ac) && less e1 ak) == false) && (((!(ac) && !(sy))) == true))) = true → v = (.bool (rs)) | 25 => (((((s1 && ac) && less e1 ak) == false) && (((!(ac) && !(sy))) == true))) = true → v = (.bool (!(rs))) | 26 => (((s1 && ac) && less e1 ak)) = false → v = (.bool (((!(ac) && !(sy)) && !(rs)))) | 27 => v = (.bool ((((s1 && ac) && less e1 ak) || ((!(ac) && !(sy)) && !(rs))))) | _ => True) (by kernel_rfl) (by kernel_rfl) below_tr br ?hJst2 ?hObl2 ?hEnd2
    case hJst2 =>
      intro i v wx wy hi hs0 hs1 hJi
      match i, hi with
      | 0, _ => exact hJi
      | 1, _ => exact hJi
      | 2, _ => exact hJi
      | 3, _ => exact hJi
      | 4, _ => exact hJi
      | 5, _ => exact hJi
      | 6, _ => exact hJi
      | 7, _ => exact hJi
      | 8, _ => exact hJi
      | 9, _ => exact hJi
      | 10, _ => exact hJi
      | 11, _ => exact hJi
      | 12, _ => exact hJi
      | 13, _ => exact hJi
      | 14, _ => exact hJi
      | 15, _ => exact hJi
      | 16, _ => exact hJi
      | 17, _ => exact hJi
      | 18, _ => exact hJi
      | 19, _ => exact hJi
      | 20, _ => exact hJi
      | 21, _ => exact hJi
      | 22, _ => exact hJi
      | 23, _ => exact hJi
      | 24, _ => exact hJi
      | 25, _ => exact hJi
      | 26, _ => exact hJi
      | 27, _ => exact hJi
      | _ + 28, hi => exact absurd hi (by simp)
    case hObl2 =>
      refine ⟨?_, ?_, ?_, ?_, ?_, ?_, ?_, ?_, ?_, ?_, ?_, ?_, ?_, ?_, ?_, ?_, ?_, ?_, ?_, ?_, ?_, ?_, ?_, ?_, ?_, ?_, ?_, ?_,  trivial⟩
      · intro _ _ a wq K hD hst hj ha hun hK
        have h9 := hD.out 9 rfl rfl
        clear hD hj ha hun
        have e9 := eval_of h9
        refine step_now (v := .pointer (some ⟨g9, 0, none⟩)) (w' := wq) (wanted_free rfl) ?_ (hK _ _ br rfl)
        clear hK
        first | (go_simp; done) | (go_simp; rfl)
      · intro _ _ a wq K hD hst hj ha hun hK
        obtain ⟨v29, h29, j29⟩ := hD.dep hj ha 0 29 rfl rfl
        replace j29 : v29 = (.pointer (some ⟨g9, 0, none⟩)) := j29
        subst j29
        replace hst : Below _ _ wq := hst
        clear hD hj ha hun
        have e29 := eval_of h29
        exact step_now (v := .bool s1) (w' := wq) (wanted_free rfl) (rg_load rfl e29 (blk_below Bg9_10.out hst) rfl Try.underlying4 rfl) (hK _ _ br rfl)
      · intro _ _ a wq K hD hst hj ha hun hK
        obtain ⟨v30, h30, j30⟩ := hD.dep hj ha 1 30 rfl rfl
        replace j30 : v30 = (.bool s1) := j30
        subst j30
        clear hD hj ha hun
        have e30 := eval_of h30
        refine step_now (v := .bool s1) (w' := wq) (wanted_free rfl) ?_ (hK _ _ br rfl)
        clear hK
        first | (go_simp; done) | (go_simp; rfl)
      · intro _ _ a wq K hD hst hj ha hun hK
        obtain ⟨v31, h31, j31⟩ := hD.dep hj ha 2 31 rfl rfl
        replace j31 : v31 = (.bool s1) := j31
        subst j31
        have h5 := hD.out 5 rfl rfl
        replace hst : Below _ _ wq := hst
        clear hD hj ha hun
        rcases hE : (s1) with _ | _
        · rw [hE] at h31
          exact step_off (wanted_off (t := 31) (u := true) rfl rfl rfl h31) (hK _ _ br (fun h => by rw [hE] at h; cases h))
        · rw [hE] at h31
          have e5 := eval_of h5
          exact step_now (v := .agg #[.int .i64 sp, .int .i64 dp, .int .u32 sq, .int .u32 ak, .int .i64 fl, .int .i64 wi, .int .i64 ty, .int .i64 co, .int .i64 he, .int .i64 da]) (w' := wq) (wanted_on (t := 31) (u := true) rfl rfl rfl h31) (rg_loadall rfl e5 (blk_below Bg5_10.out hst) Try.underlying52 rfl (by kernel_rfl)) (hK _ _ br (fun _ => rfl))
      · intro _ _ a wq K hD hst hj ha hun hK
        obtain ⟨v32, h32, j32⟩ := hD.dep hj ha 3 32 rfl rfl
        replace j32 : (s1) = true → v32 = (.agg #[.int .i64 sp, .int .i64 dp, .int .u32 sq, .int .u32 ak, .int .i64 fl, .int .i64 wi, .int .i64 ty, .int .i64 co, .int .i64 he, .int .i64 da]) := j32
        obtain ⟨v31, h31, j31⟩ := hD.dep hj ha 2 31 rfl rfl
        replace j31 : v31 = (.bool s1) := j31
        subst j31
        clear hD hj ha hun
        rcases hE : (s1) with _ | _
        · rw [hE] at h31
          exact step_off (wanted_off (t := 31) (u := true) rfl rfl rfl h31) (hK _ _ br (fun h => by rw [hE] at h; cases h))
        · rw [hE] at h31
          obtain rfl := j32 hE
          have e32 := eval_of h32
          refine step_call (f := 45) (args := #[.agg #[.int .i64 sp, .int .i64 dp, .int .u32 sq, .int .u32 ak, .int .i64 fl, .int .i64 wi, .int .i64 ty, .int .i64 co, .int .i64 he, .int .i64 da], .int .i64 16]) (wanted_on (t := 31) (u := true) rfl rfl rfl h31) ?_ (has_as sp dp sq ak fl wi ty co he da 16 ac F16.out wq) ?_
          · clear hK; first | (go_simp; done) | (go_simp; rfl)
          · rintro e w' ⟨rfl, hbq⟩; exact ⟨_, rfl, hK _ _ hbq (fun _ => rfl)⟩
      · intro _ _ a wq K hD hst hj ha hun hK
        obtain ⟨v31, h31, j31⟩ := hD.dep hj ha 2 31 rfl rfl
        replace j31 : v31 = (.bool s1) := j31
        subst j31
        obtain ⟨v33, h33, j33⟩ := hD.dep hj ha 4 33 rfl rfl
        replace j33 : (s1) = true → v33 = (.bool (ac)) := j33
        clear hD hj ha hun
        rcases hE : (s1) with _ | _
        · rw [hE] at h31
          have e31 := eval_of h31
          have e33 := eval_of h33
          refine step_now (v := .bool ((s1 && ac))) (w' := wq) (wanted_free rfl) ?_ (hK _ _ br rfl)
          rw [hE]
          clear hK
          first | (go_simp; done) | (go_simp; rfl) | (go_simp; (try simp only [IntKind.wrap_u32]); omega)
        · rw [hE] at h31
          obtain rfl := j33 hE
          have e31 := eval_of h31
          have e33 := eval_of h33
          refine step_now (v := .bool ((s1 && ac))) (w' := wq) (wanted_free rfl) ?_ (hK _ _ br rfl)
          rw [hE]
          clear hK
          first | (go_simp; done) | (go_simp; rfl) | (go_simp; (try simp only [IntKind.wrap_u32]); omega)
      · intro _ _ a wq K hD hst hj ha hun hK
        obtain ⟨v34, h34, j34⟩ := hD.dep hj ha 5 34 rfl rfl
        replace j34 : v34 = (.bool ((s1 && ac))) := j34
        subst j34
        clear hD hj ha hun
        have e34 := eval_of h34
        refine step_now (v := .bool ((s1 && ac))) (w' := wq) (wanted_free rfl) ?_ (hK _ _ br rfl)
        clear hK
        first | (go_simp; done) | (go_simp; rfl)
      · intro _ _ a wq K hD hst hj ha hun hK
        obtain ⟨v35, h35, j35⟩ := hD.dep hj ha 6 35 rfl rfl
        replace j35 : v35 = (.bool ((s1 && ac))) := j35
        subst j35
        have h9 := hD.out 9 rfl rfl
        clear hD hj ha hun
        rcases hE : ((s1 && ac)) with _ | _
        · rw [hE] at h35
          exact step_off (wanted_off (t := 35) (u := true) rfl rfl rfl h35) (hK _ _ br (fun h => by rw [hE] at h; cases h))
        · rw [hE] at h35
          have e9 := eval_of h9
          refine step_now (v := .pointer (some ⟨g9, 1, none⟩)) (w' := wq) (wanted_on (t := 35) (u := true) rfl rfl rfl h35) ?_ (hK _ _ br (fun _ => rfl))
          clear hK
          first | (go_simp; done) | (go_simp; rfl)
      · intro _ _ a wq K hD hst hj ha hun hK
        obtain ⟨v36, h36, j36⟩ := hD.dep hj ha 7 36 rfl rfl
        replace j36 : ((s1 && ac)) = true → v36 = (.pointer (some ⟨g9, 1, none⟩)) := j36
        obtain ⟨v35, h35, j35⟩ := hD.dep hj ha 6 35 rfl rfl
        replace j35 : v35 = (.bool ((s1 && ac))) := j35
        subst j35
        replace hst : Below _ _ wq := hst
        clear hD hj ha hun
        rcases hE : ((s1 && ac)) with _ | _
        · rw [hE] at h35
          exact step_off (wanted_off (t := 35) (u := true) rfl rfl rfl h35) (hK _ _ br (fun h => by rw [hE] at h; cases h))
        · rw [hE] at h35
          obtain rfl := j36 hE
          have e36 := eval_of h36
          exact step_now (v := .int .u32 e1) (w' := wq) (wanted_on (t := 35) (u := true) rfl rfl rfl h35) (rg_load rfl e36 (blk_below Bg9_10.out hst) rfl Try.underlying33 rfl) (hK _ _ br (fun _ => rfl))
      · intro _ _ a wq K hD hst hj ha hun hK
        obtain ⟨v35, h35, j35⟩ := hD.dep hj ha 6 35 rfl rfl
        replace j35 : v35 = (.bool ((s1 && ac))) := j35
        subst j35
        have h5 := hD.out 5 rfl rfl
        clear hD hj ha hun
        rcases hE : ((s1 && ac)) with _ | _
        · rw [hE] at h35
          exact step_off (wanted_off (t := 35) (u := true) rfl rfl rfl h35) (hK _ _ br (fun h => by rw [hE] at h; cases h))
        · rw [hE] at h35
          have e5 := eval_of h5
          refine step_now (v := .pointer (some ⟨g5, 3, none⟩)) (w' := wq) (wanted_on (t := 35) (u := true) rfl rfl rfl h35) ?_ (hK _ _ br (fun _ => rfl))
          clear hK
          first | (go_simp; done) | (go_simp; rfl)
      · intro _ _ a wq K hD hst hj ha hun hK
        obtain ⟨v38, h38, j38⟩ := hD.dep hj ha 9 38 rfl rfl
        replace j38 : ((s1 && ac)) = true → v38 = (.pointer (some ⟨g5, 3, none⟩)) := j38
        obtain ⟨v35, h35, j35⟩ := hD.dep hj ha 6 35 rfl rfl
        replace j35 : v35 = (.bool ((s1 && ac))) := j35
        subst j35
        replace hst : Below _ _ wq := hst
        clear hD hj ha hun
        rcases hE : ((s1 && ac)) with _ | _
        · rw [hE] at h35
          exact step_off (wanted_off (t := 35) (u := true) rfl rfl rfl h35) (hK _ _ br (fun h => by rw [hE] at h; cases h))
        · rw [hE] at h35
          obtain rfl := j38 hE
          have e38 := eval_of h38
          exact step_now (v := .int .u32 ak) (w' := wq) (wanted_on (t := 35) (u := true) rfl rfl rfl h35) (rg_load rfl e38 (blk_below Bg5_10.out hst) rfl Try.underlying33 rfl) (hK _ _ br (fun _ => rfl))
      · intro _ _ a wq K hD hst hj ha hun hK
        obtain ⟨v37, h37, j37⟩ := hD.dep hj ha 8 37 rfl rfl
        replace j37 : ((s1 && ac)) = true → v37 = (.int .u32 e1) := j37
        obtain ⟨v39, h39, j39⟩ := hD.dep hj ha 10 39 rfl rfl
        replace j39 : ((s1 && ac)) = true → v39 = (.int .u32 ak) := j39
        obtain ⟨v35, h35, j35⟩ := hD.dep hj ha 6 35 rfl rfl
        replace j35 : v35 = (.bool ((s1 && ac))) := j35
        subst j35
        clear hD hj ha hun
        rcases hE : ((s1 && ac)) with _ | _
        · rw [hE] at h35
          exact step_off (wanted_off (t := 35) (u := true) rfl rfl rfl h35) (hK _ _ br (fun h => by rw [hE] at h; cases h))
        · rw [hE] at h35
          obtain rfl := j37 hE
          obtain rfl := j39 hE
          have e37 := eval_of h37
          have e39 := eval_of h39
          refine step_call (f := 46) (args := #[.int .u32 e1, .int .u32 ak]) (wanted_on (t := 35) (u := true) rfl rfl rfl h35) ?_ (rless_any e1 ak wq) ?_
          · clear hK; first | (go_simp; done) | (go_simp; rfl)
          · rintro e w' ⟨rfl, rfl⟩; exact ⟨_, rfl, hK _ _ br (fun _ => rfl)⟩
      · intro _ _ a wq K hD hst hj ha hun hK
        obtain ⟨v35, h35, j35⟩ := hD.dep hj ha 6 35 rfl rfl
        replace j35 : v35 = (.bool ((s1 && ac))) := j35
        subst j35
        obtain ⟨v40, h40, j40⟩ := hD.dep hj ha 11 40 rfl rfl
        replace j40 : ((s1 && ac)) = true → v40 = (.bool (less e1 ak)) := j40
        clear hD hj ha hun
        rcases hE : ((s1 && ac)) with _ | _
        · rw [hE] at h35
          have e35 := eval_of h35
          have e40 := eval_of h40
          refine step_now (v := .bool (((s1 && ac) && less e1 ak))) (w' := wq) (wanted_free rfl) ?_ (hK _ _ br rfl)
          rw [hE]
          clear hK
          first | (go_simp; done) | (go_simp; rfl) | (go_simp; (try simp only [IntKind.wrap_u32]); omega)
        · rw [hE] at h35
          obtain rfl := j40 hE
          have e35 := eval_of h35
          have e40 := eval_of h40
          refine step_now (v := .bool (((s1 && ac) && less e1 ak))) (w' := wq) (wanted_free rfl) ?_ (hK _ _ br rfl)
          rw [hE]
          clear hK
          first | (go_simp; done) | (go_simp; rfl) | (go_simp; (try simp only [IntKind.wrap_u32]); omega)
      · intro _ _ a wq K hD hst hj ha hun hK
        obtain ⟨v41, h41, j41⟩ := hD.dep hj ha 12 41 rfl rfl
        replace j41 : v41 = (.bool (((s1 && ac) && less e1 ak))) := j41
        subst j41
        clear hD hj ha hun
        have e41 := eval_of h41
        refine step_now (v := .bool (((s1 && ac) && less e1 ak))) (w' := wq) (wanted_free rfl) ?_ (hK _ _ br rfl)
        clear hK
        first | (go_simp; done) | (go_simp; rfl)
      · intro _ _ a wq K hD hst hj ha hun hK
        obtain ⟨v42, h42, j42⟩ := hD.dep hj ha 13 42 rfl rfl
        replace j42 : v42 = (.bool (((s1 && ac) && less e1 ak))) := j42
        subst j42
        have h5 := hD.out 5 rfl rfl
        replace hst : Below _ _ wq := hst
        clear hD hj ha hun
        rcases hE : (((s1 && ac) && less e1 ak)) with _ | _
        · rw [hE] at h42
          have e5 := eval_of h5
          exact step_now (v := .agg #[.int .i64 sp, .int .i64 dp, .int .u32 sq, .int .u32 ak, .int .i64 fl, .int .i64 wi, .int .i64 ty, .int .i64 co, .int .i64 he, .int .i64 da]) (w' := wq) (wanted_on (t := 42) (u := false) rfl rfl rfl h42) (rg_loadall rfl e5 (blk_below Bg5_10.out hst) Try.underlying52 rfl (by kernel_rfl)) (hK _ _ br (fun _ => rfl))
        · rw [hE] at h42
          exact step_off (wanted_off (t := 42) (u := false) rfl rfl rfl h42) (hK _ _ br (fun h => by rw [hE] at h; cases h))
      · intro _ _ a wq K hD hst hj ha hun hK
        obtain ⟨v43, h43, j43⟩ := hD.dep hj ha 14 43 rfl rfl
        replace j43 : (((s1 && ac) && less e1 ak)) = false → v43 = (.agg #[.int .i64 sp, .int .i64 dp, .int .u32 sq, .int .u32 ak, .int .i64 fl, .int .i64 wi, .int .i64 ty, .int .i64 co, .int .i64 he, .int .i64 da]) := j43
        obtain ⟨v42, h42, j42⟩ := hD.dep hj ha 13 42 rfl rfl
        replace j42 : v42 = (.bool (((s1 && ac) && less e1 ak))) := j42
        subst j42
        clear hD hj ha hun
        rcases hE : (((s1 && ac) && less e1 ak)) with _ | _
        · rw [hE] at h42
          obtain rfl := j43 hE
          have e43 := eval_of h43
          refine step_call (f := 45) (args := #[.agg #[.int .i64 sp, .int .i64 dp, .int .u32 sq, .int .u32 ak, .int .i64 fl, .int .i64 wi, .int .i64 ty, .int .i64 co, .int .i64 he, .int .i64 da], .int .i64 16]) (wanted_on (t := 42) (u := false) rfl rfl rfl h42) ?_ (has_as sp dp sq ak fl wi ty co he da 16 ac F16.out wq) ?_
          · clear hK; first | (go_simp; done) | (go_simp; rfl)
          · rintro e w' ⟨rfl, hbq⟩; exact ⟨_, rfl, hK _ _ hbq (fun _ => rfl)⟩
        · rw [hE] at h42
          exact step_off (wanted_off (t := 42) (u := false) rfl rfl rfl h42) (hK _ _ br (fun h => by rw [hE] at h; cases h))
      · intro _ _ a wq K hD hst hj ha hun hK
        obtain ⟨v44, h44, j44⟩ := hD.dep hj ha 15 44 rfl rfl
        replace j44 : (((s1 && ac) && less e1 ak)) = false → v44 = (.bool (ac)) := j44
        obtain ⟨v42, h42, j42⟩ := hD.dep hj ha 13 42 rfl rfl
        replace j42 : v42 = (.bool (((s1 && ac) && less e1 ak))) := j42
        subst j42
        clear hD hj ha hun
        rcases hE : (((s1 && ac) && less e1 ak)) with _ | _
        · rw [hE] at h42
          obtain rfl := j44 hE
          have e44 := eval_of h44
          refine step_now (v := .bool (!(ac))) (w' := wq) (wanted_on (t := 42) (u := false) rfl rfl rfl h42) ?_ (hK _ _ br (fun _ => rfl))
          clear hK
          first | (go_simp; done) | (go_simp; rfl)
        · rw [hE] at h42
          exact step_off (wanted_off (t := 42) (u := false) rfl rfl rfl h42) (hK _ _ br (fun h => by rw [hE] at h; cases h))
      · intro _ _ a wq K hD hst hj ha hun hK
        obtain ⟨v45, h45, j45⟩ := hD.dep hj ha 16 45 rfl rfl
        replace j45 : (((s1 && ac) && less e1 ak)) = false → v45 = (.bool (!(ac))) := j45
        obtain ⟨v42, h42, j42⟩ := hD.dep hj ha 13 42 rfl rfl
        replace j42 : v42 = (.bool (((s1 && ac) && less e1 ak))) := j42
        subst j42
        clear hD hj ha hun
        rcases hE : (((s1 && ac) && less e1 ak)) with _ | _
        · rw [hE] at h42
          obtain rfl := j45 hE
          have e45 := eval_of h45
          refine step_now (v := .bool (!(ac))) (w' := wq) (wanted_on (t := 42) (u := false) rfl rfl rfl h42) ?_ (hK _ _ br ⟨(fun _ => rfl), (fun h => by rw [hE] at h; cases h)⟩)
          clear hK
          first | (go_simp; done) | (go_simp; rfl)
        · rw [hE] at h42
          exact step_off (wanted_off (t := 42) (u := false) rfl rfl rfl h42) (hK _ _ br ⟨(fun h => by rw [hE] at h; cases h), fun _ => rfl⟩)
      · intro _ _ a wq K hD hst hj ha hun hK
        obtain ⟨v46, h46, j46⟩ := hD.dep hj ha 17 46 rfl rfl
        replace j46 : ((((s1 && ac) && less e1 ak)) = false → v46 = (.bool (!(ac)))) ∧ ((((s1 && ac) && less e1 ak)) = true → v46 = undef) := j46
        have h5 := hD.out 5 rfl rfl
        replace hst : Below _ _ wq := hst
        clear hD hj ha hun
        rcases hE : (((((s1 && ac) && less e1 ak) == false) && ((!(ac)) == true))) with _ | _
        · exact step_off (wanted_nest (t := 46) rfl rfl rfl h46 j46 hE) (hK _ _ br (fun h => by rw [hE] at h; cases h))
        · have e5 := eval_of h5
          exact step_now (v := .agg #[.int .i64 sp, .int .i64 dp, .int .u32 sq, .int .u32 ak, .int .i64 fl, .int .i64 wi, .int .i64 ty, .int .i64 co, .int .i64 he, .int .i64 da]) (w' := wq) (wanted_nest_on (t := 46) rfl rfl rfl h46 j46 hE) (rg_loadall rfl e5 (blk_below Bg5_10.out hst) Try.underlying52 rfl (by kernel_rfl)) (hK _ _ br (fun _ => rfl))
      · intro _ _ a wq K hD hst hj ha hun hK
        obtain ⟨v47, h47, j47⟩ := hD.dep hj ha 18 47 rfl rfl
        replace j47 : (((((s1 && ac) && less e1 ak) == false) && ((!(ac)) == true))) = true → v47 = (.agg #[.int .i64 sp, .int .i64 dp, .int .u32 sq, .int .u32 ak, .int .i64 fl, .int .i64 wi, .int .i64 ty, .int .i64 co, .int .i64 he, .int .i64 da]) := j47
        obtain ⟨v46, h46, j46⟩ := hD.dep hj ha 17 46 rfl rfl
        replace j46 : ((((s1 && ac) && less e1 ak)) = false → v46 = (.bool (!(ac)))) ∧ ((((s1 && ac) && less e1 ak)) = true → v46 = undef) := j46
        clear hD hj ha hun
        rcases hE : (((((s1 && ac) && less e1 ak) == false) && ((!(ac)) == true))) with _ | _
        · exact step_off (wanted_nest (t := 46) rfl rfl rfl h46 j46 hE) (hK _ _ br (fun h => by rw [hE] at h; cases h))
        · obtain rfl := j47 hE
          have e47 := eval_of h47
          refine step_call (f := 45) (args := #[.agg #[.int .i64 sp, .int .i64 dp, .int .u32 sq, .int .u32 ak, .int .i64 fl, .int .i64 wi, .int .i64 ty, .int .i64 co, .int .i64 he, .int .i64 da], .int .i64 2]) (wanted_nest_on (t := 46) rfl rfl rfl h46 j46 hE) ?_ (has_as sp dp sq ak fl wi ty co he da 2 sy F2.out wq) ?_
          · clear hK; first | (go_simp; done) | (go_simp; rfl)
          · rintro e w' ⟨rfl, hbq⟩; exact ⟨_, rfl, hK _ _ hbq (fun _ => rfl)⟩
      · intro _ _ a wq K hD hst hj ha hun hK
        obtain ⟨v48, h48, j48⟩ := hD.dep hj ha 19 48 rfl rfl
        replace j48 : (((((s1 && ac) && less e1 ak) == false) && ((!(ac)) == true))) = true → v48 = (.bool (sy)) := j48
        obtain ⟨v46, h46, j46⟩ := hD.dep hj ha 17 46 rfl rfl
        replace j46 : ((((s1 && ac) && less e1 ak)) = false → v46 = (.bool (!(ac)))) ∧ ((((s1 && ac) && less e1 ak)) = true → v46 = undef) := j46
        clear hD hj ha hun
        rcases hE : (((((s1 && ac) && less e1 ak) == false) && ((!(ac)) == true))) with _ | _
        · exact step_off (wanted_nest (t := 46) rfl rfl rfl h46 j46 hE) (hK _ _ br (fun h => by rw [hE] at h; cases h))
        · obtain rfl := j48 hE
          have e48 := eval_of h48
          refine step_now (v := .bool (!(sy))) (w' := wq) (wanted_nest_on (t := 46) rfl rfl rfl h46 j46 hE) ?_ (hK _ _ br (fun _ => rfl))
          clear hK
          first | (go_simp; done) | (go_simp; rfl)
      · intro _ _ a wq K hD hst hj ha hun hK
        obtain ⟨v46, h46, j46⟩ := hD.dep hj ha 17 46 rfl rfl
        replace j46 : ((((s1 && ac) && less e1 ak)) = false → v46 = (.bool (!(ac)))) ∧ ((((s1 && ac) && less e1 ak)) = true → v46 = undef) := j46
        obtain ⟨v49, h49, j49⟩ := hD.dep hj ha 20 49 rfl rfl
        replace j49 : (((((s1 && ac) && less e1 ak) == false) && ((!(ac)) == true))) = true → v49 = (.bool (!(sy))) := j49
        obtain ⟨v42, h42, j42⟩ := hD.dep hj ha 13 42 rfl rfl
        replace j42 : v42 = (.bool (((s1 && ac) && less e1 ak))) := j42
        subst j42
        clear hD hj ha hun
        rcases hE : (((s1 && ac) && less e1 ak)) with _ | _
        · rw [hE] at h42
          obtain rfl := j46.1 hE
          rcases hP : (!(ac)) with _ | _
          · rw [hP] at h46
            have e46 := eval_of h46
            have e49 := eval_of h49
            refine step_now (v := .bool ((!(ac) && !(sy)))) (w' := wq) (wanted_on (t := 42) (u := false) rfl rfl rfl h42) ?_ (hK _ _ br (fun _ => rfl))
            rw [hP]
            clear hK
            first | (go_simp; done) | (go_simp; rfl) | (go_simp; (try simp only [IntKind.wrap_u32]); omega)
          · rw [hP] at h46
            obtain rfl := j49 (by rw [hE, hP]; rfl)
            have e46 := eval_of h46
            have e49 := eval_of h49
            refine step_now (v := .bool ((!(ac) && !(sy)))) (w' := wq) (wanted_on (t := 42) (u := false) rfl rfl rfl h42) ?_ (hK _ _ br (fun _ => rfl))
            rw [hP]
            clear hK
            first | (go_simp; done) | (go_simp; rfl) | (go_simp; (try simp only [IntKind.wrap_u32]); omega)
        · rw [hE] at h42
          exact step_off (wanted_off (t := 42) (u := false) rfl rfl rfl h42) (hK _ _ br (fun h => by rw [hE] at h; cases h))
      · intro _ _ a wq K hD hst hj ha hun hK
        obtain ⟨v50, h50, j50⟩ := hD.dep hj ha 21 50 rfl rfl
        replace j50 : (((s1 && ac) && less e1 ak)) = false → v50 = (.bool ((!(ac) && !(sy)))) := j50
        obtain ⟨v42, h42, j42⟩ := hD.dep hj ha 13 42 rfl rfl
        replace j42 : v42 = (.bool (((s1 && ac) && less e1 ak))) := j42
        subst j42
        clear hD hj ha hun
        rcases hE : (((s1 && ac) && less e1 ak)) with _ | _
        · rw [hE] at h42
          obtain rfl := j50 hE
          have e50 := eval_of h50
          refine step_now (v := .bool ((!(ac) && !(sy)))) (w' := wq) (wanted_on (t := 42) (u := false) rfl rfl rfl h42) ?_ (hK _ _ br ⟨(fun _ => rfl), (fun h => by rw [hE] at h; cases h)⟩)
          clear hK
          first | (go_simp; done) | (go_simp; rfl)
        · rw [hE] at h42
          exact step_off (wanted_off (t := 42) (u := false) rfl rfl rfl h42) (hK _ _ br ⟨(fun h => by rw [hE] at h; cases h), fun _ => rfl⟩)
      · intro _ _ a wq K hD hst hj ha hun hK
        obtain ⟨v51, h51, j51⟩ := hD.dep hj ha 22 51 rfl rfl
        replace j51 : ((((s1 && ac) && less e1 ak)) = false → v51 = (.bool ((!(ac) && !(sy))))) ∧ ((((s1 && ac) && less e1 ak)) = true → v51 = undef) := j51
        have h5 := hD.out 5 rfl rfl
        replace hst : Below _ _ wq := hst
        clear hD hj ha hun
        rcases hE : (((((s1 && ac) && less e1 ak) == false) && (((!(ac) && !(sy))) == true))) with _ | _
        · exact step_off (wanted_nest (t := 51) rfl rfl rfl h51 j51 hE) (hK _ _ br (fun h => by rw [hE] at h; cases h))
        · have e5 := eval_of h5
          exact step_now (v := .agg #[.int .i64 sp, .int .i64 dp, .int .u32 sq, .int .u32 ak, .int .i64 fl, .int .i64 wi, .int .i64 ty, .int .i64 co, .int .i64 he, .int .i64 da]) (w' := wq) (wanted_nest_on (t := 51) rfl rfl rfl h51 j51 hE) (rg_loadall rfl e5 (blk_below Bg5_10.out hst) Try.underlying52 rfl (by kernel_rfl)) (hK _ _ br (fun _ => rfl))
      · intro _ _ a wq K hD hst hj ha hun hK
        obtain ⟨v52, h52, j52⟩ := hD.dep hj ha 23 52 rfl rfl
        replace j52 : (((((s1 && ac) && less e1 ak) == false) && (((!(ac) && !(sy))) == true))) = true → v52 = (.agg #[.int .i64 sp, .int .i64 dp, .int .u32 sq, .int .u32 ak, .int .i64 fl, .int .i64 wi, .int .i64 ty, .int .i64 co, .int .i64 he, .int .i64 da]) := j52
        obtain ⟨v51, h51, j51⟩ := hD.dep hj ha 22 51 rfl rfl
        replace j51 : ((((s1 && ac) && less e1 ak)) = false → v51 = (.bool ((!(ac) && !(sy))))) ∧ ((((s1 && ac) && less e1 ak)) = true → v51 = undef) := j51
        clear hD hj ha hun
        rcases hE : (((((s1 && ac) && less e1 ak) == false) && (((!(ac) && !(sy))) == true))) with _ | _
        · exact step_off (wanted_nest (t := 51) rfl rfl rfl h51 j51 hE) (hK _ _ br (fun h => by rw [hE] at h; cases h))
        · obtain rfl := j52 hE
          have e52 := eval_of h52
          refine step_call (f := 45) (args := #[.agg #[.int .i64 sp, .int .i64 dp, .int .u32 sq, .int .u32 ak, .int .i64 fl, .int .i64 wi, .int .i64 ty, .int .i64 co, .int .i64 he, .int .i64 da], .int .i64 4]) (wanted_nest_on (t := 51) rfl rfl rfl h51 j51 hE) ?_ (has_as sp dp sq ak fl wi ty co he da 4 rs F4.out wq) ?_
          · clear hK; first | (go_simp; done) | (go_simp; rfl)
          · rintro e w' ⟨rfl, hbq⟩; exact ⟨_, rfl, hK _ _ hbq (fun _ => rfl)⟩
      · intro _ _ a wq K hD hst hj ha hun hK
        obtain ⟨v53, h53, j53⟩ := hD.dep hj ha 24 53 rfl rfl
        replace j53 : (((((s1 && ac) && less e1 ak) == false) && (((!(ac) && !(sy))) == true))) = true → v53 = (.bool (rs)) := j53
        obtain ⟨v51, h51, j51⟩ := hD.dep hj ha 22 51 rfl rfl
        replace j51 : ((((s1 && ac) && less e1 ak)) = false → v51 = (.bool ((!(ac) && !(sy))))) ∧ ((((s1 && ac) && less e1 ak)) = true → v51 = undef) := j51
        clear hD hj ha hun
        rcases hE : (((((s1 && ac) && less e1 ak) == false) && (((!(ac) && !(sy))) == true))) with _ | _
        · exact step_off (wanted_nest (t := 51) rfl rfl rfl h51 j51 hE) (hK _ _ br (fun h => by rw [hE] at h; cases h))
        · obtain rfl := j53 hE
          have e53 := eval_of h53
          refine step_now (v := .bool (!(rs))) (w' := wq) (wanted_nest_on (t := 51) rfl rfl rfl h51 j51 hE) ?_ (hK _ _ br (fun _ => rfl))
          clear hK
          first | (go_simp; done) | (go_simp; rfl)
      · intro _ _ a wq K hD hst hj ha hun hK
        obtain ⟨v51, h51, j51⟩ := hD.dep hj ha 22 51 rfl rfl
        replace j51 : ((((s1 && ac) && less e1 ak)) = false → v51 = (.bool ((!(ac) && !(sy))))) ∧ ((((s1 && ac) && less e1 ak)) = true → v51 = undef) := j51
        obtain ⟨v54, h54, j54⟩ := hD.dep hj ha 25 54 rfl rfl
        replace j54 : (((((s1 && ac) && less e1 ak) == false) && (((!(ac) && !(sy))) == true))) = true → v54 = (.bool (!(rs))) := j54
        obtain ⟨v42, h42, j42⟩ := hD.dep hj ha 13 42 rfl rfl
        replace j42 : v42 = (.bool (((s1 && ac) && less e1 ak))) := j42
        subst j42
        clear hD hj ha hun
        rcases hE : (((s1 && ac) && less e1 ak)) with _ | _
        · rw [hE] at h42
          obtain rfl := j51.1 hE
          rcases hP : ((!(ac) && !(sy))) with _ | _
          · rw [hP] at h51
            have e51 := eval_of h51
            have e54 := eval_of h54
            refine step_now (v := .bool (((!(ac) && !(sy)) && !(rs)))) (w' := wq) (wanted_on (t := 42) (u := false) rfl rfl rfl h42) ?_ (hK _ _ br (fun _ => rfl))
            rw [hP]
            clear hK
            first | (go_simp; done) | (go_simp; rfl) | (go_simp; (try simp only [IntKind.wrap_u32]); omega)
          · rw [hP] at h51
            obtain rfl := j54 (by rw [hE, hP]; rfl)
            have e51 := eval_of h51
            have e54 := eval_of h54
            refine step_now (v := .bool (((!(ac) && !(sy)) && !(rs)))) (w' := wq) (wanted_on (t := 42) (u := false) rfl rfl rfl h42) ?_ (hK _ _ br (fun _ => rfl))
            rw [hP]
            clear hK
            first | (go_simp; done) | (go_simp; rfl) | (go_simp; (try simp only [IntKind.wrap_u32]); omega)
        · rw [hE] at h42
          exact step_off (wanted_off (t := 42) (u := false) rfl rfl rfl h42) (hK _ _ br (fun h => by rw [hE] at h; cases h))
      · intro _ _ a wq K hD hst hj ha hun hK
        obtain ⟨v42, h42, j42⟩ := hD.dep hj ha 13 42 rfl rfl
        replace j42 : v42 = (.bool (((s1 && ac) && less e1 ak))) := j42
        subst j42
        obtain ⟨v55, h55, j55⟩ := hD.dep hj ha 26 55 rfl rfl
        replace j55 : (((s1 && ac) && less e1 ak)) = false → v55 = (.bool (((!(ac) && !(sy)) && !(rs)))) := j55
        clear hD hj ha hun
        rcases hE : (((s1 && ac) && less e1 ak)) with _ | _
        · rw [hE] at h42
          obtain rfl := j55 hE
          have e42 := eval_of h42
          have e55 := eval_of h55
          refine step_now (v := .bool ((((s1 && ac) && less e1 ak) || ((!(ac) && !(sy)) && !(rs))))) (w' := wq) (wanted_free rfl) ?_ (hK _ _ br rfl)
          rw [hE]
          clear hK
          first | (go_simp; done) | (go_simp; rfl) | (go_simp; (try simp only [IntKind.wrap_u32]); omega)
        · rw [hE] at h42
          have e42 := eval_of h42
          have e55 := eval_of h55
          refine step_now (v := .bool ((((s1 && ac) && less e1 ak) || ((!(ac) && !(sy)) && !(rs))))) (w' := wq) (wanted_free rfl) ?_ (hK _ _ br rfl)
          rw [hE]
          clear hK
          first | (go_simp; done) | (go_simp; rfl) | (go_simp; (try simp only [IntKind.wrap_u32]); omega)
    intro vals wend hst hj
    have j0 : vals 0 = (.pointer (some ⟨g9, 0, none⟩)) := hj 0 (by decide)
    have j1 : vals 1 = (.bool s1) := hj 1 (by decide)
    have j2 : vals 2 = (.bool s1) := hj 2 (by decide)
    have j5 : vals 5 = (.bool ((s1 && ac))) := hj 5 (by decide)
    have j6 : vals 6 = (.bool ((s1 && ac))) := hj 6 (by decide)
    have j12 : vals 12 = (.bool (((s1 && ac) && less e1 ak))) := hj 12 (by decide)
    have j13 : vals 13 = (.bool (((s1 && ac) && less e1 ak))) := hj 13 (by decide)
    have j27 : vals 27 = (.bool ((((s1 && ac) && less e1 ak) || ((!(ac) && !(sy)) && !(rs))))) := hj 27 (by decide)
    replace hst : Below _ _ wend := hst
    clear hj
    rw [putAll_list]
    simp only [putL, Act.put, List.setIfInBounds_toArray, List.set_cons_zero, List.set_cons_succ, j0, j1, j2, j5, j6, j12, j13, j27]
    clear j0 j1 j2 j5 j6 j12 j13 j27
    generalize vals 3 = u32_
    generalize vals 4 = u33_
    generalize vals 7 = u36_
    generalize vals 8 = u37_
    generalize vals 9 = u38_
    generalize vals 10 = u39_
    generalize vals 11 = u40_
    generalize vals 14 = u43_
    generalize vals 15 = u44_
    generalize vals 16 = u45_
    generalize vals 17 = u46_
    generalize vals 18 = u47_
    generalize vals 19 = u48_
    generalize vals 20 = u49_
    generalize vals 21 = u50_
    generalize vals 22 = u51_
    generalize vals 23 = u52_
    generalize vals 24 = u53_
    generalize vals 25 = u54_
    generalize vals 26 = u55_
    have HB_11 := Aside0.mk (below_step HB_10.out hst)
    clear HB_10
    have Bg3_11 := Aside0.mk (blk_below Bg3_10.out hst)
    clear Bg3_10
    have Bg5_11 := Aside0.mk (blk_below Bg5_10.out hst)
    clear Bg5_10
    have Bg6_11 := Aside0.mk (blk_below Bg6_10.out hst)
    clear Bg6_10
    have Bg8_11 := Aside0.mk (blk_below Bg8_10.out hst)
    clear Bg8_10
    have Bg9_11 := Aside0.mk (blk_below Bg9_10.out hst)
    clear Bg9_10
    clear hst
    rcases hc1 : ((((s1 && ac) && less e1 ak) || ((!(ac) && !(sy)) && !(rs)))) with _ | _
    · simp only [Bool.or_eq_false_iff] at hc1
      obtain ⟨hc1, hc2⟩ := hc1
      go_upto_region 11 with (first | ((with_reducible refine gate_dst (N := 59) rfl ?_); refine load1_event rfl _ _ rfl g3 0 rfl _ _ _ _ Bg3_11.out rfl Try.underlying3 rfl ?_))
      go_upto_if 61 with (first | ((with_reducible refine gate_dst (N := 60) rfl ?_); refine load_event rfl 52 _ rfl g5 rfl _ _ _ Bg5_11.out Try.underlying52 rfl (by kernel_rfl) ?_) | (go_at_call 45; refine (has_as sp dp sq ak fl wi ty co he da 2 sy F2.out _).mono ?_; rintro e wx12 ⟨rfl, hb⟩; have HB_12 := Aside0.mk (below_step HB_11.out hb); clear HB_11; have Bg3_12 := Aside0.mk (blk_below Bg3_11.out hb); clear Bg3_11; have Bg5_12 := Aside0.mk (blk_below Bg5_11.out hb); clear Bg5_11; have Bg6_12 := Aside0.mk (blk_below Bg6_11.out hb); clear Bg6_11; have Bg8_12 := Aside0.mk (blk_below Bg8_11.out hb); clear Bg8_11; have Bg9_12 := Aside0.mk (blk_below Bg9_11.out hb); clear Bg9_11; clear hb))
      cases sy
      · cases s2
        · go_upto_region 23 with (first | ((with_reducible refine gate_dst (N := 138) rfl ?_); refine load1_event rfl _ _ rfl g8 0 rfl _ _ _ _ Bg8_12.out rfl Try.underlying4 rfl ?_))
          refine wp_region_rg_seq (fun x y => Below x.heap.size x y) (fun (i : Nat) (v : Value) (w1 : World) => match i with | 0 => v = (.agg #[.int .i64 sp, .int .i64 dp, .int .u32 sq, .int .u32 ak, .int .i64 fl, .int .i64 wi, .int .i64 ty, .int .i64 co, .int .i64 he, .int .i64 da]) | 1 => v = (.bool (rs)) | 2 => v = (.bool (rs)) | 3 => (rs) = true → v = (.agg #[.int .i64 sp, .int .i64 dp, .int .u32 sq, .int .u32 ak, .int .i64 fl, .int .i64 wi, .int .i64 ty, .int .i64 co, .int .i64 he, .int .i64 da]) | 4 => (rs) = true → v = (.bool (ac)) | 5 => v = (.bool ((rs && ac))) | 6 => v = (.bool ((rs && ac))) | 7 => ((rs && ac)) = true → v = (.pointer (some ⟨g5, 3, none⟩)) | 8 => ((rs && ac)) = true → v = (.int .u32 ak) | 9 => ((rs && ac)) = true → v = (.pointer (some ⟨g9, 1, none⟩)) | 10 => ((rs && ac)) = true → v = (.int .u32 e1) | 11 => ((rs && ac)) = true → v = (.bool ((ak == e1))) | 12 => v = (.bool (((rs && ac) && (ak == e1)))) | _ => True) (by kernel_rfl) (by kernel_rfl) below_tr br ?hJst3 ?hObl3 ?hEnd3
          case hJst3 =>
            intro i v wx wy hi hs0 hs1 hJi
            match i, hi with
            | 0, _ => exact hJi
            | 1, _ => exact hJi
            | 2, _ => exact hJi
            | 3, _ => exact hJi
            | 4, _ => exact hJi
            | 5, _ => exact hJi
            | 6, _ => exact hJi
            | 7, _ => exact hJi
            | 8, _ => exact hJi
            | 9, _ => exact hJi
            | 10, _ => exact hJi
            | 11, _ => exact hJi
            | 12, _ => exact hJi
            | _ + 13, hi => exact absurd hi (by simp)
          case hObl3 =>
            refine ⟨?_, ?_, ?_, ?_, ?_, ?_, ?_, ?_, ?_, ?_, ?_, ?_, ?_,  trivial⟩
            · intro _ _ a wq K hD hst hj ha hun hK
              have h5 := hD.out 5 rfl rfl
              replace hst : Below _ _ wq := hst
              clear hD hj ha hun
              have e5 := eval_of h5
              exact step_now (v := .agg #[.int .i64 sp, .int .i64 dp, .int .u32 sq, .int .u32 ak, .int .i64 fl, .int .i64 wi, .int .i64 ty, .int .i64 co, .int .i64 he, .int .i64 da]) (w' := wq) (wanted_free rfl) (rg_loadall rfl e5 (blk_below Bg5_12.out hst) Try.underlying52 rfl (by kernel_rfl)) (hK _ _ br rfl)
            · intro _ _ a wq K hD hst hj ha hun hK
              obtain ⟨v140, h140, j140⟩ := hD.dep hj ha 0 140 rfl rfl
              replace j140 : v140 = (.agg #[.int .i64 sp, .int .i64 dp, .int .u32 sq, .int .u32 ak, .int .i64 fl, .int .i64 wi, .int .i64 ty, .int .i64 co, .int .i64 he, .int .i64 da]) := j140
              subst j140
              clear hD hj ha hun
              have e140 := eval_of h140
              refine step_call (f := 45) (args := #[.agg #[.int .i64 sp, .int .i64 dp, .int .u32 sq, .int .u32 ak, .int .i64 fl, .int .i64 wi, .int .i64 ty, .int .i64 co, .int .i64 he, .int .i64 da], .int .i64 4]) (wanted_free rfl) ?_ (has_as sp dp sq ak fl wi ty co he da 4 rs F4.out wq) ?_
              · clear hK; first | (go_simp; done) | (go_simp; rfl)
              · rintro e w' ⟨rfl, hbq⟩; exact ⟨_, rfl, hK _ _ hbq rfl⟩
            · intro _ _ a wq K hD hst hj ha hun hK
              obtain ⟨v141, h141, j141⟩ := hD.dep hj ha 1 141 rfl rfl
              replace j141 : v141 = (.bool (rs)) := j141
              subst j141
              clear hD hj ha hun
              have e141 := eval_of h141
              refine step_now (v := .bool (rs)) (w' := wq) (wanted_free rfl) ?_ (hK _ _ br rfl)
              clear hK
              first | (go_simp; done) | (go_simp; rfl)
            · intro _ _ a wq K hD hst hj ha hun hK
              obtain ⟨v142, h142, j142⟩ := hD.dep hj ha 2 142 rfl rfl
              replace j142 : v142 = (.bool (rs)) := j142
              subst j142
              have h5 := hD.out 5 rfl rfl
              replace hst : Below _ _ wq := hst
              clear hD hj ha hun
              rcases hE : (rs) with _ | _
              · rw [hE] at h142
                exact step_off (wanted_off (t := 142) (u := true) rfl rfl rfl h142) (hK _ _ br (fun h => by rw [hE] at h; cases h))
              · rw [hE] at h142
                have e5 := eval_of h5
                exact step_now (v := .agg #[.int .i64 sp, .int .i64 dp, .int .u32 sq, .int .u32 ak, .int .i64 fl, .int .i64 wi, .int .i64 ty, .int .i64 co, .int .i64 he, .int .i64 da]) (w' := wq) (wanted_on (t := 142) (u := true) rfl rfl rfl h142) (rg_loadall rfl e5 (blk_below Bg5_12.out hst) Try.underlying52 rfl (by kernel_rfl)) (hK _ _ br (fun _ => rfl))
            · intro _ _ a wq K hD hst hj ha hun hK
              obtain ⟨v143, h143, j143⟩ := hD.dep hj ha 3 143 rfl rfl
              replace j143 : (rs) = true → v143 = (.agg #[.int .i64 sp, .int .i64 dp, .int .u32 sq, .int .u32 ak, .int .i64 fl, .int .i64 wi, .int .i64 ty, .int .i64 co, .int .i64 he, .int .i64 da]) := j143
              obtain ⟨v142, h142, j142⟩ := hD.dep hj ha 2 142 rfl rfl
              replace j142 : v142 = (.bool (rs)) := j142
              subst j142
              clear hD hj ha hun
              rcases hE : (rs) with _ | _
              · rw [hE] at h142
                exact step_off (wanted_off (t := 142) (u := true) rfl rfl rfl h142) (hK _ _ br (fun h => by rw [hE] at h; cases h))
              · rw [hE] at h142
                obtain rfl := j143 hE
                have e143 := eval_of h143
                refine step_call (f := 45) (args := #[.agg #[.int .i64 sp, .int .i64 dp, .int .u32 sq, .int .u32 ak, .int .i64 fl, .int .i64 wi, .int .i64 ty, .int .i64 co, .int .i64 he, .int .i64 da], .int .i64 16]) (wanted_on (t := 142) (u := true) rfl rfl rfl h142) ?_ (has_as sp dp sq ak fl wi ty co he da 16 ac F16.out wq) ?_
                · clear hK; first | (go_simp; done) | (go_simp; rfl)
                · rintro e w' ⟨rfl, hbq⟩; exact ⟨_, rfl, hK _ _ hbq (fun _ => rfl)⟩
            · intro _ _ a wq K hD hst hj ha hun hK
              obtain ⟨v142, h142, j142⟩ := hD.dep hj ha 2 142 rfl rfl
              replace j142 : v142 = (.bool (rs)) := j142
              subst j142
              obtain ⟨v144, h144, j144⟩ := hD.dep hj ha 4 144 rfl rfl
              replace j144 : (rs) = true → v144 = (.bool (ac)) := j144
              clear hD hj ha hun
              rcases hE : (rs) with _ | _
              · rw [hE] at h142
                have e142 := eval_of h142
                have e144 := eval_of h144
                refine step_now (v := .bool ((rs && ac))) (w' := wq) (wanted_free rfl) ?_ (hK _ _ br rfl)
                rw [hE]
                clear hK
                first | (go_simp; done) | (go_simp; rfl) | (go_simp; (try simp only [IntKind.wrap_u32]); omega)
              · rw [hE] at h142
                obtain rfl := j144 hE
                have e142 := eval_of h142
                have e144 := eval_of h144
                refine step_now (v := .bool ((rs && ac))) (w' := wq) (wanted_free rfl) ?_ (hK _ _ br rfl)
                rw [hE]
                clear hK
                first | (go_simp; done) | (go_simp; rfl) | (go_simp; (try simp only [IntKind.wrap_u32]); omega)
            · intro _ _ a wq K hD hst hj ha hun hK
              obtain ⟨v145, h145, j145⟩ := hD.dep hj ha 5 145 rfl rfl
              replace j145 : v145 = (.bool ((rs && ac))) := j145
              subst j145
              clear hD hj ha hun
              have e145 := eval_of h145
              refine step_now (v := .bool ((rs && ac))) (w' := wq) (wanted_free rfl) ?_ (hK _ _ br rfl)
              clear hK
              first | (go_simp; done) | (go_simp; rfl)
            · intro _ _ a wq K hD hst hj ha hun hK
              obtain ⟨v146, h146, j146⟩ := hD.dep hj ha 6 146 rfl rfl
              replace j146 : v146 = (.bool ((rs && ac))) := j146
              subst j146
              have h5 := hD.out 5 rfl rfl
              clear hD hj ha hun
              rcases hE : ((rs && ac)) with _ | _
              · rw [hE] at h146
                exact step_off (wanted_off (t := 146) (u := true) rfl rfl rfl h146) (hK _ _ br (fun h => by rw [hE] at h; cases h))
              · rw [hE] at h146
                have e5 := eval_of h5
                refine step_now (v := .pointer (some ⟨g5, 3, none⟩)) (w' := wq) (wanted_on (t := 146) (u := true) rfl rfl rfl h146) ?_ (hK _ _ br (fun _ => rfl))
                clear hK
                first | (go_simp; done) | (go_simp; rfl)
            · intro _ _ a wq K hD hst hj ha hun hK
              obtain ⟨v147, h147, j147⟩ := hD.dep hj ha 7 147 rfl rfl
              replace j147 : ((rs && ac)) = true → v147 = (.pointer (some ⟨g5, 3, none⟩)) := j147
              obtain ⟨v146, h146, j146⟩ := hD.dep hj ha 6 146 rfl rfl
              replace j146 : v146 = (.bool ((rs && ac))) := j146
              subst j146
              replace hst : Below _ _ wq := hst
              clear hD hj ha hun
              rcases hE : ((rs && ac)) with _ | _
              · rw [hE] at h146
                exact step_off (wanted_off (t := 146) (u := true) rfl rfl rfl h146) (hK _ _ br (fun h => by rw [hE] at h; cases h))
              · rw [hE] at h146
                obtain rfl := j147 hE
                have e147 := eval_of h147
                exact step_now (v := .int .u32 ak) (w' := wq) (wanted_on (t := 146) (u := true) rfl rfl rfl h146) (rg_load rfl e147 (blk_below Bg5_12.out hst) rfl Try.underlying33 rfl) (hK _ _ br (fun _ => rfl))
            · intro _ _ a wq K hD hst hj ha hun hK
              obtain ⟨v146, h146, j146⟩ := hD.dep hj ha 6 146 rfl rfl
              replace j146 : v146 = (.bool ((rs && ac))) := j146
              subst j146
              have h9 := hD.out 9 rfl rfl
              clear hD hj ha hun
              rcases hE : ((rs && ac)) with _ | _
              · rw [hE] at h146
                exact step_off (wanted_off (t := 146) (u := true) rfl rfl rfl h146) (hK _ _ br (fun h => by rw [hE] at h; cases h))
              · rw [hE] at h146
                have e9 := eval_of h9
                refine step_now (v := .pointer (some ⟨g9, 1, none⟩)) (w' := wq) (wanted_on (t := 146) (u := true) rfl rfl rfl h146) ?_ (hK _ _ br (fun _ => rfl))
                clear hK
                first | (go_simp; done) | (go_simp; rfl)
            · intro _ _ a wq K hD hst hj ha hun hK
              obtain ⟨v149, h149, j149⟩ := hD.dep hj ha 9 149 rfl rfl
              replace j149 : ((rs && ac)) = true → v149 = (.pointer (some ⟨g9, 1, none⟩)) := j149
              obtain ⟨v146, h146, j146⟩ := hD.dep hj ha 6 146 rfl rfl
              replace j146 : v146 = (.bool ((rs && ac))) := j146
              subst j146
              replace hst : Below _ _ wq := hst
              clear hD hj ha hun
              rcases hE : ((rs && ac)) with _ | _
              · rw [hE] at h146
                exact step_off (wanted_off (t := 146) (u := true) rfl rfl rfl h146) (hK _ _ br (fun h => by rw [hE] at h; cases h))
              · rw [hE] at h146
                obtain rfl := j149 hE
                have e149 := eval_of h149
                exact step_now (v := .int .u32 e1) (w' := wq) (wanted_on (t := 146) (u := true) rfl rfl rfl h146) (rg_load rfl e149 (blk_below Bg9_12.out hst) rfl Try.underlying33 rfl) (hK _ _ br (fun _ => rfl))
            · intro _ _ a wq K hD hst hj ha hun hK
              obtain ⟨v148, h148, j148⟩ := hD.dep hj ha 8 148 rfl rfl
              replace j148 : ((rs && ac)) = true → v148 = (.int .u32 ak) := j148
              obtain ⟨v150, h150, j150⟩ := hD.dep hj ha 10 150 rfl rfl
              replace j150 : ((rs && ac)) = true → v150 = (.int .u32 e1) := j150
              obtain ⟨v146, h146, j146⟩ := hD.dep hj ha 6 146 rfl rfl
              replace j146 : v146 = (.bool ((rs && ac))) := j146
              subst j146
              clear hD hj ha hun
              rcases hE : ((rs && ac)) with _ | _
              · rw [hE] at h146
                exact step_off (wanted_off (t := 146) (u := true) rfl rfl rfl h146) (hK _ _ br (fun h => by rw [hE] at h; cases h))
              · rw [hE] at h146
                obtain rfl := j148 hE
                obtain rfl := j150 hE
                have e148 := eval_of h148
                have e150 := eval_of h150
                refine step_now (v := .bool ((ak == e1))) (w' := wq) (wanted_on (t := 146) (u := true) rfl rfl rfl h146) ?_ (hK _ _ br (fun _ => rfl))
                clear hK
                first | (go_simp; done) | (go_simp; rfl)
            · intro _ _ a wq K hD hst hj ha hun hK
              obtain ⟨v146, h146, j146⟩ := hD.dep hj ha 6 146 rfl rfl
              replace j146 : v146 = (.bool ((rs && ac))) := j146
              subst j146
              obtain ⟨v151, h151, j151⟩ := hD.dep hj ha 11 151 rfl rfl
              replace j151 : ((rs && ac)) = true → v151 = (.bool ((ak == e1))) := j151
              clear hD hj ha hun
              rcases hE : ((rs && ac)) with _ | _
              · rw [hE] at h146
                have e146 := eval_of h146
                have e151 := eval_of h151
                refine step_now (v := .bool (((rs && ac) && (ak == e1)))) (w' := wq) (wanted_free rfl) ?_ (hK _ _ br rfl)
                rw [hE]
                clear hK
                first | (go_simp; done) | (go_simp; rfl) | (go_simp; (try simp only [IntKind.wrap_u32]); omega)
              · rw [hE] at h146
                obtain rfl := j151 hE
                have e146 := eval_of h146
                have e151 := eval_of h151
                refine step_now (v := .bool (((rs && ac) && (ak == e1)))) (w' := wq) (wanted_free rfl) ?_ (hK _ _ br rfl)
                rw [hE]
                clear hK
                first | (go_simp; done) | (go_simp; rfl) | (go_simp; (try simp only [IntKind.wrap_u32]); omega)
          intro vals wend hst hj
          have j0 : vals 0 = (.agg #[.int .i64 sp, .int .i64 dp, .int .u32 sq, .int .u32 ak, .int .i64 fl, .int .i64 wi, .int .i64 ty, .int .i64 co, .int .i64 he, .int .i64 da]) := hj 0 (by decide)
          have j1 : vals 1 = (.bool (rs)) := hj 1 (by decide)
          have j2 : vals 2 = (.bool (rs)) := hj 2 (by decide)
          have j5 : vals 5 = (.bool ((rs && ac))) := hj 5 (by decide)
          have j6 : vals 6 = (.bool ((rs && ac))) := hj 6 (by decide)
          have j12 : vals 12 = (.bool (((rs && ac) && (ak == e1)))) := hj 12 (by decide)
          replace hst : Below _ _ wend := hst
          clear hj
          rw [putAll_list]
          simp only [putL, Act.put, List.setIfInBounds_toArray, List.set_cons_zero, List.set_cons_succ, j0, j1, j2, j5, j6, j12]
          clear j0 j1 j2 j5 j6 j12
          generalize vals 3 = u143_
          generalize vals 4 = u144_
          generalize vals 7 = u147_
          generalize vals 8 = u148_
          generalize vals 9 = u149_
          generalize vals 10 = u150_
          generalize vals 11 = u151_
          have HB_13 := Aside0.mk (below_step HB_12.out hst)
          clear HB_12
          have Bg3_13 := Aside0.mk (blk_below Bg3_12.out hst)
          clear Bg3_12
          have Bg5_13 := Aside0.mk (blk_below Bg5_12.out hst)
          clear Bg5_12
          have Bg6_13 := Aside0.mk (blk_below Bg6_12.out hst)
          clear Bg6_12
          have Bg8_13 := Aside0.mk (blk_below Bg8_12.out hst)
          clear Bg8_12
          have Bg9_13 := Aside0.mk (blk_below Bg9_12.out hst)
          clear Bg9_12
          clear hst
          rcases hc3 : (((rs && ac) && (ak == e1))) with _ | _
          · go_wp2_with (first | ((with_reducible refine gate_dst (N := 155) rfl ?_); refine load_event rfl 48 _ rfl g3 rfl _ _ _ Bg3_13.out Try.underlying48 rfl (by kernel_rfl) ?_) | ((with_reducible refine gate_store (t := 48) (p := 6) rfl ?_); refine store_event rfl 48 _ _ rfl g6 _ rfl rfl _ _ Bg6_13.out (by kernel_rfl) rfl rfl ?_; intro wx14 hst hu; have HB_14 := Aside0.mk (below_upd HB_13.out hu (below_size HB_13.out) (fun k hk => by cases hk; exact Lg6.out)); clear HB_13; have Bg3_14 := Aside0.mk (Upd.blk hu Bg3_13.out (One.not Ng3g6.out)); clear Bg3_13; have Bg5_14 := Aside0.mk (Upd.blk hu Bg5_13.out (One.not Ng5g6.out)); clear Bg5_13; have Bg8_14 := Aside0.mk (Upd.blk hu Bg8_13.out (One.not (Ne.symm Ng6g8.out))); clear Bg8_13; have Bg9_14 := Aside0.mk (Upd.blk hu Bg9_13.out (One.not (Ne.symm Ng6g9.out))); clear Bg9_13; have Bg6_14 := Aside0.mk hst; clear hst hu Bg6_13))
            refine bodyPost_ret (results_ct rfl _ _ g6 48 #[.int .i64 st, .bool s1, .int .u32 e1, .int .u32 m1, .bool f1, .bool false, .int .u32 e2, .int .u32 m2, .bool f2] (0, 0) _ rfl Bg6_14.out Try.underlying48 rfl (by kernel_rfl)) rfl (nextPost_mk (⟨st, ⟨s1, e1, m1, f1⟩, ⟨false, e2, m2, f2⟩⟩, false) ?_ HB_14.out)
            simp only [next, synced, F2.out, F1.out, F4.out, F16.out, FE.out]
            simp only [hc0, hc1, hc2, hc3, Bool.false_eq_true, if_false, if_true, reduceIte]
            all_goals first | (simp only [hc0, hc1, hc2, hc3, Bool.false_eq_true, if_true, if_false, Bool.not_true, Bool.not_false, Bool.and_true, Bool.and_false, Bool.true_and, Bool.false_and, Bool.or_false, Bool.false_or, Bool.or_true, Bool.true_or, reduceIte]; done) | (simp [hc0, hc1, hc2, hc3]; done) | (simp [grant, hc0, hc1, hc2, hc3]; done)
          go_wp2_with (first | ((with_reducible refine gate_store (t := 3) (p := 153) rfl ?_); refine store1_event rfl _ _ _ rfl g3 0 rfl (.int .i64 5) _ ?hy _ _ #[.int .i64 5, .bool s1, .int .u32 e1, .int .u32 m1, .bool f1, .bool false, .int .u32 e2, .int .u32 m2, .bool f2] Bg3_13.out rfl (by kernel_rfl) rfl rfl rfl ?_; (case hy => first | (with_reducible rfl) | rfl | (refine congrArg (Value.int _) ?_; omega)); intro wx14 hst hu; have HB_14 := Aside0.mk (below_upd HB_13.out hu (below_size HB_13.out) (fun k hk => by cases hk; exact Lg3.out)); clear HB_13; have Bg5_14 := Aside0.mk (Upd.blk hu Bg5_13.out (One.not (Ne.symm Ng3g5.out))); clear Bg5_13; have Bg6_14 := Aside0.mk (Upd.blk hu Bg6_13.out (One.not (Ne.symm Ng3g6.out))); clear Bg6_13; have Bg8_14 := Aside0.mk (Upd.blk hu Bg8_13.out (One.not (Ne.symm Ng3g8.out))); clear Bg8_13; have Bg9_14 := Aside0.mk (Upd.blk hu Bg9_13.out (One.not (Ne.symm Ng3g9.out))); clear Bg9_13; have Bg3_14 := Aside0.mk hst; clear hst hu Bg3_13) | ((with_reducible refine gate_dst (N := 154) rfl ?_); refine load_event rfl 48 _ rfl g3 rfl _ _ _ Bg3_14.out Try.underlying48 rfl (by kernel_rfl) ?_) | ((with_reducible refine gate_store (t := 48) (p := 6) rfl ?_); refine store_event rfl 48 _ _ rfl g6 _ rfl rfl _ _ Bg6_14.out (by kernel_rfl) rfl rfl ?_; intro wx15 hst hu; have HB_15 := Aside0.mk (below_upd HB_14.out hu (below_size HB_14.out) (fun k hk => by cases hk; exact Lg6.out)); clear HB_14; have Bg3_15 := Aside0.mk (Upd.blk hu Bg3_14.out (One.not Ng3g6.out)); clear Bg3_14; have Bg5_15 := Aside0.mk (Upd.blk hu Bg5_14.out (One.not Ng5g6.out)); clear Bg5_14; have Bg8_15 := Aside0.mk (Upd.blk hu Bg8_14.out (One.not (Ne.symm Ng6g8.out))); clear Bg8_14; have Bg9_15 := Aside0.mk (Upd.blk hu Bg9_14.out (One.not (Ne.symm Ng6g9.out))); clear Bg9_14; have Bg6_15 := Aside0.mk hst; clear hst hu Bg6_14))
          refine bodyPost_ret (results_ct rfl _ _ g6 48 #[.int .i64 5, .bool s1, .int .u32 e1, .int .u32 m1, .bool f1, .bool false, .int .u32 e2, .int .u32 m2, .bool f2] (0, 0) _ rfl Bg6_15.out Try.underlying48 rfl (by kernel_rfl)) rfl (nextPost_mk (⟨5, ⟨s1, e1, m1, f1⟩, ⟨false, e2, m2, f2⟩⟩, true) ?_ HB_15.out)
          simp only [next, synced, F2.out, F1.out, F4.out, F16.out, FE.out]
          simp only [hc0, hc1, hc2, hc3, Bool.false_eq_true, if_false, if_true, reduceIte]
          all_goals first | (simp only [hc0, hc1, hc2, hc3, Bool.false_eq_true, if_true, if_false, Bool.not_true, Bool.not_false, Bool.and_true, Bool.and_false, Bool.true_and, Bool.false_and, Bool.or_false, Bool.false_or, Bool.or_true, Bool.true_or, reduceIte]; done) | (simp [hc0, hc1, hc2, hc3]; done) | (simp [grant, hc0, hc1, hc2, hc3]; done)
        go_upto_region 27 with (first | ((with_reducible refine gate_dst (N := 138) rfl ?_); refine load1_event rfl _ _ rfl g8 0 rfl _ _ _ _ Bg8_12.out rfl Try.underlying4 rfl ?_))
        refine wp_region_rg (by kernel_rfl) (fun x y => Below x.heap.size x y) (fun (i : Nat) (v : Value) (w1 : World) => match i with | 0 => v = (.pointer (some ⟨g8, 2, none⟩)) | 1 => v = (.int .u32 m2) | 2 => v = (.agg #[.int .i64 sp, .int .i64 dp, .int .u32 sq, .int .u32 ak, .int .i64 fl, .int .i64 wi, .int .i64 ty, .int .i64 co, .int .i64 he, .int .i64 da]) | 3 => v = (.int .u32 en) | 4 => v = (.bool (less m2 en)) | 5 => v = (.bool (less m2 en)) | 6 => (less m2 en) = false → v = (.pointer (some ⟨g5, 2, none⟩)) | 7 => (less m2 en) = false → v = (.int .u32 sq) | 8 => (less m2 en) = false → v = (.pointer (some ⟨g8, 1, none⟩)) | 9 => (less m2 en) = false → v = (.int .u32 e2) | 10 => (less m2 en) = false → v = (.int .u32 ((e2 - 65536) % 4294967296)) | 11 => (less m2 en) = false → v = (.bool (less sq ((e2 - 65536) % 4294967296))) | 12 => v = (.bool ((less m2 en || less sq ((e2 - 65536) % 4294967296)))) | _ => True) (by kernel_rfl) (by kernel_rfl) below_tr br.drew ?hJst4 (obl_list ?hObl4) ?hEnd4
        case hJst4 =>
          intro i v wx wy hi hs0 hs1 hJi
          match i, hi with
          | 0, _ => exact hJi
          | 1, _ => exact hJi
          | 2, _ => exact hJi
          | 3, _ => exact hJi
          | 4, _ => exact hJi
          | 5, _ => exact hJi
          | 6, _ => exact hJi
          | 7, _ => exact hJi
          | 8, _ => exact hJi
          | 9, _ => exact hJi
          | 10, _ => exact hJi
          | 11, _ => exact hJi
          | 12, _ => exact hJi
          | _ + 13, hi => exact absurd hi (by simp)
        case hObl4 =>
          refine ⟨?_, ?_, ?_, ?_, ?_, ?_, ?_, ?_, ?_, ?_, ?_, ?_, ?_,  trivial⟩
          · intro _ _ a wq K hD hst hj ha hun hK
            have h8 := hD.out 8 rfl rfl
            clear hD hj ha hun
            have e8 := eval_of h8
            refine step_now (v := .pointer (some ⟨g8, 2, none⟩)) (w' := wq) (wanted_free rfl) ?_ (hK _ _ br rfl)
            clear hK
            first | (go_simp; done) | (go_simp; rfl)
          · intro _ _ a wq K hD hst hj ha hun hK
            obtain ⟨v156, h156, j156⟩ := hD.dep hj ha 0 156 rfl rfl
            replace j156 : v156 = (.pointer (some ⟨g8, 2, none⟩)) := j156
            subst j156
            replace hst : Below _ _ wq := hst
            clear hD hj ha hun
            have e156 := eval_of h156
            exact step_now (v := .int .u32 m2) (w' := wq) (wanted_free rfl) (rg_load rfl e156 (blk_below Bg8_12.out hst) rfl Try.underlying33 rfl) (hK _ _ br rfl)
          · intro _ _ a wq K hD hst hj ha hun hK
            have h5 := hD.out 5 rfl rfl
            replace hst : Below _ _ wq := hst
            clear hD hj ha hun
            have e5 := eval_of h5
            exact step_now (v := .agg #[.int .i64 sp, .int .i64 dp, .int .u32 sq, .int .u32 ak, .int .i64 fl, .int .i64 wi, .int .i64 ty, .int .i64 co, .int .i64 he, .int .i64 da]) (w' := wq) (wanted_free rfl) (rg_loadall rfl e5 (blk_below Bg5_12.out hst) Try.underlying52 rfl (by kernel_rfl)) (hK _ _ br rfl)
          · intro _ _ a wq K hD hst hj ha hun hK
            obtain ⟨v158, h158, j158⟩ := hD.dep hj ha 2 158 rfl rfl
            replace j158 : v158 = (.agg #[.int .i64 sp, .int .i64 dp, .int .u32 sq, .int .u32 ak, .int .i64 fl, .int .i64 wi, .int .i64 ty, .int .i64 co, .int .i64 he, .int .i64 da]) := j158
            subst j158
            clear hD hj ha hun
            have e158 := eval_of h158
            refine step_call (f := 47) (args := #[.agg #[.int .i64 sp, .int .i64 dp, .int .u32 sq, .int .u32 ak, .int .i64 fl, .int .i64 wi, .int .i64 ty, .int .i64 co, .int .i64 he, .int .i64 da]]) (wanted_free rfl) ?_ (end_as sp dp sq ak fl wi ty co he da en wq FE.out) ?_
            · clear hK; first | (go_simp; done) | (go_simp; rfl)
            · rintro e w' ⟨rfl, hbq⟩; exact ⟨_, rfl, hK _ _ hbq rfl⟩
          · intro _ _ a wq K hD hst hj ha hun hK
            obtain ⟨v157, h157, j157⟩ := hD.dep hj ha 1 157 rfl rfl
            replace j157 : v157 = (.int .u32 m2) := j157
            subst j157
            obtain ⟨v159, h159, j159⟩ := hD.dep hj ha 3 159 rfl rfl
            replace j159 : v159 = (.int .u32 en) := j159
            subst j159
            clear hD hj ha hun
            have e157 := eval_of h157
            have e159 := eval_of h159
            refine step_call (f := 46) (args := #[.int .u32 m2, .int .u32 en]) (wanted_free rfl) ?_ (rless_any m2 en wq) ?_
            · clear hK; first | (go_simp; done) | (go_simp; rfl)
            · rintro e w' ⟨rfl, rfl⟩; exact ⟨_, rfl, hK _ _ br rfl⟩
          · intro _ _ a wq K hD hst hj ha hun hK
            obtain ⟨v160, h160, j160⟩ := hD.dep hj ha 4 160 rfl rfl
            replace j160 : v160 = (.bool (less m2 en)) := j160
            subst j160
            clear hD hj ha hun
            have e160 := eval_of h160
            refine step_now (v := .bool (less m2 en)) (w' := wq) (wanted_free rfl) ?_ (hK _ _ br rfl)
            clear hK
            first | (go_simp; done) | (go_simp; rfl)
          · intro _ _ a wq K hD hst hj ha hun hK
            obtain ⟨v161, h161, j161⟩ := hD.dep hj ha 5 161 rfl rfl
            replace j161 : v161 = (.bool (less m2 en)) := j161
            subst j161
            have h5 := hD.out 5 rfl rfl
            clear hD hj ha hun
            rcases hE : (less m2 en) with _ | _
            · rw [hE] at h161
              have e5 := eval_of h5
              refine step_now (v := .pointer (some ⟨g5, 2, none⟩)) (w' := wq) (wanted_on (t := 161) (u := false) rfl rfl rfl h161) ?_ (hK _ _ br (fun _ => rfl))
              clear hK
              first | (go_simp; done) | (go_simp; rfl)
            · rw [hE] at h161
              exact step_off (wanted_off (t := 161) (u := false) rfl rfl rfl h161) (hK _ _ br (fun h => by rw [hE] at h; cases h))
          · intro _ _ a wq K hD hst hj ha hun hK
            obtain ⟨v162, h162, j162⟩ := hD.dep hj ha 6 162 rfl rfl
            replace j162 : (less m2 en) = false → v162 = (.pointer (some ⟨g5, 2, none⟩)) := j162
            obtain ⟨v161, h161, j161⟩ := hD.dep hj ha 5 161 rfl rfl
            replace j161 : v161 = (.bool (less m2 en)) := j161
            subst j161
            replace hst : Below _ _ wq := hst
            clear hD hj ha hun
            rcases hE : (less m2 en) with _ | _
            · rw [hE] at h161
              obtain rfl := j162 hE
              have e162 := eval_of h162
              exact step_now (v := .int .u32 sq) (w' := wq) (wanted_on (t := 161) (u := false) rfl rfl rfl h161) (rg_load rfl e162 (blk_below Bg5_12.out hst) rfl Try.underlying33 rfl) (hK _ _ br (fun _ => rfl))
            · rw [hE] at h161
              exact step_off (wanted_off (t := 161) (u := false) rfl rfl rfl h161) (hK _ _ br (fun h => by rw [hE] at h; cases h))
          · intro _ _ a wq K hD hst hj ha hun hK
            obtain ⟨v161, h161, j161⟩ := hD.dep hj ha 5 161 rfl rfl
            replace j161 : v161 = (.bool (less m2 en)) := j161
            subst j161
            have h8 := hD.out 8 rfl rfl
            clear hD hj ha hun
            rcases hE : (less m2 en) with _ | _
            · rw [hE] at h161
              have e8 := eval_of h8
              refine step_now (v := .pointer (some ⟨g8, 1, none⟩)) (w' := wq) (wanted_on (t := 161) (u := false) rfl rfl rfl h161) ?_ (hK _ _ br (fun _ => rfl))
              clear hK
              first | (go_simp; done) | (go_simp; rfl)
            · rw [hE] at h161
              exact step_off (wanted_off (t := 161) (u := false) rfl rfl rfl h161) (hK _ _ br (fun h => by rw [hE] at h; cases h))
          · intro _ _ a wq K hD hst hj ha hun hK
            obtain ⟨v164, h164, j164⟩ := hD.dep hj ha 8 164 rfl rfl
            replace j164 : (less m2 en) = false → v164 = (.pointer (some ⟨g8, 1, none⟩)) := j164
            obtain ⟨v161, h161, j161⟩ := hD.dep hj ha 5 161 rfl rfl
            replace j161 : v161 = (.bool (less m2 en)) := j161
            subst j161
            replace hst : Below _ _ wq := hst
            clear hD hj ha hun
            rcases hE : (less m2 en) with _ | _
            · rw [hE] at h161
              obtain rfl := j164 hE
              have e164 := eval_of h164
              exact step_now (v := .int .u32 e2) (w' := wq) (wanted_on (t := 161) (u := false) rfl rfl rfl h161) (rg_load rfl e164 (blk_below Bg8_12.out hst) rfl Try.underlying33 rfl) (hK _ _ br (fun _ => rfl))
            · rw [hE] at h161
              exact step_off (wanted_off (t := 161) (u := false) rfl rfl rfl h161) (hK _ _ br (fun h => by rw [hE] at h; cases h))
          · intro _ _ a wq K hD hst hj ha hun hK
            obtain ⟨v165, h165, j165⟩ := hD.dep hj ha 9 165 rfl rfl
            replace j165 : (less m2 en) = false → v165 = (.int .u32 e2) := j165
            obtain ⟨v161, h161, j161⟩ := hD.dep hj ha 5 161 rfl rfl
            replace j161 : v161 = (.bool (less m2 en)) := j161
            subst j161
            clear hD hj ha hun
            rcases hE : (less m2 en) with _ | _
            · rw [hE] at h161
              obtain rfl := j165 hE
              have e165 := eval_of h165
              refine step_now (v := .int .u32 ((e2 - 65536) % 4294967296)) (w' := wq) (wanted_on (t := 161) (u := false) rfl rfl rfl h161) ?_ (hK _ _ br (fun _ => rfl))
              clear hK
              first | (go_simp; done) | (go_simp; rfl) | (go_simp; (try simp only [IntKind.wrap_u32]); omega)
            · rw [hE] at h161
              exact step_off (wanted_off (t := 161) (u := false) rfl rfl rfl h161) (hK _ _ br (fun h => by rw [hE] at h; cases h))
          · intro _ _ a wq K hD hst hj ha hun hK
            obtain ⟨v163, h163, j163⟩ := hD.dep hj ha 7 163 rfl rfl
            replace j163 : (less m2 en) = false → v163 = (.int .u32 sq) := j163
            obtain ⟨v166, h166, j166⟩ := hD.dep hj ha 10 166 rfl rfl
            replace j166 : (less m2 en) = false → v166 = (.int .u32 ((e2 - 65536) % 4294967296)) := j166
            obtain ⟨v161, h161, j161⟩ := hD.dep hj ha 5 161 rfl rfl
            replace j161 : v161 = (.bool (less m2 en)) := j161
            subst j161
            clear hD hj ha hun
            rcases hE : (less m2 en) with _ | _
            · rw [hE] at h161
              obtain rfl := j163 hE
              obtain rfl := j166 hE
              have e163 := eval_of h163
              have e166 := eval_of h166
              refine step_call (f := 46) (args := #[.int .u32 sq, .int .u32 ((e2 - 65536) % 4294967296)]) (wanted_on (t := 161) (u := false) rfl rfl rfl h161) ?_ (rless_any sq ((e2 - 65536) % 4294967296) wq) ?_
              · clear hK; first | (go_simp; done) | (go_simp; rfl)
              · rintro e w' ⟨rfl, rfl⟩; exact ⟨_, rfl, hK _ _ br (fun _ => rfl)⟩
            · rw [hE] at h161
              exact step_off (wanted_off (t := 161) (u := false) rfl rfl rfl h161) (hK _ _ br (fun h => by rw [hE] at h; cases h))
          · intro _ _ a wq K hD hst hj ha hun hK
            obtain ⟨v161, h161, j161⟩ := hD.dep hj ha 5 161 rfl rfl
            replace j161 : v161 = (.bool (less m2 en)) := j161
            subst j161
            obtain ⟨v167, h167, j167⟩ := hD.dep hj ha 11 167 rfl rfl
            replace j167 : (less m2 en) = false → v167 = (.bool (less sq ((e2 - 65536) % 4294967296))) := j167
            clear hD hj ha hun
            rcases hE : (less m2 en) with _ | _
            · rw [hE] at h161
              obtain rfl := j167 hE
              have e161 := eval_of h161
              have e167 := eval_of h167
              refine step_now (v := .bool ((less m2 en || less sq ((e2 - 65536) % 4294967296)))) (w' := wq) (wanted_free rfl) ?_ (hK _ _ br rfl)
              rw [hE]
              clear hK
              first | (go_simp; done) | (go_simp; rfl) | (go_simp; (try simp only [IntKind.wrap_u32]); omega)
            · rw [hE] at h161
              have e161 := eval_of h161
              have e167 := eval_of h167
              refine step_now (v := .bool ((less m2 en || less sq ((e2 - 65536) % 4294967296)))) (w' := wq) (wanted_free rfl) ?_ (hK _ _ br rfl)
              rw [hE]
              clear hK
              first | (go_simp; done) | (go_simp; rfl) | (go_simp; (try simp only [IntKind.wrap_u32]); omega)
        intro vals wend hst hj
        have j0 : vals 0 = (.pointer (some ⟨g8, 2, none⟩)) := hj 0 (by decide)
        have j1 : vals 1 = (.int .u32 m2) := hj 1 (by decide)
        have j2 : vals 2 = (.agg #[.int .i64 sp, .int .i64 dp, .int .u32 sq, .int .u32 ak, .int .i64 fl, .int .i64 wi, .int .i64 ty, .int .i64 co, .int .i64 he, .int .i64 da]) := hj 2 (by decide)
        have j3 : vals 3 = (.int .u32 en) := hj 3 (by decide)
        have j4 : vals 4 = (.bool (less m2 en)) := hj 4 (by decide)
        have j5 : vals 5 = (.bool (less m2 en)) := hj 5 (by decide)
        have j12 : vals 12 = (.bool ((less m2 en || less sq ((e2 - 65536) % 4294967296)))) := hj 12 (by decide)
        replace hst : Below _ _ wend := hst
        clear hj
        rw [putAll_list]
        simp only [putL, Act.put, List.setIfInBounds_toArray, List.set_cons_zero, List.set_cons_succ, j0, j1, j2, j3, j4, j5, j12]
        clear j0 j1 j2 j3 j4 j5 j12
        generalize vals 6 = u162_
        generalize vals 7 = u163_
        generalize vals 8 = u164_
        generalize vals 9 = u165_
        generalize vals 10 = u166_
        generalize vals 11 = u167_
        have HB_13 := Aside0.mk (below_step HB_12.out hst)
        clear HB_12
        have Bg3_13 := Aside0.mk (blk_below Bg3_12.out hst)
        clear Bg3_12
        have Bg5_13 := Aside0.mk (blk_below Bg5_12.out hst)
        clear Bg5_12
        have Bg6_13 := Aside0.mk (blk_below Bg6_12.out hst)
        clear Bg6_12
        have Bg8_13 := Aside0.mk (blk_below Bg8_12.out hst)
        clear Bg8_12
        have Bg9_13 := Aside0.mk (blk_below Bg9_12.out hst)
        clear Bg9_12
        clear hst
        rcases hc3 : ((less m2 en || less sq ((e2 - 65536) % 4294967296))) with _ | _
        · generalize Value.bool (s1 && ac) = z34
          generalize Value.bool (less m2 en) = z160
          simp only [Bool.or_eq_false_iff] at hc3
          obtain ⟨hm1, hm2⟩ := hc3
          go_upto_region 29 with (fail)
          refine wp_region_rg_list 6 (by kernel_rfl) (fun x y => Below x.heap.size x y) (fun (i : Nat) (v : Value) (w1 : World) => match i with | 0 => v = (.pointer (some ⟨g8, 1, none⟩)) | 1 => v = (.int .u32 e2) | 2 => v = (.agg #[.int .i64 sp, .int .i64 dp, .int .u32 sq, .int .u32 ak, .int .i64 fl, .int .i64 wi, .int .i64 ty, .int .i64 co, .int .i64 he, .int .i64 da]) | 3 => v = (.int .u32 en) | 4 => v = (.int .u32 (later e2 en)) | 5 => v = (.pointer (some ⟨g8, 1, none⟩)) | _ => True) (by kernel_rfl) (by kernel_rfl) (by kernel_rfl) (by kernel_rfl) below_tr br.drew ?hJst5 ?hObl5 ?hEnd5
          case hJst5 =>
            intro i v wx wy hi hs0 hs1 hJi
            match i, hi with
            | 0, _ => exact hJi
            | 1, _ => exact hJi
            | 2, _ => exact hJi
            | 3, _ => exact hJi
            | 4, _ => exact hJi
            | 5, _ => exact hJi
            | _ + 6, hi => exact absurd hi (by simp)
          case hObl5 =>
            refine ⟨?_, ?_, ?_, ?_, ?_, ?_,  trivial⟩
            · intro _ _ a wq K hD hst hj ha hun hK
              have h8 := hD.out 8 rfl rfl
              clear hD hj ha hun
              have e8 := eval_of h8
              refine step_now (v := .pointer (some ⟨g8, 1, none⟩)) (w' := wq) (wanted_free rfl) ?_ (hK _ _ br rfl)
              clear hK
              first | (go_simp; done) | (go_simp; rfl)
            · intro _ _ a wq K hD hst hj ha hun hK
              obtain ⟨v170, h170, j170⟩ := hD.dep hj ha 0 170 rfl rfl
              replace j170 : v170 = (.pointer (some ⟨g8, 1, none⟩)) := j170
              subst j170
              replace hst : Below _ _ wq := hst
              clear hD hj ha hun
              have e170 := eval_of h170
              exact step_now (v := .int .u32 e2) (w' := wq) (wanted_free rfl) (rg_load rfl e170 (blk_below Bg8_13.out hst) rfl Try.underlying33 rfl) (hK _ _ br rfl)
            · intro _ _ a wq K hD hst hj ha hun hK
              have h5 := hD.out 5 rfl rfl
              replace hst : Below _ _ wq := hst
              clear hD hj ha hun
              have e5 := eval_of h5
              exact step_now (v := .agg #[.int .i64 sp, .int .i64 dp, .int .u32 sq, .int .u32 ak, .int .i64 fl, .int .i64 wi, .int .i64 ty, .int .i64 co, .int .i64 he, .int .i64 da]) (w' := wq) (wanted_free rfl) (rg_loadall rfl e5 (blk_below Bg5_13.out hst) Try.underlying52 rfl (by kernel_rfl)) (hK _ _ br rfl)
            · intro _ _ a wq K hD hst hj ha hun hK
              obtain ⟨v172, h172, j172⟩ := hD.dep hj ha 2 172 rfl rfl
              replace j172 : v172 = (.agg #[.int .i64 sp, .int .i64 dp, .int .u32 sq, .int .u32 ak, .int .i64 fl, .int .i64 wi, .int .i64 ty, .int .i64 co, .int .i64 he, .int .i64 da]) := j172
              subst j172
              clear hD hj ha hun
              have e172 := eval_of h172
              refine step_call (f := 47) (args := #[.agg #[.int .i64 sp, .int .i64 dp, .int .u32 sq, .int .u32 ak, .int .i64 fl, .int .i64 wi, .int .i64 ty, .int .i64 co, .int .i64 he, .int .i64 da]]) (wanted_free rfl) ?_ (end_as sp dp sq ak fl wi ty co he da en wq FE.out) ?_
              · clear hK; first | (go_simp; done) | (go_simp; rfl)
              · rintro e w' ⟨rfl, hbq⟩; exact ⟨_, rfl, hK _ _ hbq rfl⟩
            · intro _ _ a wq K hD hst hj ha hun hK
              obtain ⟨v171, h171, j171⟩ := hD.dep hj ha 1 171 rfl rfl
              replace j171 : v171 = (.int .u32 e2) := j171
              subst j171
              obtain ⟨v173, h173, j173⟩ := hD.dep hj ha 3 173 rfl rfl
              replace j173 : v173 = (.int .u32 en) := j173
              subst j173
              clear hD hj ha hun
              have e171 := eval_of h171
              have e173 := eval_of h173
              refine step_call (f := 48) (args := #[.int .u32 e2, .int .u32 en]) (wanted_free rfl) ?_ (greater_any e2 en wq) ?_
              · clear hK; first | (go_simp; done) | (go_simp; rfl)
              · rintro e w' ⟨rfl, rfl⟩; exact ⟨_, rfl, hK _ _ br rfl⟩
            · intro _ _ a wq K hD hst hj ha hun hK
              have h8 := hD.out 8 rfl rfl
              clear hD hj ha hun
              have e8 := eval_of h8
              refine step_now (v := .pointer (some ⟨g8, 1, none⟩)) (w' := wq) (wanted_free rfl) ?_ (hK _ _ br rfl)
              clear hK
              first | (go_simp; done) | (go_simp; rfl)
          intro vals wend hst hj
          have j0 : vals 0 = (.pointer (some ⟨g8, 1, none⟩)) := hj 0 (by decide)
          have j1 : vals 1 = (.int .u32 e2) := hj 1 (by decide)
          have j2 : vals 2 = (.agg #[.int .i64 sp, .int .i64 dp, .int .u32 sq, .int .u32 ak, .int .i64 fl, .int .i64 wi, .int .i64 ty, .int .i64 co, .int .i64 he, .int .i64 da]) := hj 2 (by decide)
          have j3 : vals 3 = (.int .u32 en) := hj 3 (by decide)
          have j4 : vals 4 = (.int .u32 (later e2 en)) := hj 4 (by decide)
          have j5 : vals 5 = (.pointer (some ⟨g8, 1, none⟩)) := hj 5 (by decide)
          replace hst : Below _ _ wend := hst
          clear hj
          simp only [List.take_succ_cons, List.take_zero, List.drop_succ_cons, List.drop_zero, putL, Act.put, List.setIfInBounds_toArray, List.set_cons_zero, List.set_cons_succ, j0, j1, j2, j3, j4, j5]
          clear j0 j1 j2 j3 j4 j5
          have HB_14 := Aside0.mk (below_step HB_13.out hst)
          clear HB_13
          have Bg3_14 := Aside0.mk (blk_below Bg3_13.out hst)
          clear Bg3_13
          have Bg5_14 := Aside0.mk (blk_below Bg5_13.out hst)
          clear Bg5_13
          have Bg6_14 := Aside0.mk (blk_below Bg6_13.out hst)
          clear Bg6_13
          have Bg8_14 := Aside0.mk (blk_below Bg8_13.out hst)
          clear Bg8_13
          have Bg9_14 := Aside0.mk (blk_below Bg9_13.out hst)
          clear Bg9_13
          clear hst
          go_upto_region 30 with (first | ((with_reducible refine gate_store (t := 33) (p := 175) rfl ?_); refine store1_event rfl _ _ _ rfl g8 1 rfl (.int .u32 (later e2 en)) _ ?hy _ _ #[.bool true, .int .u32 (later e2 en), .int .u32 m2, .bool f2] Bg8_14.out rfl (by kernel_rfl) rfl rfl rfl ?_; (case hy => first | (with_reducible rfl) | rfl | (refine congrArg (Value.int _) ?_; omega)); intro wx15 hst hu; have HB_15 := Aside0.mk (below_upd HB_14.out hu (below_size HB_14.out) (fun k hk => by cases hk; exact Lg8.out)); clear HB_14; have Bg3_15 := Aside0.mk (Upd.blk hu Bg3_14.out (One.not Ng3g8.out)); clear Bg3_14; have Bg5_15 := Aside0.mk (Upd.blk hu Bg5_14.out (One.not Ng5g8.out)); clear Bg5_14; have Bg6_15 := Aside0.mk (Upd.blk hu Bg6_14.out (One.not Ng6g8.out)); clear Bg6_14; have Bg9_15 := Aside0.mk (Upd.blk hu Bg9_14.out (One.not (Ne.symm Ng8g9.out))); clear Bg9_14; have Bg8_15 := Aside0.mk hst; clear hst hu Bg8_14))
          try simp only [Act.put]
          go_cut [] from 176 to 182 (fun wx => Aside0 (wx.heap[g3]? = some (.cells #[.int .i64 st, .bool s1, .int .u32 e1, .int .u32 m1, .bool f1, .bool true, .int .u32 e2, .int .u32 m2, .bool f2] 48 (0, 0))) ∧ Aside0 (wx.heap[g5]? = some (.cells #[.int .i64 sp, .int .i64 dp, .int .u32 sq, .int .u32 ak, .int .i64 fl, .int .i64 wi, .int .i64 ty, .int .i64 co, .int .i64 he, .int .i64 da] 52 (0, 0))) ∧ Aside0 (wx.heap[g6]? = some (.cells #[.int .i64 0, .bool false, .int .u32 0, .int .u32 0, .bool false, .bool false, .int .u32 0, .int .u32 0, .bool false] 48 (0, 0))) ∧ Aside0 (wx.heap[g8]? = some (.cells #[.bool true, .int .u32 (later e2 en), .int .u32 m2, .bool (f2 || fi)] 46 (0, 0))) ∧ Aside0 (wx.heap[g9]? = some (.cells #[.bool s1, .int .u32 e1, .int .u32 m1, .bool f1] 46 (0, 0))) ∧ Aside0 (Below w.heap.size w wx))
          case first =>
            cases f2
            · go_wp2_with (first | ((with_reducible refine gate_dst (N := 177) rfl ?_); refine load1_event rfl _ _ rfl g8 3 rfl _ _ _ _ Bg8_15.out rfl Try.underlying4 rfl ?_) | ((with_reducible refine gate_dst (N := 179) rfl ?_); (refine gate_guard (by rfl) ?_; dsimp only); refine load_event rfl 52 _ rfl g5 rfl _ _ _ Bg5_15.out Try.underlying52 rfl (by kernel_rfl) ?_) | (go_at_call 45; refine (has_as sp dp sq ak fl wi ty co he da 1 fi F1.out _).mono ?_; rintro e wx16 ⟨rfl, hb⟩; have HB_16 := Aside0.mk (below_step HB_15.out hb); clear HB_15; have Bg3_16 := Aside0.mk (blk_below Bg3_15.out hb); clear Bg3_15; have Bg5_16 := Aside0.mk (blk_below Bg5_15.out hb); clear Bg5_15; have Bg6_16 := Aside0.mk (blk_below Bg6_15.out hb); clear Bg6_15; have Bg8_16 := Aside0.mk (blk_below Bg8_15.out hb); clear Bg8_15; have Bg9_16 := Aside0.mk (blk_below Bg9_15.out hb); clear Bg9_15; clear hb) | ((with_reducible refine gate_store (t := 4) (p := 182) rfl ?_); refine store1_event rfl _ _ _ rfl g8 3 rfl (.bool fi) _ ?hy _ _ #[.bool true, .int .u32 (later e2 en), .int .u32 m2, .bool fi] Bg8_16.out rfl (by kernel_rfl) rfl rfl rfl ?_; (case hy => first | (with_reducible rfl) | rfl | (refine congrArg (Value.int _) ?_; omega)); intro wx17 hst hu; have HB_17 := Aside0.mk (below_upd HB_16.out hu (below_size HB_16.out) (fun k hk => by cases hk; exact Lg8.out)); clear HB_16; have Bg3_17 := Aside0.mk (Upd.blk hu Bg3_16.out (One.not Ng3g8.out)); clear Bg3_16; have Bg5_17 := Aside0.mk (Upd.blk hu Bg5_16.out (One.not Ng5g8.out)); clear Bg5_16; have Bg6_17 := Aside0.mk (Upd.blk hu Bg6_16.out (One.not Ng6g8.out)); clear Bg6_16; have Bg9_17 := Aside0.mk (Upd.blk hu Bg9_16.out (One.not (Ne.symm Ng8g9.out))); clear Bg9_16; have Bg8_17 := Aside0.mk hst; clear hst hu Bg8_16))
              go_meet
              exact ⟨Bg3_17, Bg5_17, Bg6_17, Bg8_17, Bg9_17, HB_17⟩
            go_wp2_with (first | ((with_reducible refine gate_dst (N := 177) rfl ?_); refine load1_event rfl _ _ rfl g8 3 rfl _ _ _ _ Bg8_15.out rfl Try.underlying4 rfl ?_) | ((with_reducible refine gate_store (t := 4) (p := 182) rfl ?_); refine store1_event rfl _ _ _ rfl g8 3 rfl (.bool true) _ ?hy _ _ #[.bool true, .int .u32 (later e2 en), .int .u32 m2, .bool true] Bg8_15.out rfl (by kernel_rfl) rfl rfl rfl ?_; (case hy => first | (with_reducible rfl) | rfl | (refine congrArg (Value.int _) ?_; omega)); intro wx16 hst hu; have HB_16 := Aside0.mk (below_upd HB_15.out hu (below_size HB_15.out) (fun k hk => by cases hk; exact Lg8.out)); clear HB_15; have Bg3_16 := Aside0.mk (Upd.blk hu Bg3_15.out (One.not Ng3g8.out)); clear Bg3_15; have Bg5_16 := Aside0.mk (Upd.blk hu Bg5_15.out (One.not Ng5g8.out)); clear Bg5_15; have Bg6_16 := Aside0.mk (Upd.blk hu Bg6_15.out (One.not Ng6g8.out)); clear Bg6_15; have Bg9_16 := Aside0.mk (Upd.blk hu Bg9_15.out (One.not (Ne.symm Ng8g9.out))); clear Bg9_15; have Bg8_16 := Aside0.mk hst; clear hst hu Bg8_15))
            go_meet
            exact ⟨Bg3_16, Bg5_16, Bg6_16, Bg8_16, Bg9_16, HB_16⟩
          clear Bg3_15 Bg5_15 Bg6_15 Bg8_15 Bg9_15 HB_15
          obtain ⟨Bg3_16, Bg5_16, Bg6_16, Bg8_16, Bg9_16, HB_16⟩ := hcut
          go_upto_region 31 with (fail)
          refine wp_region_rg_seq (fun x y => Below x.heap.size x y) (fun (i : Nat) (v : Value) (w1 : World) => match i with | 0 => v = (.pointer (some ⟨g9, 0, none⟩)) | 1 => v = (.bool s1) | 2 => v = (.bool s1) | 3 => (s1) = true → v = (.agg #[.int .i64 sp, .int .i64 dp, .int .u32 sq, .int .u32 ak, .int .i64 fl, .int .i64 wi, .int .i64 ty, .int .i64 co, .int .i64 he, .int .i64 da]) | 4 => (s1) = true → v = (.bool (ac)) | 5 => v = (.bool ((s1 && ac))) | _ => True) (by kernel_rfl) (by kernel_rfl) below_tr br ?hJst6 ?hObl6 ?hEnd6
          case hJst6 =>
            intro i v wx wy hi hs0 hs1 hJi
            match i, hi with
            | 0, _ => exact hJi
            | 1, _ => exact hJi
            | 2, _ => exact hJi
            | 3, _ => exact hJi
            | 4, _ => exact hJi
            | 5, _ => exact hJi
            | _ + 6, hi => exact absurd hi (by simp)
          case hObl6 =>
            refine ⟨?_, ?_, ?_, ?_, ?_, ?_,  trivial⟩
            · intro _ _ a wq K hD hst hj ha hun hK
              have h9 := hD.out 9 rfl rfl
              clear hD hj ha hun
              have e9 := eval_of h9
              refine step_now (v := .pointer (some ⟨g9, 0, none⟩)) (w' := wq) (wanted_free rfl) ?_ (hK _ _ br rfl)
              clear hK
              first | (go_simp; done) | (go_simp; rfl)
            · intro _ _ a wq K hD hst hj ha hun hK
              obtain ⟨v183, h183, j183⟩ := hD.dep hj ha 0 183 rfl rfl
              replace j183 : v183 = (.pointer (some ⟨g9, 0, none⟩)) := j183
              subst j183
              replace hst : Below _ _ wq := hst
              clear hD hj ha hun
              have e183 := eval_of h183
              exact step_now (v := .bool s1) (w' := wq) (wanted_free rfl) (rg_load rfl e183 (blk_below Bg9_16.out hst) rfl Try.underlying4 rfl) (hK _ _ br rfl)
            · intro _ _ a wq K hD hst hj ha hun hK
              obtain ⟨v184, h184, j184⟩ := hD.dep hj ha 1 184 rfl rfl
              replace j184 : v184 = (.bool s1) := j184
              subst j184
              clear hD hj ha hun
              have e184 := eval_of h184
              refine step_now (v := .bool s1) (w' := wq) (wanted_free rfl) ?_ (hK _ _ br rfl)
              clear hK
              first | (go_simp; done) | (go_simp; rfl)
            · intro _ _ a wq K hD hst hj ha hun hK
              obtain ⟨v185, h185, j185⟩ := hD.dep hj ha 2 185 rfl rfl
              replace j185 : v185 = (.bool s1) := j185
              subst j185
              have h5 := hD.out 5 rfl rfl
              replace hst : Below _ _ wq := hst
              clear hD hj ha hun
              rcases hE : (s1) with _ | _
              · rw [hE] at h185
                exact step_off (wanted_off (t := 185) (u := true) rfl rfl rfl h185) (hK _ _ br (fun h => by rw [hE] at h; cases h))
              · rw [hE] at h185
                have e5 := eval_of h5
                exact step_now (v := .agg #[.int .i64 sp, .int .i64 dp, .int .u32 sq, .int .u32 ak, .int .i64 fl, .int .i64 wi, .int .i64 ty, .int .i64 co, .int .i64 he, .int .i64 da]) (w' := wq) (wanted_on (t := 185) (u := true) rfl rfl rfl h185) (rg_loadall rfl e5 (blk_below Bg5_16.out hst) Try.underlying52 rfl (by kernel_rfl)) (hK _ _ br (fun _ => rfl))
            · intro _ _ a wq K hD hst hj ha hun hK
              obtain ⟨v186, h186, j186⟩ := hD.dep hj ha 3 186 rfl rfl
              replace j186 : (s1) = true → v186 = (.agg #[.int .i64 sp, .int .i64 dp, .int .u32 sq, .int .u32 ak, .int .i64 fl, .int .i64 wi, .int .i64 ty, .int .i64 co, .int .i64 he, .int .i64 da]) := j186
              obtain ⟨v185, h185, j185⟩ := hD.dep hj ha 2 185 rfl rfl
              replace j185 : v185 = (.bool s1) := j185
              subst j185
              clear hD hj ha hun
              rcases hE : (s1) with _ | _
              · rw [hE] at h185
                exact step_off (wanted_off (t := 185) (u := true) rfl rfl rfl h185) (hK _ _ br (fun h => by rw [hE] at h; cases h))
              · rw [hE] at h185
                obtain rfl := j186 hE
                have e186 := eval_of h186
                refine step_call (f := 45) (args := #[.agg #[.int .i64 sp, .int .i64 dp, .int .u32 sq, .int .u32 ak, .int .i64 fl, .int .i64 wi, .int .i64 ty, .int .i64 co, .int .i64 he, .int .i64 da], .int .i64 16]) (wanted_on (t := 185) (u := true) rfl rfl rfl h185) ?_ (has_as sp dp sq ak fl wi ty co he da 16 ac F16.out wq) ?_
                · clear hK; first | (go_simp; done) | (go_simp; rfl)
                · rintro e w' ⟨rfl, hbq⟩; exact ⟨_, rfl, hK _ _ hbq (fun _ => rfl)⟩
            · intro _ _ a wq K hD hst hj ha hun hK
              obtain ⟨v185, h185, j185⟩ := hD.dep hj ha 2 185 rfl rfl
              replace j185 : v185 = (.bool s1) := j185
              subst j185
              obtain ⟨v187, h187, j187⟩ := hD.dep hj ha 4 187 rfl rfl
              replace j187 : (s1) = true → v187 = (.bool (ac)) := j187
              clear hD hj ha hun
              rcases hE : (s1) with _ | _
              · rw [hE] at h185
                have e185 := eval_of h185
                have e187 := eval_of h187
                refine step_now (v := .bool ((s1 && ac))) (w' := wq) (wanted_free rfl) ?_ (hK _ _ br rfl)
                rw [hE]
                clear hK
                first | (go_simp; done) | (go_simp; rfl) | (go_simp; (try simp only [IntKind.wrap_u32]); omega)
              · rw [hE] at h185
                obtain rfl := j187 hE
                have e185 := eval_of h185
                have e187 := eval_of h187
                refine step_now (v := .bool ((s1 && ac))) (w' := wq) (wanted_free rfl) ?_ (hK _ _ br rfl)
                rw [hE]
                clear hK
                first | (go_simp; done) | (go_simp; rfl) | (go_simp; (try simp only [IntKind.wrap_u32]); omega)
          intro vals wend hst hj
          have j0 : vals 0 = (.pointer (some ⟨g9, 0, none⟩)) := hj 0 (by decide)
          have j1 : vals 1 = (.bool s1) := hj 1 (by decide)
          have j2 : vals 2 = (.bool s1) := hj 2 (by decide)
          have j5 : vals 5 = (.bool ((s1 && ac))) := hj 5 (by decide)
          replace hst : Below _ _ wend := hst
          clear hj
          rw [putAll_list]
          simp only [putL, Act.put, List.setIfInBounds_toArray, List.set_cons_zero, List.set_cons_succ, j0, j1, j2, j5]
          clear j0 j1 j2 j5
          generalize vals 3 = u186_
          generalize vals 4 = u187_
          have HB_17 := Aside0.mk (below_step HB_16.out hst)
          clear HB_16
          have Bg3_17 := Aside0.mk (blk_below Bg3_16.out hst)
          clear Bg3_16
          have Bg5_17 := Aside0.mk (blk_below Bg5_16.out hst)
          clear Bg5_16
          have Bg6_17 := Aside0.mk (blk_below Bg6_16.out hst)
          clear Bg6_16
          have Bg8_17 := Aside0.mk (blk_below Bg8_16.out hst)
          clear Bg8_16
          have Bg9_17 := Aside0.mk (blk_below Bg9_16.out hst)
          clear Bg9_16
          clear hst
          go_upto_if 188 with (fail)
          try simp only [Act.put]
          go_cut [] from 183 to 198 (fun wx => Aside0 (wx.heap[g3]? = some (.cells #[.int .i64 st, .bool s1, .int .u32 e1, .int .u32 m1, .bool f1, .bool true, .int .u32 e2, .int .u32 m2, .bool f2] 48 (0, 0))) ∧ Aside0 (wx.heap[g5]? = some (.cells #[.int .i64 sp, .int .i64 dp, .int .u32 sq, .int .u32 ak, .int .i64 fl, .int .i64 wi, .int .i64 ty, .int .i64 co, .int .i64 he, .int .i64 da] 52 (0, 0))) ∧ Aside0 (wx.heap[g6]? = some (.cells #[.int .i64 0, .bool false, .int .u32 0, .int .u32 0, .bool false, .bool false, .int .u32 0, .int .u32 0, .bool false] 48 (0, 0))) ∧ Aside0 (wx.heap[g8]? = some (.cells #[.bool true, .int .u32 (later e2 en), .int .u32 m2, .bool (f2 || fi)] 46 (0, 0))) ∧ Aside0 (wx.heap[g9]? = some (.cells #[.bool s1, .int .u32 e1, .int .u32 (grant s1 ac m1 ak wi), .bool f1] 46 (0, 0))) ∧ Aside0 (Below w.heap.size w wx))
          case first =>
            rcases hc7 : ((s1 && ac)) with _ | _
            · go_wp2
              go_meet
              have hg : (grant s1 ac m1 ak wi) = m1 := by unfold grant; rw [hc7]; rfl
              rw [hg]
              exact ⟨Bg3_17, Bg5_17, Bg6_17, Bg8_17, Bg9_17, HB_17⟩
            go_wp2_with (first | ((with_reducible refine gate_dst (N := 190) rfl ?_); refine load1_event rfl _ _ rfl g9 2 rfl _ _ _ _ Bg9_17.out rfl Try.underlying33 rfl ?_) | ((with_reducible refine gate_dst (N := 192) rfl ?_); refine load1_event rfl _ _ rfl g5 3 rfl _ _ _ _ Bg5_17.out rfl Try.underlying33 rfl ?_) | ((with_reducible refine gate_dst (N := 194) rfl ?_); refine load1_event rfl _ _ rfl g5 5 rfl _ _ _ _ Bg5_17.out rfl Try.underlying3 rfl ?_) | (go_at_call 48; refine (greater_any m1 ((ak + wi) % 4294967296) _).mono ?_; rintro e w_ ⟨rfl, rfl⟩) | ((with_reducible refine gate_store (t := 33) (p := 198) rfl ?_); refine store1_event rfl _ _ _ rfl g9 2 rfl (.int .u32 (later m1 ((ak + wi) % 4294967296))) _ ?hy _ _ #[.bool s1, .int .u32 e1, .int .u32 (later m1 ((ak + wi) % 4294967296)), .bool f1] Bg9_17.out rfl (by kernel_rfl) rfl rfl rfl ?_; (case hy => first | (with_reducible rfl) | rfl | (refine congrArg (Value.int _) ?_; omega)); intro wx18 hst hu; have HB_18 := Aside0.mk (below_upd HB_17.out hu (below_size HB_17.out) (fun k hk => by cases hk; exact Lg9.out)); clear HB_17; have Bg3_18 := Aside0.mk (Upd.blk hu Bg3_17.out (One.not Ng3g9.out)); clear Bg3_17; have Bg5_18 := Aside0.mk (Upd.blk hu Bg5_17.out (One.not Ng5g9.out)); clear Bg5_17; have Bg6_18 := Aside0.mk (Upd.blk hu Bg6_17.out (One.not Ng6g9.out)); clear Bg6_17; have Bg8_18 := Aside0.mk (Upd.blk hu Bg8_17.out (One.not Ng8g9.out)); clear Bg8_17; have Bg9_18 := Aside0.mk hst; clear hst hu Bg9_17))
            go_meet
            have hg : (grant s1 ac m1 ak wi) = later m1 ((ak + wi) % 4294967296) := by unfold grant; rw [hc7]; rfl
            rw [hg]
            exact ⟨Bg3_18, Bg5_18, Bg6_18, Bg8_18, Bg9_18, HB_18⟩
          clear Bg3_17 Bg5_17 Bg6_17 Bg8_17 Bg9_17 HB_17
          obtain ⟨Bg3_18, Bg5_18, Bg6_18, Bg8_18, Bg9_18, HB_18⟩ := hcut
          go_upto_region 33 with (fail)
          refine wp_region_rg_seq (fun x y => Below x.heap.size x y) (fun (i : Nat) (v : Value) (w1 : World) => match i with | 0 => v = (.int .i64 st) | 1 => v = (.bool ((st == 2))) | 2 => v = (.bool ((st == 2))) | 3 => ((st == 2)) = true → v = (.agg #[.int .i64 sp, .int .i64 dp, .int .u32 sq, .int .u32 ak, .int .i64 fl, .int .i64 wi, .int .i64 ty, .int .i64 co, .int .i64 he, .int .i64 da]) | 4 => ((st == 2)) = true → v = (.bool (ac)) | 5 => v = (.bool (((st == 2) && ac))) | 6 => v = (.bool (((st == 2) && ac))) | 7 => (((st == 2) && ac)) = true → v = (.bool true) | 8 => (((st == 2) && ac)) = true → v = (.bool false) | 9 => v = (.bool ((((st == 2) && ac) && false))) | _ => True) (by kernel_rfl) (by kernel_rfl) below_tr br ?hJst7 ?hObl7 ?hEnd7
          case hJst7 =>
            intro i v wx wy hi hs0 hs1 hJi
            match i, hi with
            | 0, _ => exact hJi
            | 1, _ => exact hJi
            | 2, _ => exact hJi
            | 3, _ => exact hJi
            | 4, _ => exact hJi
            | 5, _ => exact hJi
            | 6, _ => exact hJi
            | 7, _ => exact hJi
            | 8, _ => exact hJi
            | 9, _ => exact hJi
            | _ + 10, hi => exact absurd hi (by simp)
          case hObl7 =>
            refine ⟨?_, ?_, ?_, ?_, ?_, ?_, ?_, ?_, ?_, ?_,  trivial⟩
            · intro _ _ a wq K hD hst hj ha hun hK
              have h10 := hD.out 10 rfl rfl
              clear hD hj ha hun
              have e10 := eval_of h10
              refine step_now (v := .int .i64 st) (w' := wq) (wanted_free rfl) ?_ (hK _ _ br rfl)
              clear hK
              first | (go_simp; done) | (go_simp; rfl) | (go_simp; (try simp only [IntKind.wrap_u32]); omega)
            · intro _ _ a wq K hD hst hj ha hun hK
              obtain ⟨v199, h199, j199⟩ := hD.dep hj ha 0 199 rfl rfl
              replace j199 : v199 = (.int .i64 st) := j199
              subst j199
              clear hD hj ha hun
              have e199 := eval_of h199
              refine step_now (v := .bool ((st == 2))) (w' := wq) (wanted_free rfl) ?_ (hK _ _ br rfl)
              clear hK
              first | (go_simp; done) | (go_simp; rfl)
            · intro _ _ a wq K hD hst hj ha hun hK
              obtain ⟨v200, h200, j200⟩ := hD.dep hj ha 1 200 rfl rfl
              replace j200 : v200 = (.bool ((st == 2))) := j200
              subst j200
              clear hD hj ha hun
              have e200 := eval_of h200
              refine step_now (v := .bool ((st == 2))) (w' := wq) (wanted_free rfl) ?_ (hK _ _ br rfl)
              clear hK
              first | (go_simp; done) | (go_simp; rfl)
            · intro _ _ a wq K hD hst hj ha hun hK
              obtain ⟨v201, h201, j201⟩ := hD.dep hj ha 2 201 rfl rfl
              replace j201 : v201 = (.bool ((st == 2))) := j201
              subst j201
              have h5 := hD.out 5 rfl rfl
              replace hst : Below _ _ wq := hst
              clear hD hj ha hun
              rcases hE : ((st == 2)) with _ | _
              · rw [hE] at h201
                exact step_off (wanted_off (t := 201) (u := true) rfl rfl rfl h201) (hK _ _ br (fun h => by rw [hE] at h; cases h))
              · rw [hE] at h201
                have e5 := eval_of h5
                exact step_now (v := .agg #[.int .i64 sp, .int .i64 dp, .int .u32 sq, .int .u32 ak, .int .i64 fl, .int .i64 wi, .int .i64 ty, .int .i64 co, .int .i64 he, .int .i64 da]) (w' := wq) (wanted_on (t := 201) (u := true) rfl rfl rfl h201) (rg_loadall rfl e5 (blk_below Bg5_18.out hst) Try.underlying52 rfl (by kernel_rfl)) (hK _ _ br (fun _ => rfl))
            · intro _ _ a wq K hD hst hj ha hun hK
              obtain ⟨v202, h202, j202⟩ := hD.dep hj ha 3 202 rfl rfl
              replace j202 : ((st == 2)) = true → v202 = (.agg #[.int .i64 sp, .int .i64 dp, .int .u32 sq, .int .u32 ak, .int .i64 fl, .int .i64 wi, .int .i64 ty, .int .i64 co, .int .i64 he, .int .i64 da]) := j202
              obtain ⟨v201, h201, j201⟩ := hD.dep hj ha 2 201 rfl rfl
              replace j201 : v201 = (.bool ((st == 2))) := j201
              subst j201
              clear hD hj ha hun
              rcases hE : ((st == 2)) with _ | _
              · rw [hE] at h201
                exact step_off (wanted_off (t := 201) (u := true) rfl rfl rfl h201) (hK _ _ br (fun h => by rw [hE] at h; cases h))
              · rw [hE] at h201
                obtain rfl := j202 hE
                have e202 := eval_of h202
                refine step_call (f := 45) (args := #[.agg #[.int .i64 sp, .int .i64 dp, .int .u32 sq, .int .u32 ak, .int .i64 fl, .int .i64 wi, .int .i64 ty, .int .i64 co, .int .i64 he, .int .i64 da], .int .i64 16]) (wanted_on (t := 201) (u := true) rfl rfl rfl h201) ?_ (has_as sp dp sq ak fl wi ty co he da 16 ac F16.out wq) ?_
                · clear hK; first | (go_simp; done) | (go_simp; rfl)
                · rintro e w' ⟨rfl, hbq⟩; exact ⟨_, rfl, hK _ _ hbq (fun _ => rfl)⟩
            · intro _ _ a wq K hD hst hj ha hun hK
              obtain ⟨v201, h201, j201⟩ := hD.dep hj ha 2 201 rfl rfl
              replace j201 : v201 = (.bool ((st == 2))) := j201
              subst j201
              obtain ⟨v203, h203, j203⟩ := hD.dep hj ha 4 203 rfl rfl
              replace j203 : ((st == 2)) = true → v203 = (.bool (ac)) := j203
              clear hD hj ha hun
              rcases hE : ((st == 2)) with _ | _
              · rw [hE] at h201
                have e201 := eval_of h201
                have e203 := eval_of h203
                refine step_now (v := .bool (((st == 2) && ac))) (w' := wq) (wanted_free rfl) ?_ (hK _ _ br rfl)
                rw [hE]
                clear hK
                first | (go_simp; done) | (go_simp; rfl) | (go_simp; (try simp only [IntKind.wrap_u32]); omega)
              · rw [hE] at h201
                obtain rfl := j203 hE
                have e201 := eval_of h201
                have e203 := eval_of h203
                refine step_now (v := .bool (((st == 2) && ac))) (w' := wq) (wanted_free rfl) ?_ (hK _ _ br rfl)
                rw [hE]
                clear hK
                first | (go_simp; done) | (go_simp; rfl) | (go_simp; (try simp only [IntKind.wrap_u32]); omega)
            · intro _ _ a wq K hD hst hj ha hun hK
              obtain ⟨v204, h204, j204⟩ := hD.dep hj ha 5 204 rfl rfl
              replace j204 : v204 = (.bool (((st == 2) && ac))) := j204
              subst j204
              clear hD hj ha hun
              have e204 := eval_of h204
              refine step_now (v := .bool (((st == 2) && ac))) (w' := wq) (wanted_free rfl) ?_ (hK _ _ br rfl)
              clear hK
              first | (go_simp; done) | (go_simp; rfl)
            · intro _ _ a wq K hD hst hj ha hun hK
              obtain ⟨v205, h205, j205⟩ := hD.dep hj ha 6 205 rfl rfl
              replace j205 : v205 = (.bool (((st == 2) && ac))) := j205
              subst j205
              have h1 := hD.out 1 rfl rfl
              clear hD hj ha hun
              rcases hE : (((st == 2) && ac)) with _ | _
              · rw [hE] at h205
                exact step_off (wanted_off (t := 205) (u := true) rfl rfl rfl h205) (hK _ _ br (fun h => by rw [hE] at h; cases h))
              · rw [hE] at h205
                have e1 := eval_of h1
                refine step_now (v := .bool true) (w' := wq) (wanted_on (t := 205) (u := true) rfl rfl rfl h205) ?_ (hK _ _ br (fun _ => rfl))
                clear hK
                first | (go_simp; done) | (go_simp; rfl)
            · intro _ _ a wq K hD hst hj ha hun hK
              obtain ⟨v206, h206, j206⟩ := hD.dep hj ha 7 206 rfl rfl
              replace j206 : (((st == 2) && ac)) = true → v206 = (.bool true) := j206
              obtain ⟨v205, h205, j205⟩ := hD.dep hj ha 6 205 rfl rfl
              replace j205 : v205 = (.bool (((st == 2) && ac))) := j205
              subst j205
              clear hD hj ha hun
              rcases hE : (((st == 2) && ac)) with _ | _
              · rw [hE] at h205
                exact step_off (wanted_off (t := 205) (u := true) rfl rfl rfl h205) (hK _ _ br (fun h => by rw [hE] at h; cases h))
              · rw [hE] at h205
                obtain rfl := j206 hE
                have e206 := eval_of h206
                refine step_now (v := .bool false) (w' := wq) (wanted_on (t := 205) (u := true) rfl rfl rfl h205) ?_ (hK _ _ br (fun _ => rfl))
                clear hK
                first | (go_simp; done) | (go_simp; rfl)
            · intro _ _ a wq K hD hst hj ha hun hK
              obtain ⟨v205, h205, j205⟩ := hD.dep hj ha 6 205 rfl rfl
              replace j205 : v205 = (.bool (((st == 2) && ac))) := j205
              subst j205
              obtain ⟨v207, h207, j207⟩ := hD.dep hj ha 8 207 rfl rfl
              replace j207 : (((st == 2) && ac)) = true → v207 = (.bool false) := j207
              clear hD hj ha hun
              rcases hE : (((st == 2) && ac)) with _ | _
              · rw [hE] at h205
                have e205 := eval_of h205
                have e207 := eval_of h207
                refine step_now (v := .bool ((((st == 2) && ac) && false))) (w' := wq) (wanted_free rfl) ?_ (hK _ _ br rfl)
                rw [hE]
                clear hK
                first | (go_simp; done) | (go_simp; rfl) | (go_simp; (try simp only [IntKind.wrap_u32]); omega)
              · rw [hE] at h205
                obtain rfl := j207 hE
                have e205 := eval_of h205
                have e207 := eval_of h207
                refine step_now (v := .bool ((((st == 2) && ac) && false))) (w' := wq) (wanted_free rfl) ?_ (hK _ _ br rfl)
                rw [hE]
                clear hK
                first | (go_simp; done) | (go_simp; rfl) | (go_simp; (try simp only [IntKind.wrap_u32]); omega)
          intro vals wend hst hj
          have j0 : vals 0 = (.int .i64 st) := hj 0 (by decide)
          have j1 : vals 1 = (.bool ((st == 2))) := hj 1 (by decide)
          have j2 : vals 2 = (.bool ((st == 2))) := hj 2 (by decide)
          have j5 : vals 5 = (.bool (((st == 2) && ac))) := hj 5 (by decide)
          have j6 : vals 6 = (.bool (((st == 2) && ac))) := hj 6 (by decide)
          have j9 : vals 9 = (.bool ((((st == 2) && ac) && false))) := hj 9 (by decide)
          replace hst : Below _ _ wend := hst
          clear hj
          rw [putAll_list]
          simp only [putL, Act.put, List.setIfInBounds_toArray, List.set_cons_zero, List.set_cons_succ, j0, j1, j2, j5, j6, j9]
          clear j0 j1 j2 j5 j6 j9
          generalize vals 3 = u202_
          generalize vals 4 = u203_
          generalize vals 7 = u206_
          generalize vals 8 = u207_
          have HB_19 := Aside0.mk (below_step HB_18.out hst)
          clear HB_18
          have Bg3_19 := Aside0.mk (blk_below Bg3_18.out hst)
          clear Bg3_18
          have Bg5_19 := Aside0.mk (blk_below Bg5_18.out hst)
          clear Bg5_18
          have Bg6_19 := Aside0.mk (blk_below Bg6_18.out hst)
          clear Bg6_18
          have Bg8_19 := Aside0.mk (blk_below Bg8_18.out hst)
          clear Bg8_18
          have Bg9_19 := Aside0.mk (blk_below Bg9_18.out hst)
          clear Bg9_18
          clear hst
          go_upto_if 208 with (fail)
          try simp only [Act.put]
          go_cut [10] from 199 to 208 (fun s10 wx => ∃ st3 : Int, s10 = .int .i64 st3 ∧ Aside0 (st3 = if ((((st == 2) && ac) && !true) = true) then 3 else st) ∧ Aside0 (wx.heap[g3]? = some (.cells #[.int .i64 st, .bool s1, .int .u32 e1, .int .u32 m1, .bool f1, .bool true, .int .u32 e2, .int .u32 m2, .bool f2] 48 (0, 0))) ∧ Aside0 (wx.heap[g5]? = some (.cells #[.int .i64 sp, .int .i64 dp, .int .u32 sq, .int .u32 ak, .int .i64 fl, .int .i64 wi, .int .i64 ty, .int .i64 co, .int .i64 he, .int .i64 da] 52 (0, 0))) ∧ Aside0 (wx.heap[g6]? = some (.cells #[.int .i64 0, .bool false, .int .u32 0, .int .u32 0, .bool false, .bool false, .int .u32 0, .int .u32 0, .bool false] 48 (0, 0))) ∧ Aside0 (wx.heap[g8]? = some (.cells #[.bool true, .int .u32 (later e2 en), .int .u32 m2, .bool (f2 || fi)] 46 (0, 0))) ∧ Aside0 (wx.heap[g9]? = some (.cells #[.bool s1, .int .u32 e1, .int .u32 (grant s1 ac m1 ak wi), .bool f1] 46 (0, 0))) ∧ Aside0 (Below w.heap.size w wx))
          case first =>
            rcases hq : ((((st == 2) && ac) && false)) with _ | _
            · go_wp2
              go_meet
              exact ⟨_, rfl, ⟨by rw [show (((st == 2) && ac) && !true) = false from hq]; rfl⟩, Bg3_19, Bg5_19, Bg6_19, Bg8_19, Bg9_19, HB_19⟩
            go_wp2
            go_meet
            exact ⟨_, rfl, ⟨by rw [show (((st == 2) && ac) && !true) = true from hq]; rfl⟩, Bg3_19, Bg5_19, Bg6_19, Bg8_19, Bg9_19, HB_19⟩
          clear Bg3_19 Bg5_19 Bg6_19 Bg8_19 Bg9_19 HB_19
          obtain ⟨st3, rfl, hst3, Bg3_20, Bg5_20, Bg6_20, Bg8_20, Bg9_20, HB_20⟩ := hcut
          go_upto_region 35 with (fail)
          refine wp_region_rg_seq (fun x y => Below x.heap.size x y) (fun (i : Nat) (v : Value) (w1 : World) => match i with | 0 => v = (.pointer (some ⟨g8, 3, none⟩)) | 1 => v = (.bool (f2 || fi)) | 2 => v = (.bool (f2 || fi)) | 3 => ((f2 || fi)) = false → v = (.pointer (some ⟨g9, 3, none⟩)) | 4 => ((f2 || fi)) = false → v = (.bool f1) | 5 => v = (.bool (((f2 || fi) || f1))) | _ => True) (by kernel_rfl) (by kernel_rfl) below_tr br ?hJst8 ?hObl8 ?hEnd8
          case hJst8 =>
            intro i v wx wy hi hs0 hs1 hJi
            match i, hi with
            | 0, _ => exact hJi
            | 1, _ => exact hJi
            | 2, _ => exact hJi
            | 3, _ => exact hJi
            | 4, _ => exact hJi
            | 5, _ => exact hJi
            | _ + 6, hi => exact absurd hi (by simp)
          case hObl8 =>
            refine ⟨?_, ?_, ?_, ?_, ?_, ?_,  trivial⟩
            · intro _ _ a wq K hD hst hj ha hun hK
              have h8 := hD.out 8 rfl rfl
              clear hD hj ha hun
              have e8 := eval_of h8
              refine step_now (v := .pointer (some ⟨g8, 3, none⟩)) (w' := wq) (wanted_free rfl) ?_ (hK _ _ br rfl)
              clear hK
              first | (go_simp; done) | (go_simp; rfl)
            · intro _ _ a wq K hD hst hj ha hun hK
              obtain ⟨v209, h209, j209⟩ := hD.dep hj ha 0 209 rfl rfl
              replace j209 : v209 = (.pointer (some ⟨g8, 3, none⟩)) := j209
              subst j209
              replace hst : Below _ _ wq := hst
              clear hD hj ha hun
              have e209 := eval_of h209
              exact step_now (v := .bool (f2 || fi)) (w' := wq) (wanted_free rfl) (rg_load rfl e209 (blk_below Bg8_20.out hst) rfl Try.underlying4 rfl) (hK _ _ br rfl)
            · intro _ _ a wq K hD hst hj ha hun hK
              obtain ⟨v210, h210, j210⟩ := hD.dep hj ha 1 210 rfl rfl
              replace j210 : v210 = (.bool (f2 || fi)) := j210
              subst j210
              clear hD hj ha hun
              have e210 := eval_of h210
              refine step_now (v := .bool (f2 || fi)) (w' := wq) (wanted_free rfl) ?_ (hK _ _ br rfl)
              clear hK
              first | (go_simp; done) | (go_simp; rfl)
            · intro _ _ a wq K hD hst hj ha hun hK
              obtain ⟨v211, h211, j211⟩ := hD.dep hj ha 2 211 rfl rfl
              replace j211 : v211 = (.bool (f2 || fi)) := j211
              subst j211
              have h9 := hD.out 9 rfl rfl
              clear hD hj ha hun
              rcases hE : ((f2 || fi)) with _ | _
              · rw [hE] at h211
                have e9 := eval_of h9
                refine step_now (v := .pointer (some ⟨g9, 3, none⟩)) (w' := wq) (wanted_on (t := 211) (u := false) rfl rfl rfl h211) ?_ (hK _ _ br (fun _ => rfl))
                clear hK
                first | (go_simp; done) | (go_simp; rfl)
              · rw [hE] at h211
                exact step_off (wanted_off (t := 211) (u := false) rfl rfl rfl h211) (hK _ _ br (fun h => by rw [hE] at h; cases h))
            · intro _ _ a wq K hD hst hj ha hun hK
              obtain ⟨v212, h212, j212⟩ := hD.dep hj ha 3 212 rfl rfl
              replace j212 : ((f2 || fi)) = false → v212 = (.pointer (some ⟨g9, 3, none⟩)) := j212
              obtain ⟨v211, h211, j211⟩ := hD.dep hj ha 2 211 rfl rfl
              replace j211 : v211 = (.bool (f2 || fi)) := j211
              subst j211
              replace hst : Below _ _ wq := hst
              clear hD hj ha hun
              rcases hE : ((f2 || fi)) with _ | _
              · rw [hE] at h211
                obtain rfl := j212 hE
                have e212 := eval_of h212
                exact step_now (v := .bool f1) (w' := wq) (wanted_on (t := 211) (u := false) rfl rfl rfl h211) (rg_load rfl e212 (blk_below Bg9_20.out hst) rfl Try.underlying4 rfl) (hK _ _ br (fun _ => rfl))
              · rw [hE] at h211
                exact step_off (wanted_off (t := 211) (u := false) rfl rfl rfl h211) (hK _ _ br (fun h => by rw [hE] at h; cases h))
            · intro _ _ a wq K hD hst hj ha hun hK
              obtain ⟨v211, h211, j211⟩ := hD.dep hj ha 2 211 rfl rfl
              replace j211 : v211 = (.bool (f2 || fi)) := j211
              subst j211
              obtain ⟨v213, h213, j213⟩ := hD.dep hj ha 4 213 rfl rfl
              replace j213 : ((f2 || fi)) = false → v213 = (.bool f1) := j213
              clear hD hj ha hun
              rcases hE : ((f2 || fi)) with _ | _
              · rw [hE] at h211
                obtain rfl := j213 hE
                have e211 := eval_of h211
                have e213 := eval_of h213
                refine step_now (v := .bool (((f2 || fi) || f1))) (w' := wq) (wanted_free rfl) ?_ (hK _ _ br rfl)
                rw [hE]
                clear hK
                first | (go_simp; done) | (go_simp; rfl) | (go_simp; (try simp only [IntKind.wrap_u32]); omega)
              · rw [hE] at h211
                have e211 := eval_of h211
                have e213 := eval_of h213
                refine step_now (v := .bool (((f2 || fi) || f1))) (w' := wq) (wanted_free rfl) ?_ (hK _ _ br rfl)
                rw [hE]
                clear hK
                first | (go_simp; done) | (go_simp; rfl) | (go_simp; (try simp only [IntKind.wrap_u32]); omega)
          intro vals wend hst hj
          have j0 : vals 0 = (.pointer (some ⟨g8, 3, none⟩)) := hj 0 (by decide)
          have j1 : vals 1 = (.bool (f2 || fi)) := hj 1 (by decide)
          have j2 : vals 2 = (.bool (f2 || fi)) := hj 2 (by decide)
          have j5 : vals 5 = (.bool (((f2 || fi) || f1))) := hj 5 (by decide)
          replace hst : Below _ _ wend := hst
          clear hj
          rw [putAll_list]
          simp only [putL, Act.put, List.setIfInBounds_toArray, List.set_cons_zero, List.set_cons_succ, j0, j1, j2, j5]
          clear j0 j1 j2 j5
          generalize vals 3 = u212_
          generalize vals 4 = u213_
          have HB_21 := Aside0.mk (below_step HB_20.out hst)
          clear HB_20
          have Bg3_21 := Aside0.mk (blk_below Bg3_20.out hst)
          clear Bg3_20
          have Bg5_21 := Aside0.mk (blk_below Bg5_20.out hst)
          clear Bg5_20
          have Bg6_21 := Aside0.mk (blk_below Bg6_20.out hst)
          clear Bg6_20
          have Bg8_21 := Aside0.mk (blk_below Bg8_20.out hst)
          clear Bg8_20
          have Bg9_21 := Aside0.mk (blk_below Bg9_20.out hst)
          clear Bg9_20
          clear hst
          go_upto_if 214 with (fail)
          try simp only [Act.put]
          go_cut [10] from 209 to 214 (fun s10 wx => ∃ st4 : Int, s10 = .int .i64 st4 ∧ Aside0 (st4 = if ((f1 || (f2 || fi)) = true) then 4 else st3) ∧ Aside0 (wx.heap[g3]? = some (.cells #[.int .i64 st, .bool s1, .int .u32 e1, .int .u32 m1, .bool f1, .bool true, .int .u32 e2, .int .u32 m2, .bool f2] 48 (0, 0))) ∧ Aside0 (wx.heap[g5]? = some (.cells #[.int .i64 sp, .int .i64 dp, .int .u32 sq, .int .u32 ak, .int .i64 fl, .int .i64 wi, .int .i64 ty, .int .i64 co, .int .i64 he, .int .i64 da] 52 (0, 0))) ∧ Aside0 (wx.heap[g6]? = some (.cells #[.int .i64 0, .bool false, .int .u32 0, .int .u32 0, .bool false, .bool false, .int .u32 0, .int .u32 0, .bool false] 48 (0, 0))) ∧ Aside0 (wx.heap[g8]? = some (.cells #[.bool true, .int .u32 (later e2 en), .int .u32 m2, .bool (f2 || fi)] 46 (0, 0))) ∧ Aside0 (wx.heap[g9]? = some (.cells #[.bool s1, .int .u32 e1, .int .u32 (grant s1 ac m1 ak wi), .bool f1] 46 (0, 0))) ∧ Aside0 (Below w.heap.size w wx))
          case first =>
            have habc : (f1 || (f2 || fi)) = ((f2 || fi) || f1) := by cases f2 <;> cases fi <;> cases f1 <;> rfl
            rcases hq : (((f2 || fi) || f1)) with _ | _
            · go_wp2
              go_meet
              exact ⟨_, rfl, ⟨by rw [habc, hq]; rfl⟩, Bg3_21, Bg5_21, Bg6_21, Bg8_21, Bg9_21, HB_21⟩
            go_wp2
            go_meet
            exact ⟨_, rfl, ⟨by rw [habc, hq]; rfl⟩, Bg3_21, Bg5_21, Bg6_21, Bg8_21, Bg9_21, HB_21⟩
          clear Bg3_21 Bg5_21 Bg6_21 Bg8_21 Bg9_21 HB_21
          obtain ⟨st4, rfl, hst4, Bg3_22, Bg5_22, Bg6_22, Bg8_22, Bg9_22, HB_22⟩ := hcut
          go_upto_if 216 with (first | ((with_reducible refine gate_dst (N := 215) rfl ?_); refine load_event rfl 52 _ rfl g5 rfl _ _ _ Bg5_22.out Try.underlying52 rfl (by kernel_rfl) ?_) | (go_at_call 45; refine (has_as sp dp sq ak fl wi ty co he da 4 rs F4.out _).mono ?_; rintro e wx23 ⟨rfl, hb⟩; have HB_23 := Aside0.mk (below_step HB_22.out hb); clear HB_22; have Bg3_23 := Aside0.mk (blk_below Bg3_22.out hb); clear Bg3_22; have Bg5_23 := Aside0.mk (blk_below Bg5_22.out hb); clear Bg5_22; have Bg6_23 := Aside0.mk (blk_below Bg6_22.out hb); clear Bg6_22; have Bg8_23 := Aside0.mk (blk_below Bg8_22.out hb); clear Bg8_22; have Bg9_23 := Aside0.mk (blk_below Bg9_22.out hb); clear Bg9_22; clear hb))
          try simp only [Act.put]
          go_cut [10] from 215 to 216 (fun s10 wx => ∃ st5 : Int, s10 = .int .i64 st5 ∧ Aside0 (st5 = if (rs = true) then 5 else st4) ∧ Aside0 (wx.heap[g3]? = some (.cells #[.int .i64 st, .bool s1, .int .u32 e1, .int .u32 m1, .bool f1, .bool true, .int .u32 e2, .int .u32 m2, .bool f2] 48 (0, 0))) ∧ Aside0 (wx.heap[g5]? = some (.cells #[.int .i64 sp, .int .i64 dp, .int .u32 sq, .int .u32 ak, .int .i64 fl, .int .i64 wi, .int .i64 ty, .int .i64 co, .int .i64 he, .int .i64 da] 52 (0, 0))) ∧ Aside0 (wx.heap[g6]? = some (.cells #[.int .i64 0, .bool false, .int .u32 0, .int .u32 0, .bool false, .bool false, .int .u32 0, .int .u32 0, .bool false] 48 (0, 0))) ∧ Aside0 (wx.heap[g8]? = some (.cells #[.bool true, .int .u32 (later e2 en), .int .u32 m2, .bool (f2 || fi)] 46 (0, 0))) ∧ Aside0 (wx.heap[g9]? = some (.cells #[.bool s1, .int .u32 e1, .int .u32 (grant s1 ac m1 ak wi), .bool f1] 46 (0, 0))) ∧ Aside0 (Below w.heap.size w wx))
          case first =>
            cases rs
            · go_wp2
              go_meet
              exact ⟨_, rfl, ⟨rfl⟩, Bg3_23, Bg5_23, Bg6_23, Bg8_23, Bg9_23, HB_23⟩
            go_wp2
            go_meet
            exact ⟨_, rfl, ⟨rfl⟩, Bg3_23, Bg5_23, Bg6_23, Bg8_23, Bg9_23, HB_23⟩
          clear Bg3_23 Bg5_23 Bg6_23 Bg8_23 Bg9_23 HB_23
          obtain ⟨st5, rfl, hst5, Bg3_24, Bg5_24, Bg6_24, Bg8_24, Bg9_24, HB_24⟩ := hcut
          go_wp2_with (first | ((with_reducible refine gate_dst (N := 219) rfl ?_); refine load_event rfl 46 _ rfl g9 rfl _ _ _ Bg9_24.out Try.underlying46 rfl (by kernel_rfl) ?_) | ((with_reducible refine gate_dst (N := 220) rfl ?_); refine load_event rfl 46 _ rfl g8 rfl _ _ _ Bg8_24.out Try.underlying46 rfl (by kernel_rfl) ?_) | ((with_reducible refine gate_store (t := 48) (p := 6) rfl ?_); refine store_event rfl 48 _ _ rfl g6 _ rfl rfl _ _ Bg6_24.out (by kernel_rfl) rfl rfl ?_; intro wx25 hst hu; have HB_25 := Aside0.mk (below_upd HB_24.out hu (below_size HB_24.out) (fun k hk => by cases hk; exact Lg6.out)); clear HB_24; have Bg3_25 := Aside0.mk (Upd.blk hu Bg3_24.out (One.not Ng3g6.out)); clear Bg3_24; have Bg5_25 := Aside0.mk (Upd.blk hu Bg5_24.out (One.not Ng5g6.out)); clear Bg5_24; have Bg8_25 := Aside0.mk (Upd.blk hu Bg8_24.out (One.not (Ne.symm Ng6g8.out))); clear Bg8_24; have Bg9_25 := Aside0.mk (Upd.blk hu Bg9_24.out (One.not (Ne.symm Ng6g9.out))); clear Bg9_24; have Bg6_25 := Aside0.mk hst; clear hst hu Bg6_24))
          refine bodyPost_ret (results_ct rfl _ _ g6 48 #[.int .i64 st5, .bool s1, .int .u32 e1, .int .u32 (grant s1 ac m1 ak wi), .bool f1, .bool true, .int .u32 (later e2 en), .int .u32 m2, .bool (f2 || fi)] (0, 0) _ rfl Bg6_25.out Try.underlying48 rfl (by kernel_rfl)) rfl (nextPost_mk (⟨st5, ⟨s1, e1, (grant s1 ac m1 ak wi), f1⟩, ⟨true, (later e2 en), m2, (f2 || fi)⟩⟩, true) ?_ HB_25.out)
          have khst5 := hst5.out
          subst khst5
          have khst4 := hst4.out
          subst khst4
          have khst3 := hst3.out
          subst khst3
          simp only [next, synced, F2.out, F1.out, F4.out, F16.out, FE.out]
          simp only [hc0, hc1, hc2, hm1, hm2, Bool.false_eq_true, if_false, if_true, reduceIte]
          all_goals first | (simp only [hc0, hc1, hc2, hm1, hm2, Bool.false_eq_true, if_true, if_false, Bool.not_true, Bool.not_false, Bool.and_true, Bool.and_false, Bool.true_and, Bool.false_and, Bool.or_false, Bool.false_or, Bool.or_true, Bool.true_or, reduceIte]; done) | (simp [hc0, hc1, hc2, hm1, hm2]; done) | (simp [grant, hc0, hc1, hc2, hm1, hm2]; done)
        go_wp2_with (first | ((with_reducible refine gate_dst (N := 169) rfl ?_); refine load_event rfl 48 _ rfl g3 rfl _ _ _ Bg3_13.out Try.underlying48 rfl (by kernel_rfl) ?_) | ((with_reducible refine gate_store (t := 48) (p := 6) rfl ?_); refine store_event rfl 48 _ _ rfl g6 _ rfl rfl _ _ Bg6_13.out (by kernel_rfl) rfl rfl ?_; intro wx14 hst hu; have HB_14 := Aside0.mk (below_upd HB_13.out hu (below_size HB_13.out) (fun k hk => by cases hk; exact Lg6.out)); clear HB_13; have Bg3_14 := Aside0.mk (Upd.blk hu Bg3_13.out (One.not Ng3g6.out)); clear Bg3_13; have Bg5_14 := Aside0.mk (Upd.blk hu Bg5_13.out (One.not Ng5g6.out)); clear Bg5_13; have Bg8_14 := Aside0.mk (Upd.blk hu Bg8_13.out (One.not (Ne.symm Ng6g8.out))); clear Bg8_13; have Bg9_14 := Aside0.mk (Upd.blk hu Bg9_13.out (One.not (Ne.symm Ng6g9.out))); clear Bg9_13; have Bg6_14 := Aside0.mk hst; clear hst hu Bg6_13))
        refine bodyPost_ret (results_ct rfl _ _ g6 48 #[.int .i64 st, .bool s1, .int .u32 e1, .int .u32 m1, .bool f1, .bool true, .int .u32 e2, .int .u32 m2, .bool f2] (0, 0) _ rfl Bg6_14.out Try.underlying48 rfl (by kernel_rfl)) rfl (nextPost_mk (⟨st, ⟨s1, e1, m1, f1⟩, ⟨true, e2, m2, f2⟩⟩, false) ?_ HB_14.out)
        simp only [next, synced, F2.out, F1.out, F4.out, F16.out, FE.out]
        simp only [hc0, hc1, hc2, hc3, Bool.false_eq_true, if_false, if_true, reduceIte]
        all_goals first | (simp only [hc0, hc1, hc2, hc3, Bool.false_eq_true, if_true, if_false, Bool.not_true, Bool.not_false, Bool.and_true, Bool.and_false, Bool.true_and, Bool.false_and, Bool.or_false, Bool.false_or, Bool.or_true, Bool.true_or, reduceIte]; done) | (simp [hc0, hc1, hc2, hc3]; done) | (simp [grant, hc0, hc1, hc2, hc3]; done) | (rcases hl : less m2 en with _ | _ <;> simp_all; done)
      go_upto_region 12 with (fail)
      refine wp_region_rg_seq (fun x y => Below x.heap.size x y) (fun (i : Nat) (v : Value) (w1 : World) => match i with | 0 => v = (.agg #[.int .i64 sp, .int .i64 dp, .int .u32 sq, .int .u32 ak, .int .i64 fl, .int .i64 wi, .int .i64 ty, .int .i64 co, .int .i64 he, .int .i64 da]) | 1 => v = (.bool (fi)) | 2 => v = (.bool (fi)) | 3 => (fi) = false → v = (.agg #[.int .i64 sp, .int .i64 dp, .int .u32 sq, .int .u32 ak, .int .i64 fl, .int .i64 wi, .int .i64 ty, .int .i64 co, .int .i64 he, .int .i64 da]) | 4 => (fi) = false → v = (.bool (rs)) | 5 => v = (.bool ((fi || rs))) | 6 => v = (.bool ((fi || rs))) | 7 => ((fi || rs)) = false → v = (.pointer (some ⟨g5, 9, none⟩)) | 8 => ((fi || rs)) = false → v = (.int .i64 da) | 9 => ((fi || rs)) = false → v = (.bool ((da != 0))) | 10 => v = (.bool (((fi || rs) || (da != 0)))) | _ => True) (by kernel_rfl) (by kernel_rfl) below_tr br ?hJst9 ?hObl9 ?hEnd9
      case hJst9 =>
        intro i v wx wy hi hs0 hs1 hJi
        match i, hi with
        | 0, _ => exact hJi
        | 1, _ => exact hJi
        | 2, _ => exact hJi
        | 3, _ => exact hJi
        | 4, _ => exact hJi
        | 5, _ => exact hJi
        | 6, _ => exact hJi
        | 7, _ => exact hJi
        | 8, _ => exact hJi
        | 9, _ => exact hJi
        | 10, _ => exact hJi
        | _ + 11, hi => exact absurd hi (by simp)
      case hObl9 =>
        refine ⟨?_, ?_, ?_, ?_, ?_, ?_, ?_, ?_, ?_, ?_, ?_,  trivial⟩
        · intro _ _ a wq K hD hst hj ha hun hK
          have h5 := hD.out 5 rfl rfl
          replace hst : Below _ _ wq := hst
          clear hD hj ha hun
          have e5 := eval_of h5
          exact step_now (v := .agg #[.int .i64 sp, .int .i64 dp, .int .u32 sq, .int .u32 ak, .int .i64 fl, .int .i64 wi, .int .i64 ty, .int .i64 co, .int .i64 he, .int .i64 da]) (w' := wq) (wanted_free rfl) (rg_loadall rfl e5 (blk_below Bg5_12.out hst) Try.underlying52 rfl (by kernel_rfl)) (hK _ _ br rfl)
        · intro _ _ a wq K hD hst hj ha hun hK
          obtain ⟨v62, h62, j62⟩ := hD.dep hj ha 0 62 rfl rfl
          replace j62 : v62 = (.agg #[.int .i64 sp, .int .i64 dp, .int .u32 sq, .int .u32 ak, .int .i64 fl, .int .i64 wi, .int .i64 ty, .int .i64 co, .int .i64 he, .int .i64 da]) := j62
          subst j62
          clear hD hj ha hun
          have e62 := eval_of h62
          refine step_call (f := 45) (args := #[.agg #[.int .i64 sp, .int .i64 dp, .int .u32 sq, .int .u32 ak, .int .i64 fl, .int .i64 wi, .int .i64 ty, .int .i64 co, .int .i64 he, .int .i64 da], .int .i64 1]) (wanted_free rfl) ?_ (has_as sp dp sq ak fl wi ty co he da 1 fi F1.out wq) ?_
          · clear hK; first | (go_simp; done) | (go_simp; rfl)
          · rintro e w' ⟨rfl, hbq⟩; exact ⟨_, rfl, hK _ _ hbq rfl⟩
        · intro _ _ a wq K hD hst hj ha hun hK
          obtain ⟨v63, h63, j63⟩ := hD.dep hj ha 1 63 rfl rfl
          replace j63 : v63 = (.bool (fi)) := j63
          subst j63
          clear hD hj ha hun
          have e63 := eval_of h63
          refine step_now (v := .bool (fi)) (w' := wq) (wanted_free rfl) ?_ (hK _ _ br rfl)
          clear hK
          first | (go_simp; done) | (go_simp; rfl)
        · intro _ _ a wq K hD hst hj ha hun hK
          obtain ⟨v64, h64, j64⟩ := hD.dep hj ha 2 64 rfl rfl
          replace j64 : v64 = (.bool (fi)) := j64
          subst j64
          have h5 := hD.out 5 rfl rfl
          replace hst : Below _ _ wq := hst
          clear hD hj ha hun
          rcases hE : (fi) with _ | _
          · rw [hE] at h64
            have e5 := eval_of h5
            exact step_now (v := .agg #[.int .i64 sp, .int .i64 dp, .int .u32 sq, .int .u32 ak, .int .i64 fl, .int .i64 wi, .int .i64 ty, .int .i64 co, .int .i64 he, .int .i64 da]) (w' := wq) (wanted_on (t := 64) (u := false) rfl rfl rfl h64) (rg_loadall rfl e5 (blk_below Bg5_12.out hst) Try.underlying52 rfl (by kernel_rfl)) (hK _ _ br (fun _ => rfl))
          · rw [hE] at h64
            exact step_off (wanted_off (t := 64) (u := false) rfl rfl rfl h64) (hK _ _ br (fun h => by rw [hE] at h; cases h))
        · intro _ _ a wq K hD hst hj ha hun hK
          obtain ⟨v65, h65, j65⟩ := hD.dep hj ha 3 65 rfl rfl
          replace j65 : (fi) = false → v65 = (.agg #[.int .i64 sp, .int .i64 dp, .int .u32 sq, .int .u32 ak, .int .i64 fl, .int .i64 wi, .int .i64 ty, .int .i64 co, .int .i64 he, .int .i64 da]) := j65
          obtain ⟨v64, h64, j64⟩ := hD.dep hj ha 2 64 rfl rfl
          replace j64 : v64 = (.bool (fi)) := j64
          subst j64
          clear hD hj ha hun
          rcases hE : (fi) with _ | _
          · rw [hE] at h64
            obtain rfl := j65 hE
            have e65 := eval_of h65
            refine step_call (f := 45) (args := #[.agg #[.int .i64 sp, .int .i64 dp, .int .u32 sq, .int .u32 ak, .int .i64 fl, .int .i64 wi, .int .i64 ty, .int .i64 co, .int .i64 he, .int .i64 da], .int .i64 4]) (wanted_on (t := 64) (u := false) rfl rfl rfl h64) ?_ (has_as sp dp sq ak fl wi ty co he da 4 rs F4.out wq) ?_
            · clear hK; first | (go_simp; done) | (go_simp; rfl)
            · rintro e w' ⟨rfl, hbq⟩; exact ⟨_, rfl, hK _ _ hbq (fun _ => rfl)⟩
          · rw [hE] at h64
            exact step_off (wanted_off (t := 64) (u := false) rfl rfl rfl h64) (hK _ _ br (fun h => by rw [hE] at h; cases h))
        · intro _ _ a wq K hD hst hj ha hun hK
          obtain ⟨v64, h64, j64⟩ := hD.dep hj ha 2 64 rfl rfl
          replace j64 : v64 = (.bool (fi)) := j64
          subst j64
          obtain ⟨v66, h66, j66⟩ := hD.dep hj ha 4 66 rfl rfl
          replace j66 : (fi) = false → v66 = (.bool (rs)) := j66
          clear hD hj ha hun
          rcases hE : (fi) with _ | _
          · rw [hE] at h64
            obtain rfl := j66 hE
            have e64 := eval_of h64
            have e66 := eval_of h66
            refine step_now (v := .bool ((fi || rs))) (w' := wq) (wanted_free rfl) ?_ (hK _ _ br rfl)
            rw [hE]
            clear hK
            first | (go_simp; done) | (go_simp; rfl) | (go_simp; (try simp only [IntKind.wrap_u32]); omega)
          · rw [hE] at h64
            have e64 := eval_of h64
            have e66 := eval_of h66
            refine step_now (v := .bool ((fi || rs))) (w' := wq) (wanted_free rfl) ?_ (hK _ _ br rfl)
            rw [hE]
            clear hK
            first | (go_simp; done) | (go_simp; rfl) | (go_simp; (try simp only [IntKind.wrap_u32]); omega)
        · intro _ _ a wq K hD hst hj ha hun hK
          obtain ⟨v67, h67, j67⟩ := hD.dep hj ha 5 67 rfl rfl
          replace j67 : v67 = (.bool ((fi || rs))) := j67
          subst j67
          clear hD hj ha hun
          have e67 := eval_of h67
          refine step_now (v := .bool ((fi || rs))) (w' := wq) (wanted_free rfl) ?_ (hK _ _ br rfl)
          clear hK
          first | (go_simp; done) | (go_simp; rfl)
        · intro _ _ a wq K hD hst hj ha hun hK
          obtain ⟨v68, h68, j68⟩ := hD.dep hj ha 6 68 rfl rfl
          replace j68 : v68 = (.bool ((fi || rs))) := j68
          subst j68
          have h5 := hD.out 5 rfl rfl
          clear hD hj ha hun
          rcases hE : ((fi || rs)) with _ | _
          · rw [hE] at h68
            have e5 := eval_of h5
            refine step_now (v := .pointer (some ⟨g5, 9, none⟩)) (w' := wq) (wanted_on (t := 68) (u := false) rfl rfl rfl h68) ?_ (hK _ _ br (fun _ => rfl))
            clear hK
            first | (go_simp; done) | (go_simp; rfl)
          · rw [hE] at h68
            exact step_off (wanted_off (t := 68) (u := false) rfl rfl rfl h68) (hK _ _ br (fun h => by rw [hE] at h; cases h))
        · intro _ _ a wq K hD hst hj ha hun hK
          obtain ⟨v69, h69, j69⟩ := hD.dep hj ha 7 69 rfl rfl
          replace j69 : ((fi || rs)) = false → v69 = (.pointer (some ⟨g5, 9, none⟩)) := j69
          obtain ⟨v68, h68, j68⟩ := hD.dep hj ha 6 68 rfl rfl
          replace j68 : v68 = (.bool ((fi || rs))) := j68
          subst j68
          replace hst : Below _ _ wq := hst
          clear hD hj ha hun
          rcases hE : ((fi || rs)) with _ | _
          · rw [hE] at h68
            obtain rfl := j69 hE
            have e69 := eval_of h69
            exact step_now (v := .int .i64 da) (w' := wq) (wanted_on (t := 68) (u := false) rfl rfl rfl h68) (rg_load rfl e69 (blk_below Bg5_12.out hst) rfl Try.underlying3 rfl) (hK _ _ br (fun _ => rfl))
          · rw [hE] at h68
            exact step_off (wanted_off (t := 68) (u := false) rfl rfl rfl h68) (hK _ _ br (fun h => by rw [hE] at h; cases h))
        · intro _ _ a wq K hD hst hj ha hun hK
          obtain ⟨v70, h70, j70⟩ := hD.dep hj ha 8 70 rfl rfl
          replace j70 : ((fi || rs)) = false → v70 = (.int .i64 da) := j70
          obtain ⟨v68, h68, j68⟩ := hD.dep hj ha 6 68 rfl rfl
          replace j68 : v68 = (.bool ((fi || rs))) := j68
          subst j68
          clear hD hj ha hun
          rcases hE : ((fi || rs)) with _ | _
          · rw [hE] at h68
            obtain rfl := j70 hE
            have e70 := eval_of h70
            refine step_now (v := .bool ((da != 0))) (w' := wq) (wanted_on (t := 68) (u := false) rfl rfl rfl h68) ?_ (hK _ _ br (fun _ => rfl))
            clear hK
            first | (go_simp; done) | (go_simp; rfl)
          · rw [hE] at h68
            exact step_off (wanted_off (t := 68) (u := false) rfl rfl rfl h68) (hK _ _ br (fun h => by rw [hE] at h; cases h))
        · intro _ _ a wq K hD hst hj ha hun hK
          obtain ⟨v68, h68, j68⟩ := hD.dep hj ha 6 68 rfl rfl
          replace j68 : v68 = (.bool ((fi || rs))) := j68
          subst j68
          obtain ⟨v71, h71, j71⟩ := hD.dep hj ha 9 71 rfl rfl
          replace j71 : ((fi || rs)) = false → v71 = (.bool ((da != 0))) := j71
          clear hD hj ha hun
          rcases hE : ((fi || rs)) with _ | _
          · rw [hE] at h68
            obtain rfl := j71 hE
            have e68 := eval_of h68
            have e71 := eval_of h71
            refine step_now (v := .bool (((fi || rs) || (da != 0)))) (w' := wq) (wanted_free rfl) ?_ (hK _ _ br rfl)
            rw [hE]
            clear hK
            first | (go_simp; done) | (go_simp; rfl) | (go_simp; (try simp only [IntKind.wrap_u32]); omega)
          · rw [hE] at h68
            have e68 := eval_of h68
            have e71 := eval_of h71
            refine step_now (v := .bool (((fi || rs) || (da != 0)))) (w' := wq) (wanted_free rfl) ?_ (hK _ _ br rfl)
            rw [hE]
            clear hK
            first | (go_simp; done) | (go_simp; rfl) | (go_simp; (try simp only [IntKind.wrap_u32]); omega)
      intro vals wend hst hj
      have j0 : vals 0 = (.agg #[.int .i64 sp, .int .i64 dp, .int .u32 sq, .int .u32 ak, .int .i64 fl, .int .i64 wi, .int .i64 ty, .int .i64 co, .int .i64 he, .int .i64 da]) := hj 0 (by decide)
      have j1 : vals 1 = (.bool (fi)) := hj 1 (by decide)
      have j2 : vals 2 = (.bool (fi)) := hj 2 (by decide)
      have j5 : vals 5 = (.bool ((fi || rs))) := hj 5 (by decide)
      have j6 : vals 6 = (.bool ((fi || rs))) := hj 6 (by decide)
      have j10 : vals 10 = (.bool (((fi || rs) || (da != 0)))) := hj 10 (by decide)
      replace hst : Below _ _ wend := hst
      clear hj
      rw [putAll_list]
      simp only [putL, Act.put, List.setIfInBounds_toArray, List.set_cons_zero, List.set_cons_succ, j0, j1, j2, j5, j6, j10]
      clear j0 j1 j2 j5 j6 j10
      generalize vals 3 = u65_
      generalize vals 4 = u66_
      generalize vals 7 = u69_
      generalize vals 8 = u70_
      generalize vals 9 = u71_
      have HB_13 := Aside0.mk (below_step HB_12.out hst)
      clear HB_12
      have Bg3_13 := Aside0.mk (blk_below Bg3_12.out hst)
      clear Bg3_12
      have Bg5_13 := Aside0.mk (blk_below Bg5_12.out hst)
      clear Bg5_12
      have Bg6_13 := Aside0.mk (blk_below Bg6_12.out hst)
      clear Bg6_12
      have Bg8_13 := Aside0.mk (blk_below Bg8_12.out hst)
      clear Bg8_12
      have Bg9_13 := Aside0.mk (blk_below Bg9_12.out hst)
      clear Bg9_12
      clear hst
      rcases hc3 : (((fi || rs) || (da != 0))) with _ | _
      · simp only [Bool.or_eq_false_iff] at hc3
        obtain ⟨⟨hd1, hd2⟩, hd3⟩ := hc3
        cases s2
        · go_upto_region 16 with (first | ((with_reducible refine gate_dst (N := 75) rfl ?_); refine load1_event rfl _ _ rfl g8 0 rfl _ _ _ _ Bg8_13.out rfl Try.underlying4 rfl ?_))
          refine wp_region_rg_seq (fun x y => Below x.heap.size x y) (fun (i : Nat) (v : Value) (w1 : World) => match i with | 0 => v = (.bool true) | 1 => v = (.bool false) | 2 => v = (.bool false) | 3 => v = (.pointer (some ⟨g3, 0, none⟩)) | 4 => v = (.int .i64 st) | 5 => v = (.bool ((st != 1))) | 6 => v = (.bool ((st != 1))) | 7 => v = (.bool ((st != 1))) | 8 => ((st != 1)) = false → v = (.agg #[.int .i64 sp, .int .i64 dp, .int .u32 sq, .int .u32 ak, .int .i64 fl, .int .i64 wi, .int .i64 ty, .int .i64 co, .int .i64 he, .int .i64 da]) | 9 => ((st != 1)) = false → v = (.bool (ac)) | 10 => ((st != 1)) = false → v = (.bool (!(ac))) | 11 => v = (.bool (((st != 1) || !(ac)))) | 12 => v = (.bool (((st != 1) || !(ac)))) | 13 => (((st != 1) || !(ac))) = false → v = (.pointer (some ⟨g5, 3, none⟩)) | 14 => (((st != 1) || !(ac))) = false → v = (.int .u32 ak) | 15 => (((st != 1) || !(ac))) = false → v = (.pointer (some ⟨g3, 1, none⟩)) | 16 => (((st != 1) || !(ac))) = false → v = (.pointer (some ⟨g3, 2, none⟩)) | 17 => (((st != 1) || !(ac))) = false → v = (.int .u32 e1) | 18 => (((st != 1) || !(ac))) = false → v = (.bool ((ak != e1))) | 19 => v = (.bool ((((st != 1) || !(ac)) || (ak != e1)))) | _ => True) (by kernel_rfl) (by kernel_rfl) below_tr br ?hJst10 ?hObl10 ?hEnd10
          case hJst10 =>
            intro i v wx wy hi hs0 hs1 hJi
            match i, hi with
            | 0, _ => exact hJi
            | 1, _ => exact hJi
            | 2, _ => exact hJi
            | 3, _ => exact hJi
            | 4, _ => exact hJi
            | 5, _ => exact hJi
            | 6, _ => exact hJi
            | 7, _ => exact hJi
            | 8, _ => exact hJi
            | 9, _ => exact hJi
            | 10, _ => exact hJi
            | 11, _ => exact hJi
            | 12, _ => exact hJi
            | 13, _ => exact hJi
            | 14, _ => exact hJi
            | 15, _ => exact hJi
            | 16, _ => exact hJi
            | 17, _ => exact hJi
            | 18, _ => exact hJi
            | 19, _ => exact hJi
            | _ + 20, hi => exact absurd hi (by simp)
          case hObl10 =>
            refine ⟨?_, ?_, ?_, ?_, ?_, ?_, ?_, ?_, ?_, ?_, ?_, ?_, ?_, ?_, ?_, ?_, ?_, ?_, ?_, ?_,  trivial⟩
            · intro _ _ a wq K hD hst hj ha hun hK
              have h1 := hD.out 1 rfl rfl
              clear hD hj ha hun
              have e1 := eval_of h1
              refine step_now (v := .bool true) (w' := wq) (wanted_free rfl) ?_ (hK _ _ br rfl)
              clear hK
              first | (go_simp; done) | (go_simp; rfl)
            · intro _ _ a wq K hD hst hj ha hun hK
              obtain ⟨v92, h92, j92⟩ := hD.dep hj ha 0 92 rfl rfl
              replace j92 : v92 = (.bool true) := j92
              subst j92
              clear hD hj ha hun
              have e92 := eval_of h92
              refine step_now (v := .bool false) (w' := wq) (wanted_free rfl) ?_ (hK _ _ br rfl)
              clear hK
              first | (go_simp; done) | (go_simp; rfl)
            · intro _ _ a wq K hD hst hj ha hun hK
              obtain ⟨v93, h93, j93⟩ := hD.dep hj ha 1 93 rfl rfl
              replace j93 : v93 = (.bool false) := j93
              subst j93
              clear hD hj ha hun
              have e93 := eval_of h93
              refine step_now (v := .bool false) (w' := wq) (wanted_free rfl) ?_ (hK _ _ br rfl)
              clear hK
              first | (go_simp; done) | (go_simp; rfl)
            · intro _ _ a wq K hD hst hj ha hun hK
              obtain ⟨v94, h94, j94⟩ := hD.dep hj ha 2 94 rfl rfl
              replace j94 : v94 = (.bool false) := j94
              subst j94
              have h3 := hD.out 3 rfl rfl
              clear hD hj ha hun
              have e3 := eval_of h3
              refine step_now (v := .pointer (some ⟨g3, 0, none⟩)) (w' := wq) (wanted_on (t := 94) (u := false) rfl rfl rfl h94) ?_ (hK _ _ br rfl)
              clear hK
              first | (go_simp; done) | (go_simp; rfl)
            · intro _ _ a wq K hD hst hj ha hun hK
              obtain ⟨v95, h95, j95⟩ := hD.dep hj ha 3 95 rfl rfl
              replace j95 : v95 = (.pointer (some ⟨g3, 0, none⟩)) := j95
              subst j95
              obtain ⟨v94, h94, j94⟩ := hD.dep hj ha 2 94 rfl rfl
              replace j94 : v94 = (.bool false) := j94
              subst j94
              replace hst : Below _ _ wq := hst
              clear hD hj ha hun
              have e95 := eval_of h95
              exact step_now (v := .int .i64 st) (w' := wq) (wanted_on (t := 94) (u := false) rfl rfl rfl h94) (rg_load rfl e95 (blk_below Bg3_13.out hst) rfl Try.underlying3 rfl) (hK _ _ br rfl)
            · intro _ _ a wq K hD hst hj ha hun hK
              obtain ⟨v96, h96, j96⟩ := hD.dep hj ha 4 96 rfl rfl
              replace j96 : v96 = (.int .i64 st) := j96
              subst j96
              obtain ⟨v94, h94, j94⟩ := hD.dep hj ha 2 94 rfl rfl
              replace j94 : v94 = (.bool false) := j94
              subst j94
              clear hD hj ha hun
              have e96 := eval_of h96
              refine step_now (v := .bool ((st != 1))) (w' := wq) (wanted_on (t := 94) (u := false) rfl rfl rfl h94) ?_ (hK _ _ br rfl)
              clear hK
              first | (go_simp; done) | (go_simp; rfl)
            · intro _ _ a wq K hD hst hj ha hun hK
              obtain ⟨v94, h94, j94⟩ := hD.dep hj ha 2 94 rfl rfl
              replace j94 : v94 = (.bool false) := j94
              subst j94
              obtain ⟨v97, h97, j97⟩ := hD.dep hj ha 5 97 rfl rfl
              replace j97 : v97 = (.bool ((st != 1))) := j97
              subst j97
              clear hD hj ha hun
              have e94 := eval_of h94
              have e97 := eval_of h97
              refine step_now (v := .bool ((st != 1))) (w' := wq) (wanted_free rfl) ?_ (hK _ _ br rfl)
              clear hK
              first | (go_simp; done) | (go_simp; rfl)
            · intro _ _ a wq K hD hst hj ha hun hK
              obtain ⟨v98, h98, j98⟩ := hD.dep hj ha 6 98 rfl rfl
              replace j98 : v98 = (.bool ((st != 1))) := j98
              subst j98
              clear hD hj ha hun
              have e98 := eval_of h98
              refine step_now (v := .bool ((st != 1))) (w' := wq) (wanted_free rfl) ?_ (hK _ _ br rfl)
              clear hK
              first | (go_simp; done) | (go_simp; rfl)
            · intro _ _ a wq K hD hst hj ha hun hK
              obtain ⟨v99, h99, j99⟩ := hD.dep hj ha 7 99 rfl rfl
              replace j99 : v99 = (.bool ((st != 1))) := j99
              subst j99
              have h5 := hD.out 5 rfl rfl
              replace hst : Below _ _ wq := hst
              clear hD hj ha hun
              rcases hE : ((st != 1)) with _ | _
              · rw [hE] at h99
                have e5 := eval_of h5
                exact step_now (v := .agg #[.int .i64 sp, .int .i64 dp, .int .u32 sq, .int .u32 ak, .int .i64 fl, .int .i64 wi, .int .i64 ty, .int .i64 co, .int .i64 he, .int .i64 da]) (w' := wq) (wanted_on (t := 99) (u := false) rfl rfl rfl h99) (rg_loadall rfl e5 (blk_below Bg5_13.out hst) Try.underlying52 rfl (by kernel_rfl)) (hK _ _ br (fun _ => rfl))
              · rw [hE] at h99
                exact step_off (wanted_off (t := 99) (u := false) rfl rfl rfl h99) (hK _ _ br (fun h => by rw [hE] at h; cases h))
            · intro _ _ a wq K hD hst hj ha hun hK
              obtain ⟨v100, h100, j100⟩ := hD.dep hj ha 8 100 rfl rfl
              replace j100 : ((st != 1)) = false → v100 = (.agg #[.int .i64 sp, .int .i64 dp, .int .u32 sq, .int .u32 ak, .int .i64 fl, .int .i64 wi, .int .i64 ty, .int .i64 co, .int .i64 he, .int .i64 da]) := j100
              obtain ⟨v99, h99, j99⟩ := hD.dep hj ha 7 99 rfl rfl
              replace j99 : v99 = (.bool ((st != 1))) := j99
              subst j99
              clear hD hj ha hun
              rcases hE : ((st != 1)) with _ | _
              · rw [hE] at h99
                obtain rfl := j100 hE
                have e100 := eval_of h100
                refine step_call (f := 45) (args := #[.agg #[.int .i64 sp, .int .i64 dp, .int .u32 sq, .int .u32 ak, .int .i64 fl, .int .i64 wi, .int .i64 ty, .int .i64 co, .int .i64 he, .int .i64 da], .int .i64 16]) (wanted_on (t := 99) (u := false) rfl rfl rfl h99) ?_ (has_as sp dp sq ak fl wi ty co he da 16 ac F16.out wq) ?_
                · clear hK; first | (go_simp; done) | (go_simp; rfl)
                · rintro e w' ⟨rfl, hbq⟩; exact ⟨_, rfl, hK _ _ hbq (fun _ => rfl)⟩
              · rw [hE] at h99
                exact step_off (wanted_off (t := 99) (u := false) rfl rfl rfl h99) (hK _ _ br (fun h => by rw [hE] at h; cases h))
            · intro _ _ a wq K hD hst hj ha hun hK
              obtain ⟨v101, h101, j101⟩ := hD.dep hj ha 9 101 rfl rfl
              replace j101 : ((st != 1)) = false → v101 = (.bool (ac)) := j101
              obtain ⟨v99, h99, j99⟩ := hD.dep hj ha 7 99 rfl rfl
              replace j99 : v99 = (.bool ((st != 1))) := j99
              subst j99
              clear hD hj ha hun
              rcases hE : ((st != 1)) with _ | _
              · rw [hE] at h99
                obtain rfl := j101 hE
                have e101 := eval_of h101
                refine step_now (v := .bool (!(ac))) (w' := wq) (wanted_on (t := 99) (u := false) rfl rfl rfl h99) ?_ (hK _ _ br (fun _ => rfl))
                clear hK
                first | (go_simp; done) | (go_simp; rfl)
              · rw [hE] at h99
                exact step_off (wanted_off (t := 99) (u := false) rfl rfl rfl h99) (hK _ _ br (fun h => by rw [hE] at h; cases h))
            · intro _ _ a wq K hD hst hj ha hun hK
              obtain ⟨v99, h99, j99⟩ := hD.dep hj ha 7 99 rfl rfl
              replace j99 : v99 = (.bool ((st != 1))) := j99
              subst j99
              obtain ⟨v102, h102, j102⟩ := hD.dep hj ha 10 102 rfl rfl
              replace j102 : ((st != 1)) = false → v102 = (.bool (!(ac))) := j102
              clear hD hj ha hun
              rcases hE : ((st != 1)) with _ | _
              · rw [hE] at h99
                obtain rfl := j102 hE
                have e99 := eval_of h99
                have e102 := eval_of h102
                refine step_now (v := .bool (((st != 1) || !(ac)))) (w' := wq) (wanted_free rfl) ?_ (hK _ _ br rfl)
                rw [hE]
                clear hK
                first | (go_simp; done) | (go_simp; rfl) | (go_simp; (try simp only [IntKind.wrap_u32]); omega)
              · rw [hE] at h99
                have e99 := eval_of h99
                have e102 := eval_of h102
                refine step_now (v := .bool (((st != 1) || !(ac)))) (w' := wq) (wanted_free rfl) ?_ (hK _ _ br rfl)
                rw [hE]
                clear hK
                first | (go_simp; done) | (go_simp; rfl) | (go_simp; (try simp only [IntKind.wrap_u32]); omega)
            · intro _ _ a wq K hD hst hj ha hun hK
              obtain ⟨v103, h103, j103⟩ := hD.dep hj ha 11 103 rfl rfl
              replace j103 : v103 = (.bool (((st != 1) || !(ac)))) := j103
              subst j103
              clear hD hj ha hun
              have e103 := eval_of h103
              refine step_now (v := .bool (((st != 1) || !(ac)))) (w' := wq) (wanted_free rfl) ?_ (hK _ _ br rfl)
              clear hK
              first | (go_simp; done) | (go_simp; rfl)
            · intro _ _ a wq K hD hst hj ha hun hK
              obtain ⟨v104, h104, j104⟩ := hD.dep hj ha 12 104 rfl rfl
              replace j104 : v104 = (.bool (((st != 1) || !(ac)))) := j104
              subst j104
              have h5 := hD.out 5 rfl rfl
              clear hD hj ha hun
              rcases hE : (((st != 1) || !(ac))) with _ | _
              · rw [hE] at h104
                have e5 := eval_of h5
                refine step_now (v := .pointer (some ⟨g5, 3, none⟩)) (w' := wq) (wanted_on (t := 104) (u := false) rfl rfl rfl h104) ?_ (hK _ _ br (fun _ => rfl))
                clear hK
                first | (go_simp; done) | (go_simp; rfl)
              · rw [hE] at h104
                exact step_off (wanted_off (t := 104) (u := false) rfl rfl rfl h104) (hK _ _ br (fun h => by rw [hE] at h; cases h))
            · intro _ _ a wq K hD hst hj ha hun hK
              obtain ⟨v105, h105, j105⟩ := hD.dep hj ha 13 105 rfl rfl
              replace j105 : (((st != 1) || !(ac))) = false → v105 = (.pointer (some ⟨g5, 3, none⟩)) := j105
              obtain ⟨v104, h104, j104⟩ := hD.dep hj ha 12 104 rfl rfl
              replace j104 : v104 = (.bool (((st != 1) || !(ac)))) := j104
              subst j104
              replace hst : Below _ _ wq := hst
              clear hD hj ha hun
              rcases hE : (((st != 1) || !(ac))) with _ | _
              · rw [hE] at h104
                obtain rfl := j105 hE
                have e105 := eval_of h105
                exact step_now (v := .int .u32 ak) (w' := wq) (wanted_on (t := 104) (u := false) rfl rfl rfl h104) (rg_load rfl e105 (blk_below Bg5_13.out hst) rfl Try.underlying33 rfl) (hK _ _ br (fun _ => rfl))
              · rw [hE] at h104
                exact step_off (wanted_off (t := 104) (u := false) rfl rfl rfl h104) (hK _ _ br (fun h => by rw [hE] at h; cases h))
            · intro _ _ a wq K hD hst hj ha hun hK
              obtain ⟨v104, h104, j104⟩ := hD.dep hj ha 12 104 rfl rfl
              replace j104 : v104 = (.bool (((st != 1) || !(ac)))) := j104
              subst j104
              have h3 := hD.out 3 rfl rfl
              clear hD hj ha hun
              rcases hE : (((st != 1) || !(ac))) with _ | _
              · rw [hE] at h104
                have e3 := eval_of h3
                refine step_now (v := .pointer (some ⟨g3, 1, none⟩)) (w' := wq) (wanted_on (t := 104) (u := false) rfl rfl rfl h104) ?_ (hK _ _ br (fun _ => rfl))
                clear hK
                first | (go_simp; done) | (go_simp; rfl)
              · rw [hE] at h104
                exact step_off (wanted_off (t := 104) (u := false) rfl rfl rfl h104) (hK _ _ br (fun h => by rw [hE] at h; cases h))
            · intro _ _ a wq K hD hst hj ha hun hK
              obtain ⟨v107, h107, j107⟩ := hD.dep hj ha 15 107 rfl rfl
              replace j107 : (((st != 1) || !(ac))) = false → v107 = (.pointer (some ⟨g3, 1, none⟩)) := j107
              obtain ⟨v104, h104, j104⟩ := hD.dep hj ha 12 104 rfl rfl
              replace j104 : v104 = (.bool (((st != 1) || !(ac)))) := j104
              subst j104
              clear hD hj ha hun
              rcases hE : (((st != 1) || !(ac))) with _ | _
              · rw [hE] at h104
                obtain rfl := j107 hE
                have e107 := eval_of h107
                refine step_now (v := .pointer (some ⟨g3, 2, none⟩)) (w' := wq) (wanted_on (t := 104) (u := false) rfl rfl rfl h104) ?_ (hK _ _ br (fun _ => rfl))
                clear hK
                first | (go_simp; done) | (go_simp; rfl)
              · rw [hE] at h104
                exact step_off (wanted_off (t := 104) (u := false) rfl rfl rfl h104) (hK _ _ br (fun h => by rw [hE] at h; cases h))
            · intro _ _ a wq K hD hst hj ha hun hK
              obtain ⟨v108, h108, j108⟩ := hD.dep hj ha 16 108 rfl rfl
              replace j108 : (((st != 1) || !(ac))) = false → v108 = (.pointer (some ⟨g3, 2, none⟩)) := j108
              obtain ⟨v104, h104, j104⟩ := hD.dep hj ha 12 104 rfl rfl
              replace j104 : v104 = (.bool (((st != 1) || !(ac)))) := j104
              subst j104
              replace hst : Below _ _ wq := hst
              clear hD hj ha hun
              rcases hE : (((st != 1) || !(ac))) with _ | _
              · rw [hE] at h104
                obtain rfl := j108 hE
                have e108 := eval_of h108
                exact step_now (v := .int .u32 e1) (w' := wq) (wanted_on (t := 104) (u := false) rfl rfl rfl h104) (rg_load rfl e108 (blk_below Bg3_13.out hst) rfl Try.underlying33 rfl) (hK _ _ br (fun _ => rfl))
              · rw [hE] at h104
                exact step_off (wanted_off (t := 104) (u := false) rfl rfl rfl h104) (hK _ _ br (fun h => by rw [hE] at h; cases h))
            · intro _ _ a wq K hD hst hj ha hun hK
              obtain ⟨v106, h106, j106⟩ := hD.dep hj ha 14 106 rfl rfl
              replace j106 : (((st != 1) || !(ac))) = false → v106 = (.int .u32 ak) := j106
              obtain ⟨v109, h109, j109⟩ := hD.dep hj ha 17 109 rfl rfl
              replace j109 : (((st != 1) || !(ac))) = false → v109 = (.int .u32 e1) := j109
              obtain ⟨v104, h104, j104⟩ := hD.dep hj ha 12 104 rfl rfl
              replace j104 : v104 = (.bool (((st != 1) || !(ac)))) := j104
              subst j104
              clear hD hj ha hun
              rcases hE : (((st != 1) || !(ac))) with _ | _
              · rw [hE] at h104
                obtain rfl := j106 hE
                obtain rfl := j109 hE
                have e106 := eval_of h106
                have e109 := eval_of h109
                refine step_now (v := .bool ((ak != e1))) (w' := wq) (wanted_on (t := 104) (u := false) rfl rfl rfl h104) ?_ (hK _ _ br (fun _ => rfl))
                clear hK
                first | (go_simp; done) | (go_simp; rfl)
              · rw [hE] at h104
                exact step_off (wanted_off (t := 104) (u := false) rfl rfl rfl h104) (hK _ _ br (fun h => by rw [hE] at h; cases h))
            · intro _ _ a wq K hD hst hj ha hun hK
              obtain ⟨v104, h104, j104⟩ := hD.dep hj ha 12 104 rfl rfl
              replace j104 : v104 = (.bool (((st != 1) || !(ac)))) := j104
              subst j104
              obtain ⟨v110, h110, j110⟩ := hD.dep hj ha 18 110 rfl rfl
              replace j110 : (((st != 1) || !(ac))) = false → v110 = (.bool ((ak != e1))) := j110
              clear hD hj ha hun
              rcases hE : (((st != 1) || !(ac))) with _ | _
              · rw [hE] at h104
                obtain rfl := j110 hE
                have e104 := eval_of h104
                have e110 := eval_of h110
                refine step_now (v := .bool ((((st != 1) || !(ac)) || (ak != e1)))) (w' := wq) (wanted_free rfl) ?_ (hK _ _ br rfl)
                rw [hE]
                clear hK
                first | (go_simp; done) | (go_simp; rfl) | (go_simp; (try simp only [IntKind.wrap_u32]); omega)
              · rw [hE] at h104
                have e104 := eval_of h104
                have e110 := eval_of h110
                refine step_now (v := .bool ((((st != 1) || !(ac)) || (ak != e1)))) (w' := wq) (wanted_free rfl) ?_ (hK _ _ br rfl)
                rw [hE]
                clear hK
                first | (go_simp; done) | (go_simp; rfl) | (go_simp; (try simp only [IntKind.wrap_u32]); omega)
          intro vals wend hst hj
          have j0 : vals 0 = (.bool true) := hj 0 (by decide)
          have j1 : vals 1 = (.bool false) := hj 1 (by decide)
          have j2 : vals 2 = (.bool false) := hj 2 (by decide)
          have j3 : vals 3 = (.pointer (some ⟨g3, 0, none⟩)) := hj 3 (by decide)
          have j4 : vals 4 = (.int .i64 st) := hj 4 (by decide)
          have j5 : vals 5 = (.bool ((st != 1))) := hj 5 (by decide)
          have j6 : vals 6 = (.bool ((st != 1))) := hj 6 (by decide)
          have j7 : vals 7 = (.bool ((st != 1))) := hj 7 (by decide)
          have j11 : vals 11 = (.bool (((st != 1) || !(ac)))) := hj 11 (by decide)
          have j12 : vals 12 = (.bool (((st != 1) || !(ac)))) := hj 12 (by decide)
          have j19 : vals 19 = (.bool ((((st != 1) || !(ac)) || (ak != e1)))) := hj 19 (by decide)
          replace hst : Below _ _ wend := hst
          clear hj
          rw [putAll_list]
          simp only [putL, Act.put, List.setIfInBounds_toArray, List.set_cons_zero, List.set_cons_succ, j0, j1, j2, j3, j4, j5, j6, j7, j11, j12, j19]
          clear j0 j1 j2 j3 j4 j5 j6 j7 j11 j12 j19
          generalize vals 8 = u100_
          generalize vals 9 = u101_
          generalize vals 10 = u102_
          generalize vals 13 = u105_
          generalize vals 14 = u106_
          generalize vals 15 = u107_
          generalize vals 16 = u108_
          generalize vals 17 = u109_
          generalize vals 18 = u110_
          have HB_14 := Aside0.mk (below_step HB_13.out hst)
          clear HB_13
          have Bg3_14 := Aside0.mk (blk_below Bg3_13.out hst)
          clear Bg3_13
          have Bg5_14 := Aside0.mk (blk_below Bg5_13.out hst)
          clear Bg5_13
          have Bg6_14 := Aside0.mk (blk_below Bg6_13.out hst)
          clear Bg6_13
          have Bg8_14 := Aside0.mk (blk_below Bg8_13.out hst)
          clear Bg8_13
          have Bg9_14 := Aside0.mk (blk_below Bg9_13.out hst)
          clear Bg9_13
          clear hst
          rcases hc4 : ((((st != 1) || !(ac)) || (ak != e1))) with _ | _
          · simp only [Bool.or_eq_false_iff, Bool.not_eq_false'] at hc4
            obtain ⟨⟨he1, he2⟩, he3⟩ := hc4
            subst he2
            go_upto_region 18 with (fail)
            refine wp_region_rg_list 9 (by kernel_rfl) (fun x y => Below x.heap.size x y) (fun (i : Nat) (v : Value) (w1 : World) => match i with | 0 => v = (.agg #[.int .i64 sp, .int .i64 dp, .int .u32 sq, .int .u32 ak, .int .i64 fl, .int .i64 wi, .int .i64 ty, .int .i64 co, .int .i64 he, .int .i64 da]) | 1 => v = (.int .u32 en) | 2 => v = (.agg #[.int .i64 sp, .int .i64 dp, .int .u32 sq, .int .u32 ak, .int .i64 fl, .int .i64 wi, .int .i64 ty, .int .i64 co, .int .i64 he, .int .i64 da]) | 3 => v = (.int .u32 en) | 4 => v = (.pointer (some ⟨g5, 5, none⟩)) | 5 => v = (.int .i64 wi) | 6 => v = (.int .u32 (wi % 4294967296)) | 7 => v = (.int .u32 ((en + wi) % 4294967296)) | 8 => v = (.agg #[.bool true, .int .u32 en, .int .u32 ((en + wi) % 4294967296), .bool false]) | _ => True) (by kernel_rfl) (by kernel_rfl) (by kernel_rfl) (by kernel_rfl) below_tr br.drew ?hJst11 ?hObl11 ?hEnd11
            case hJst11 =>
              intro i v wx wy hi hs0 hs1 hJi
              match i, hi with
              | 0, _ => exact hJi
              | 1, _ => exact hJi
              | 2, _ => exact hJi
              | 3, _ => exact hJi
              | 4, _ => exact hJi
              | 5, _ => exact hJi
              | 6, _ => exact hJi
              | 7, _ => exact hJi
              | 8, _ => exact hJi
              | _ + 9, hi => exact absurd hi (by simp)
            case hObl11 =>
              refine ⟨?_, ?_, ?_, ?_, ?_, ?_, ?_, ?_, ?_,  trivial⟩
              · intro _ _ a wq K hD hst hj ha hun hK
                have h5 := hD.out 5 rfl rfl
                replace hst : Below _ _ wq := hst
                clear hD hj ha hun
                have e5 := eval_of h5
                exact step_now (v := .agg #[.int .i64 sp, .int .i64 dp, .int .u32 sq, .int .u32 ak, .int .i64 fl, .int .i64 wi, .int .i64 ty, .int .i64 co, .int .i64 he, .int .i64 da]) (w' := wq) (wanted_free rfl) (rg_loadall rfl e5 (blk_below Bg5_14.out hst) Try.underlying52 rfl (by kernel_rfl)) (hK _ _ br rfl)
              · intro _ _ a wq K hD hst hj ha hun hK
                obtain ⟨v113, h113, j113⟩ := hD.dep hj ha 0 113 rfl rfl
                replace j113 : v113 = (.agg #[.int .i64 sp, .int .i64 dp, .int .u32 sq, .int .u32 ak, .int .i64 fl, .int .i64 wi, .int .i64 ty, .int .i64 co, .int .i64 he, .int .i64 da]) := j113
                subst j113
                clear hD hj ha hun
                have e113 := eval_of h113
                refine step_call (f := 47) (args := #[.agg #[.int .i64 sp, .int .i64 dp, .int .u32 sq, .int .u32 ak, .int .i64 fl, .int .i64 wi, .int .i64 ty, .int .i64 co, .int .i64 he, .int .i64 da]]) (wanted_free rfl) ?_ (end_as sp dp sq ak fl wi ty co he da en wq FE.out) ?_
                · clear hK; first | (go_simp; done) | (go_simp; rfl)
                · rintro e w' ⟨rfl, hbq⟩; exact ⟨_, rfl, hK _ _ hbq rfl⟩
              · intro _ _ a wq K hD hst hj ha hun hK
                have h5 := hD.out 5 rfl rfl
                replace hst : Below _ _ wq := hst
                clear hD hj ha hun
                have e5 := eval_of h5
                exact step_now (v := .agg #[.int .i64 sp, .int .i64 dp, .int .u32 sq, .int .u32 ak, .int .i64 fl, .int .i64 wi, .int .i64 ty, .int .i64 co, .int .i64 he, .int .i64 da]) (w' := wq) (wanted_free rfl) (rg_loadall rfl e5 (blk_below Bg5_14.out hst) Try.underlying52 rfl (by kernel_rfl)) (hK _ _ br rfl)
              · intro _ _ a wq K hD hst hj ha hun hK
                obtain ⟨v115, h115, j115⟩ := hD.dep hj ha 2 115 rfl rfl
                replace j115 : v115 = (.agg #[.int .i64 sp, .int .i64 dp, .int .u32 sq, .int .u32 ak, .int .i64 fl, .int .i64 wi, .int .i64 ty, .int .i64 co, .int .i64 he, .int .i64 da]) := j115
                subst j115
                clear hD hj ha hun
                have e115 := eval_of h115
                refine step_call (f := 47) (args := #[.agg #[.int .i64 sp, .int .i64 dp, .int .u32 sq, .int .u32 ak, .int .i64 fl, .int .i64 wi, .int .i64 ty, .int .i64 co, .int .i64 he, .int .i64 da]]) (wanted_free rfl) ?_ (end_as sp dp sq ak fl wi ty co he da en wq FE.out) ?_
                · clear hK; first | (go_simp; done) | (go_simp; rfl)
                · rintro e w' ⟨rfl, hbq⟩; exact ⟨_, rfl, hK _ _ hbq rfl⟩
              · intro _ _ a wq K hD hst hj ha hun hK
                have h5 := hD.out 5 rfl rfl
                clear hD hj ha hun
                have e5 := eval_of h5
                refine step_now (v := .pointer (some ⟨g5, 5, none⟩)) (w' := wq) (wanted_free rfl) ?_ (hK _ _ br rfl)
                clear hK
                first | (go_simp; done) | (go_simp; rfl)
              · intro _ _ a wq K hD hst hj ha hun hK
                obtain ⟨v117, h117, j117⟩ := hD.dep hj ha 4 117 rfl rfl
                replace j117 : v117 = (.pointer (some ⟨g5, 5, none⟩)) := j117
                subst j117
                replace hst : Below _ _ wq := hst
                clear hD hj ha hun
                have e117 := eval_of h117
                exact step_now (v := .int .i64 wi) (w' := wq) (wanted_free rfl) (rg_load rfl e117 (blk_below Bg5_14.out hst) rfl Try.underlying3 rfl) (hK _ _ br rfl)
              · intro _ _ a wq K hD hst hj ha hun hK
                obtain ⟨v118, h118, j118⟩ := hD.dep hj ha 5 118 rfl rfl
                replace j118 : v118 = (.int .i64 wi) := j118
                subst j118
                clear hD hj ha hun
                have e118 := eval_of h118
                refine step_now (v := .int .u32 (wi % 4294967296)) (w' := wq) (wanted_free rfl) ?_ (hK _ _ br rfl)
                clear hK
                first | (go_simp; done) | (go_simp; rfl) | (go_simp; (try simp only [IntKind.wrap_u32]); omega)
              · intro _ _ a wq K hD hst hj ha hun hK
                obtain ⟨v116, h116, j116⟩ := hD.dep hj ha 3 116 rfl rfl
                replace j116 : v116 = (.int .u32 en) := j116
                subst j116
                obtain ⟨v119, h119, j119⟩ := hD.dep hj ha 6 119 rfl rfl
                replace j119 : v119 = (.int .u32 (wi % 4294967296)) := j119
                subst j119
                clear hD hj ha hun
                have e116 := eval_of h116
                have e119 := eval_of h119
                refine step_now (v := .int .u32 ((en + wi) % 4294967296)) (w' := wq) (wanted_free rfl) ?_ (hK _ _ br rfl)
                clear hK
                first | (go_simp; done) | (go_simp; rfl) | (go_simp; (try simp only [IntKind.wrap_u32]); omega)
              · intro _ _ a wq K hD hst hj ha hun hK
                obtain ⟨v114, h114, j114⟩ := hD.dep hj ha 1 114 rfl rfl
                replace j114 : v114 = (.int .u32 en) := j114
                subst j114
                obtain ⟨v120, h120, j120⟩ := hD.dep hj ha 7 120 rfl rfl
                replace j120 : v120 = (.int .u32 ((en + wi) % 4294967296)) := j120
                subst j120
                clear hD hj ha hun
                have e114 := eval_of h114
                have e120 := eval_of h120
                refine step_now (v := .agg #[.bool true, .int .u32 en, .int .u32 ((en + wi) % 4294967296), .bool false]) (w' := wq) (wanted_free rfl) ?_ (hK _ _ br rfl)
                clear hK
                first | (go_simp; done) | (go_simp; rfl)
            intro vals wend hst hj
            have j0 : vals 0 = (.agg #[.int .i64 sp, .int .i64 dp, .int .u32 sq, .int .u32 ak, .int .i64 fl, .int .i64 wi, .int .i64 ty, .int .i64 co, .int .i64 he, .int .i64 da]) := hj 0 (by decide)
            have j1 : vals 1 = (.int .u32 en) := hj 1 (by decide)
            have j2 : vals 2 = (.agg #[.int .i64 sp, .int .i64 dp, .int .u32 sq, .int .u32 ak, .int .i64 fl, .int .i64 wi, .int .i64 ty, .int .i64 co, .int .i64 he, .int .i64 da]) := hj 2 (by decide)
            have j3 : vals 3 = (.int .u32 en) := hj 3 (by decide)
            have j4 : vals 4 = (.pointer (some ⟨g5, 5, none⟩)) := hj 4 (by decide)
            have j5 : vals 5 = (.int .i64 wi) := hj 5 (by decide)
            have j6 : vals 6 = (.int .u32 (wi % 4294967296)) := hj 6 (by decide)
            have j7 : vals 7 = (.int .u32 ((en + wi) % 4294967296)) := hj 7 (by decide)
            have j8 : vals 8 = (.agg #[.bool true, .int .u32 en, .int .u32 ((en + wi) % 4294967296), .bool false]) := hj 8 (by decide)
            replace hst : Below _ _ wend := hst
            clear hj
            simp only [List.take_succ_cons, List.take_zero, List.drop_succ_cons, List.drop_zero, putL, Act.put, List.setIfInBounds_toArray, List.set_cons_zero, List.set_cons_succ, j0, j1, j2, j3, j4, j5, j6, j7, j8]
            clear j0 j1 j2 j3 j4 j5 j6 j7 j8
            have HB_15 := Aside0.mk (below_step HB_14.out hst)
            clear HB_14
            have Bg3_15 := Aside0.mk (blk_below Bg3_14.out hst)
            clear Bg3_14
            have Bg5_15 := Aside0.mk (blk_below Bg5_14.out hst)
            clear Bg5_14
            have Bg6_15 := Aside0.mk (blk_below Bg6_14.out hst)
            clear Bg6_14
            have Bg8_15 := Aside0.mk (blk_below Bg8_14.out hst)
            clear Bg8_14
            have Bg9_15 := Aside0.mk (blk_below Bg9_14.out hst)
            clear Bg9_14
            clear hst
            cases s1
            · go_wp2_with (first | ((with_reducible refine gate_store (t := 46) (p := 8) rfl ?_); refine store_event rfl 46 _ _ rfl g8 _ rfl rfl _ _ Bg8_15.out (by kernel_rfl) rfl rfl ?_; intro wx16 hst hu; have HB_16 := Aside0.mk (below_upd HB_15.out hu (below_size HB_15.out) (fun k hk => by cases hk; exact Lg8.out)); clear HB_15; have Bg3_16 := Aside0.mk (Upd.blk hu Bg3_15.out (One.not Ng3g8.out)); clear Bg3_15; have Bg5_16 := Aside0.mk (Upd.blk hu Bg5_15.out (One.not Ng5g8.out)); clear Bg5_15; have Bg6_16 := Aside0.mk (Upd.blk hu Bg6_15.out (One.not Ng6g8.out)); clear Bg6_15; have Bg9_16 := Aside0.mk (Upd.blk hu Bg9_15.out (One.not (Ne.symm Ng8g9.out))); clear Bg9_15; have Bg8_16 := Aside0.mk hst; clear hst hu Bg8_15) | ((with_reducible refine gate_dst (N := 123) rfl ?_); refine load1_event rfl _ _ rfl g9 0 rfl _ _ _ _ Bg9_16.out rfl Try.underlying4 rfl ?_) | ((with_reducible refine gate_dst (N := 134) rfl ?_); refine load_event rfl 46 _ rfl g9 rfl _ _ _ Bg9_16.out Try.underlying46 rfl (by kernel_rfl) ?_) | ((with_reducible refine gate_dst (N := 135) rfl ?_); refine load_event rfl 46 _ rfl g8 rfl _ _ _ Bg8_16.out Try.underlying46 rfl (by kernel_rfl) ?_) | ((with_reducible refine gate_store (t := 48) (p := 6) rfl ?_); refine store_event rfl 48 _ _ rfl g6 _ rfl rfl _ _ Bg6_16.out (by kernel_rfl) rfl rfl ?_; intro wx17 hst hu; have HB_17 := Aside0.mk (below_upd HB_16.out hu (below_size HB_16.out) (fun k hk => by cases hk; exact Lg6.out)); clear HB_16; have Bg3_17 := Aside0.mk (Upd.blk hu Bg3_16.out (One.not Ng3g6.out)); clear Bg3_16; have Bg5_17 := Aside0.mk (Upd.blk hu Bg5_16.out (One.not Ng5g6.out)); clear Bg5_16; have Bg8_17 := Aside0.mk (Upd.blk hu Bg8_16.out (One.not (Ne.symm Ng6g8.out))); clear Bg8_16; have Bg9_17 := Aside0.mk (Upd.blk hu Bg9_16.out (One.not (Ne.symm Ng6g9.out))); clear Bg9_16; have Bg6_17 := Aside0.mk hst; clear hst hu Bg6_16))
              refine bodyPost_ret (results_ct rfl _ _ g6 48 #[.int .i64 2, .bool false, .int .u32 e1, .int .u32 m1, .bool f1, .bool true, .int .u32 en, .int .u32 ((en + wi) % 4294967296), .bool false] (0, 0) _ rfl Bg6_17.out Try.underlying48 rfl (by kernel_rfl)) rfl (nextPost_mk (⟨2, ⟨false, e1, m1, f1⟩, ⟨true, en, ((en + wi) % 4294967296), false⟩⟩, true) ?_ HB_17.out)
              simp only [next, synced, F2.out, F1.out, F4.out, F16.out, FE.out]
              simp only [hc0, hc1, hc2, hd1, hd2, hd3, he1, he3, Bool.false_eq_true, if_false, if_true, reduceIte]
              all_goals first | (simp only [hc0, hc1, hc2, hd1, hd2, hd3, he1, he3, Bool.false_eq_true, if_true, if_false, Bool.not_true, Bool.not_false, Bool.and_true, Bool.and_false, Bool.true_and, Bool.false_and, Bool.or_false, Bool.false_or, Bool.or_true, Bool.true_or, reduceIte]; done) | (simp [hc0, hc1, hc2, hd1, hd2, hd3, he1, he3]; done) | (simp [grant, hc0, hc1, hc2, hd1, hd2, hd3, he1, he3]; done)
            go_wp2_with (first | ((with_reducible refine gate_store (t := 46) (p := 8) rfl ?_); refine store_event rfl 46 _ _ rfl g8 _ rfl rfl _ _ Bg8_15.out (by kernel_rfl) rfl rfl ?_; intro wx16 hst hu; have HB_16 := Aside0.mk (below_upd HB_15.out hu (below_size HB_15.out) (fun k hk => by cases hk; exact Lg8.out)); clear HB_15; have Bg3_16 := Aside0.mk (Upd.blk hu Bg3_15.out (One.not Ng3g8.out)); clear Bg3_15; have Bg5_16 := Aside0.mk (Upd.blk hu Bg5_15.out (One.not Ng5g8.out)); clear Bg5_15; have Bg6_16 := Aside0.mk (Upd.blk hu Bg6_15.out (One.not Ng6g8.out)); clear Bg6_15; have Bg9_16 := Aside0.mk (Upd.blk hu Bg9_15.out (One.not (Ne.symm Ng8g9.out))); clear Bg9_15; have Bg8_16 := Aside0.mk hst; clear hst hu Bg8_15) | ((with_reducible refine gate_dst (N := 123) rfl ?_); refine load1_event rfl _ _ rfl g9 0 rfl _ _ _ _ Bg9_16.out rfl Try.underlying4 rfl ?_) | ((with_reducible refine gate_dst (N := 125) rfl ?_); refine load1_event rfl _ _ rfl g9 2 rfl _ _ _ _ Bg9_16.out rfl Try.underlying33 rfl ?_) | ((with_reducible refine gate_dst (N := 127) rfl ?_); refine load1_event rfl _ _ rfl g5 3 rfl _ _ _ _ Bg5_16.out rfl Try.underlying33 rfl ?_) | ((with_reducible refine gate_dst (N := 129) rfl ?_); refine load1_event rfl _ _ rfl g5 5 rfl _ _ _ _ Bg5_16.out rfl Try.underlying3 rfl ?_) | (go_at_call 48; refine (greater_any m1 ((ak + wi) % 4294967296) _).mono ?_; rintro e w_ ⟨rfl, rfl⟩) | ((with_reducible refine gate_store (t := 33) (p := 133) rfl ?_); refine store1_event rfl _ _ _ rfl g9 2 rfl (.int .u32 (later m1 ((ak + wi) % 4294967296))) _ ?hy _ _ #[.bool true, .int .u32 e1, .int .u32 (later m1 ((ak + wi) % 4294967296)), .bool f1] Bg9_16.out rfl (by kernel_rfl) rfl rfl rfl ?_; (case hy => first | (with_reducible rfl) | rfl | (refine congrArg (Value.int _) ?_; omega)); intro wx17 hst hu; have HB_17 := Aside0.mk (below_upd HB_16.out hu (below_size HB_16.out) (fun k hk => by cases hk; exact Lg9.out)); clear HB_16; have Bg3_17 := Aside0.mk (Upd.blk hu Bg3_16.out (One.not Ng3g9.out)); clear Bg3_16; have Bg5_17 := Aside0.mk (Upd.blk hu Bg5_16.out (One.not Ng5g9.out)); clear Bg5_16; have Bg6_17 := Aside0.mk (Upd.blk hu Bg6_16.out (One.not Ng6g9.out)); clear Bg6_16; have Bg8_17 := Aside0.mk (Upd.blk hu Bg8_16.out (One.not Ng8g9.out)); clear Bg8_16; have Bg9_17 := Aside0.mk hst; clear hst hu Bg9_16) | ((with_reducible refine gate_dst (N := 134) rfl ?_); refine load_event rfl 46 _ rfl g9 rfl _ _ _ Bg9_17.out Try.underlying46 rfl (by kernel_rfl) ?_) | ((with_reducible refine gate_dst (N := 135) rfl ?_); refine load_event rfl 46 _ rfl g8 rfl _ _ _ Bg8_17.out Try.underlying46 rfl (by kernel_rfl) ?_) | ((with_reducible refine gate_store (t := 48) (p := 6) rfl ?_); refine store_event rfl 48 _ _ rfl g6 _ rfl rfl _ _ Bg6_17.out (by kernel_rfl) rfl rfl ?_; intro wx18 hst hu; have HB_18 := Aside0.mk (below_upd HB_17.out hu (below_size HB_17.out) (fun k hk => by cases hk; exact Lg6.out)); clear HB_17; have Bg3_18 := Aside0.mk (Upd.blk hu Bg3_17.out (One.not Ng3g6.out)); clear Bg3_17; have Bg5_18 := Aside0.mk (Upd.blk hu Bg5_17.out (One.not Ng5g6.out)); clear Bg5_17; have Bg8_18 := Aside0.mk (Upd.blk hu Bg8_17.out (One.not (Ne.symm Ng6g8.out))); clear Bg8_17; have Bg9_18 := Aside0.mk (Upd.blk hu Bg9_17.out (One.not (Ne.symm Ng6g9.out))); clear Bg9_17; have Bg6_18 := Aside0.mk hst; clear hst hu Bg6_17))
            refine bodyPost_ret (results_ct rfl _ _ g6 48 #[.int .i64 2, .bool true, .int .u32 e1, .int .u32 (later m1 ((ak + wi) % 4294967296)), .bool f1, .bool true, .int .u32 en, .int .u32 ((en + wi) % 4294967296), .bool false] (0, 0) _ rfl Bg6_18.out Try.underlying48 rfl (by kernel_rfl)) rfl (nextPost_mk (⟨2, ⟨true, e1, (later m1 ((ak + wi) % 4294967296)), f1⟩, ⟨true, en, ((en + wi) % 4294967296), false⟩⟩, true) ?_ HB_18.out)
            simp only [next, synced, F2.out, F1.out, F4.out, F16.out, FE.out]
            simp only [hc0, hc1, hc2, hd1, hd2, hd3, he1, he3, Bool.false_eq_true, if_false, if_true, reduceIte]
            all_goals first | (simp only [hc0, hc1, hc2, hd1, hd2, hd3, he1, he3, Bool.false_eq_true, if_true, if_false, Bool.not_true, Bool.not_false, Bool.and_true, Bool.and_false, Bool.true_and, Bool.false_and, Bool.or_false, Bool.false_or, Bool.or_true, Bool.true_or, reduceIte]; done) | (simp [hc0, hc1, hc2, hd1, hd2, hd3, he1, he3]; done) | (simp [grant, hc0, hc1, hc2, hd1, hd2, hd3, he1, he3]; done)
          go_wp2_with (first | ((with_reducible refine gate_dst (N := 112) rfl ?_); refine load_event rfl 48 _ rfl g3 rfl _ _ _ Bg3_14.out Try.underlying48 rfl (by kernel_rfl) ?_) | ((with_reducible refine gate_store (t := 48) (p := 6) rfl ?_); refine store_event rfl 48 _ _ rfl g6 _ rfl rfl _ _ Bg6_14.out (by kernel_rfl) rfl rfl ?_; intro wx15 hst hu; have HB_15 := Aside0.mk (below_upd HB_14.out hu (below_size HB_14.out) (fun k hk => by cases hk; exact Lg6.out)); clear HB_14; have Bg3_15 := Aside0.mk (Upd.blk hu Bg3_14.out (One.not Ng3g6.out)); clear Bg3_14; have Bg5_15 := Aside0.mk (Upd.blk hu Bg5_14.out (One.not Ng5g6.out)); clear Bg5_14; have Bg8_15 := Aside0.mk (Upd.blk hu Bg8_14.out (One.not (Ne.symm Ng6g8.out))); clear Bg8_14; have Bg9_15 := Aside0.mk (Upd.blk hu Bg9_14.out (One.not (Ne.symm Ng6g9.out))); clear Bg9_14; have Bg6_15 := Aside0.mk hst; clear hst hu Bg6_14))
          refine bodyPost_ret (results_ct rfl _ _ g6 48 #[.int .i64 st, .bool s1, .int .u32 e1, .int .u32 m1, .bool f1, .bool false, .int .u32 e2, .int .u32 m2, .bool f2] (0, 0) _ rfl Bg6_15.out Try.underlying48 rfl (by kernel_rfl)) rfl (nextPost_mk (⟨st, ⟨s1, e1, m1, f1⟩, ⟨false, e2, m2, f2⟩⟩, false) ?_ HB_15.out)
          simp only [next, synced, F2.out, F1.out, F4.out, F16.out, FE.out]
          simp only [hc0, hc1, hc2, hd1, hd2, hd3, hc4, Bool.false_eq_true, if_false, if_true, reduceIte]
          all_goals first | (simp only [hc0, hc1, hc2, hd1, hd2, hd3, hc4, Bool.false_eq_true, if_true, if_false, Bool.not_true, Bool.not_false, Bool.and_true, Bool.and_false, Bool.true_and, Bool.false_and, Bool.or_false, Bool.false_or, Bool.or_true, Bool.true_or, reduceIte]; done) | (simp [hc0, hc1, hc2, hd1, hd2, hd3, hc4]; done) | (simp [grant, hc0, hc1, hc2, hd1, hd2, hd3, hc4]; done) | (rcases hq : (st != 1) with _ | _ <;> cases ac <;> simp_all; done)
        go_upto_region 15 with (first | ((with_reducible refine gate_dst (N := 75) rfl ?_); refine load1_event rfl _ _ rfl g8 0 rfl _ _ _ _ Bg8_13.out rfl Try.underlying4 rfl ?_))
        refine wp_region_rg (by kernel_rfl) (StPut g6 (.cells #[.int .i64 st, .bool s1, .int .u32 e1, .int .u32 m1, .bool f1, .bool true, .int .u32 e2, .int .u32 m2, .bool f2] 48 (0, 0))) (fun (i : Nat) (v : Value) (w1 : World) => match i with | 0 => v = (.agg #[.int .i64 st, .bool s1, .int .u32 e1, .int .u32 m1, .bool f1, .bool true, .int .u32 e2, .int .u32 m2, .bool f2]) | 1 => v = (.agg #[.int .i64 sp, .int .i64 dp, .int .u32 sq, .int .u32 ak, .int .i64 fl, .int .i64 wi, .int .i64 ty, .int .i64 co, .int .i64 he, .int .i64 da]) | 2 => v = (.int .u32 en) | 3 => v = (.pointer (some ⟨g8, 1, none⟩)) | 4 => v = (.int .u32 e2) | 5 => v = (.bool ((en == e2))) | 6 => v = (.bool ((en == e2))) | 7 => ((en == e2)) = true → v = (.pointer (some ⟨g3, 0, none⟩)) | 8 => ((en == e2)) = true → v = (.int .i64 st) | 9 => ((en == e2)) = true → v = (.bool ((st == 1))) | 10 => (((en == e2)) = true → v = (.bool ((st == 1)))) ∧ (((en == e2)) = false → v = undef) | 11 => ((((en == e2) == true) && (((st == 1)) == false))) = true → v = (.pointer (some ⟨g3, 0, none⟩)) | 12 => ((((en == e2) == true) && (((st == 1)) == false))) = true → v = (.int .i64 st) | 13 => ((((en == e2) == true) && (((st == 1)) == false))) = true → v = (.bool ((st == 2))) | 14 => ((en == e2)) = true → v = (.bool (((st == 1) || (st == 2)))) | 15 => v = (.bool (((en == e2) && ((st == 1) || (st == 2))))) | 16 => w1.heap[g6]? = some (.cells #[.int .i64 st, .bool s1, .int .u32 e1, .int .u32 m1, .bool f1, .bool true, .int .u32 e2, .int .u32 m2, .bool f2] 48 (0, 0)) | 17 => v = (.bool (((en == e2) && ((st == 1) || (st == 2))))) | _ => True) (by kernel_rfl) (by kernel_rfl) (stput_tr _ _) (stput_drew _ _ _) ?hJst12 (obl_list ?hObl12) ?hEnd12
        case hJst12 =>
          intro i v wx wy hi hs0 hs1 hJi
          match i, hi with
          | 0, _ => exact hJi
          | 1, _ => exact hJi
          | 2, _ => exact hJi
          | 3, _ => exact hJi
          | 4, _ => exact hJi
          | 5, _ => exact hJi
          | 6, _ => exact hJi
          | 7, _ => exact hJi
          | 8, _ => exact hJi
          | 9, _ => exact hJi
          | 10, _ => exact hJi
          | 11, _ => exact hJi
          | 12, _ => exact hJi
          | 13, _ => exact hJi
          | 14, _ => exact hJi
          | 15, _ => exact hJi
          | 16, _ => replace hJi : (fun (v : Value) (w1 : World) => w1.heap[g6]? = some (.cells #[.int .i64 st, .bool s1, .int .u32 e1, .int .u32 m1, .bool f1, .bool true, .int .u32 e2, .int .u32 m2, .bool f2] 48 (0, 0))) v wx := hJi; exact (stput_keep hs1 hJi)
          | 17, _ => exact hJi
          | _ + 18, hi => exact absurd hi (by simp)
        case hObl12 =>
          refine ⟨?_, ?_, ?_, ?_, ?_, ?_, ?_, ?_, ?_, ?_, ?_, ?_, ?_, ?_, ?_, ?_, ?_, ?_,  trivial⟩
          · intro _ _ a wq K hD hst hj ha hun hK
            have h3 := hD.out 3 rfl rfl
            replace hst : StPut g6 (.cells #[.int .i64 st, .bool s1, .int .u32 e1, .int .u32 m1, .bool f1, .bool true, .int .u32 e2, .int .u32 m2, .bool f2] 48 (0, 0)) _ wq := hst
            clear hD hj ha hun
            have e3 := eval_of h3
            exact step_now (v := .agg #[.int .i64 st, .bool s1, .int .u32 e1, .int .u32 m1, .bool f1, .bool true, .int .u32 e2, .int .u32 m2, .bool f2]) (w' := wq) (wanted_free rfl) (rg_loadall rfl e3 (Upd.blk hst.1 Bg3_13.out (One.not Ng3g6.out)) Try.underlying48 rfl (by kernel_rfl)) (hK _ _ (stput_refl _ _ _) rfl)
          · intro _ _ a wq K hD hst hj ha hun hK
            have h5 := hD.out 5 rfl rfl
            replace hst : StPut g6 (.cells #[.int .i64 st, .bool s1, .int .u32 e1, .int .u32 m1, .bool f1, .bool true, .int .u32 e2, .int .u32 m2, .bool f2] 48 (0, 0)) _ wq := hst
            clear hD hj ha hun
            have e5 := eval_of h5
            exact step_now (v := .agg #[.int .i64 sp, .int .i64 dp, .int .u32 sq, .int .u32 ak, .int .i64 fl, .int .i64 wi, .int .i64 ty, .int .i64 co, .int .i64 he, .int .i64 da]) (w' := wq) (wanted_free rfl) (rg_loadall rfl e5 (Upd.blk hst.1 Bg5_13.out (One.not Ng5g6.out)) Try.underlying52 rfl (by kernel_rfl)) (hK _ _ (stput_refl _ _ _) rfl)
          · intro _ _ a wq K hD hst hj ha hun hK
            obtain ⟨v77, h77, j77⟩ := hD.dep hj ha 1 77 rfl rfl
            replace j77 : v77 = (.agg #[.int .i64 sp, .int .i64 dp, .int .u32 sq, .int .u32 ak, .int .i64 fl, .int .i64 wi, .int .i64 ty, .int .i64 co, .int .i64 he, .int .i64 da]) := j77
            subst j77
            replace hst : StPut g6 (.cells #[.int .i64 st, .bool s1, .int .u32 e1, .int .u32 m1, .bool f1, .bool true, .int .u32 e2, .int .u32 m2, .bool f2] 48 (0, 0)) _ wq := hst
            clear hD hj ha hun
            have e77 := eval_of h77
            refine step_call (f := 47) (args := #[.agg #[.int .i64 sp, .int .i64 dp, .int .u32 sq, .int .u32 ak, .int .i64 fl, .int .i64 wi, .int .i64 ty, .int .i64 co, .int .i64 he, .int .i64 da]]) (wanted_free rfl) ?_ (end_as sp dp sq ak fl wi ty co he da en wq FE.out) ?_
            · clear hK; first | (go_simp; done) | (go_simp; rfl)
            · rintro e w' ⟨rfl, hbq⟩; exact ⟨_, rfl, hK _ _ (stput_below Bg6_13.out hst hbq) rfl⟩
          · intro _ _ a wq K hD hst hj ha hun hK
            have h8 := hD.out 8 rfl rfl
            clear hD hj ha hun
            have e8 := eval_of h8
            refine step_now (v := .pointer (some ⟨g8, 1, none⟩)) (w' := wq) (wanted_free rfl) ?_ (hK _ _ (stput_refl _ _ _) rfl)
            clear hK
            first | (go_simp; done) | (go_simp; rfl)
          · intro _ _ a wq K hD hst hj ha hun hK
            obtain ⟨v79, h79, j79⟩ := hD.dep hj ha 3 79 rfl rfl
            replace j79 : v79 = (.pointer (some ⟨g8, 1, none⟩)) := j79
            subst j79
            replace hst : StPut g6 (.cells #[.int .i64 st, .bool s1, .int .u32 e1, .int .u32 m1, .bool f1, .bool true, .int .u32 e2, .int .u32 m2, .bool f2] 48 (0, 0)) _ wq := hst
            clear hD hj ha hun
            have e79 := eval_of h79
            exact step_now (v := .int .u32 e2) (w' := wq) (wanted_free rfl) (rg_load rfl e79 (Upd.blk hst.1 Bg8_13.out (One.not (Ne.symm Ng6g8.out))) rfl Try.underlying33 rfl) (hK _ _ (stput_refl _ _ _) rfl)
          · intro _ _ a wq K hD hst hj ha hun hK
            obtain ⟨v78, h78, j78⟩ := hD.dep hj ha 2 78 rfl rfl
            replace j78 : v78 = (.int .u32 en) := j78
            subst j78
            obtain ⟨v80, h80, j80⟩ := hD.dep hj ha 4 80 rfl rfl
            replace j80 : v80 = (.int .u32 e2) := j80
            subst j80
            clear hD hj ha hun
            have e78 := eval_of h78
            have e80 := eval_of h80
            refine step_now (v := .bool ((en == e2))) (w' := wq) (wanted_free rfl) ?_ (hK _ _ (stput_refl _ _ _) rfl)
            clear hK
            first | (go_simp; done) | (go_simp; rfl)
          · intro _ _ a wq K hD hst hj ha hun hK
            obtain ⟨v81, h81, j81⟩ := hD.dep hj ha 5 81 rfl rfl
            replace j81 : v81 = (.bool ((en == e2))) := j81
            subst j81
            clear hD hj ha hun
            have e81 := eval_of h81
            refine step_now (v := .bool ((en == e2))) (w' := wq) (wanted_free rfl) ?_ (hK _ _ (stput_refl _ _ _) rfl)
            clear hK
            first | (go_simp; done) | (go_simp; rfl)
          · intro _ _ a wq K hD hst hj ha hun hK
            obtain ⟨v82, h82, j82⟩ := hD.dep hj ha 6 82 rfl rfl
            replace j82 : v82 = (.bool ((en == e2))) := j82
            subst j82
            have h3 := hD.out 3 rfl rfl
            clear hD hj ha hun
            rcases hE : ((en == e2)) with _ | _
            · rw [hE] at h82
              exact step_off (wanted_off (t := 82) (u := true) rfl rfl rfl h82) (hK _ _ (stput_refl _ _ _) (fun h => by rw [hE] at h; cases h))
            · rw [hE] at h82
              have e3 := eval_of h3
              refine step_now (v := .pointer (some ⟨g3, 0, none⟩)) (w' := wq) (wanted_on (t := 82) (u := true) rfl rfl rfl h82) ?_ (hK _ _ (stput_refl _ _ _) (fun _ => rfl))
              clear hK
              first | (go_simp; done) | (go_simp; rfl)
          · intro _ _ a wq K hD hst hj ha hun hK
            obtain ⟨v83, h83, j83⟩ := hD.dep hj ha 7 83 rfl rfl
            replace j83 : ((en == e2)) = true → v83 = (.pointer (some ⟨g3, 0, none⟩)) := j83
            obtain ⟨v82, h82, j82⟩ := hD.dep hj ha 6 82 rfl rfl
            replace j82 : v82 = (.bool ((en == e2))) := j82
            subst j82
            replace hst : StPut g6 (.cells #[.int .i64 st, .bool s1, .int .u32 e1, .int .u32 m1, .bool f1, .bool true, .int .u32 e2, .int .u32 m2, .bool f2] 48 (0, 0)) _ wq := hst
            clear hD hj ha hun
            rcases hE : ((en == e2)) with _ | _
            · rw [hE] at h82
              exact step_off (wanted_off (t := 82) (u := true) rfl rfl rfl h82) (hK _ _ (stput_refl _ _ _) (fun h => by rw [hE] at h; cases h))
            · rw [hE] at h82
              obtain rfl := j83 hE
              have e83 := eval_of h83
              exact step_now (v := .int .i64 st) (w' := wq) (wanted_on (t := 82) (u := true) rfl rfl rfl h82) (rg_load rfl e83 (Upd.blk hst.1 Bg3_13.out (One.not Ng3g6.out)) rfl Try.underlying3 rfl) (hK _ _ (stput_refl _ _ _) (fun _ => rfl))
          · intro _ _ a wq K hD hst hj ha hun hK
            obtain ⟨v84, h84, j84⟩ := hD.dep hj ha 8 84 rfl rfl
            replace j84 : ((en == e2)) = true → v84 = (.int .i64 st) := j84
            obtain ⟨v82, h82, j82⟩ := hD.dep hj ha 6 82 rfl rfl
            replace j82 : v82 = (.bool ((en == e2))) := j82
            subst j82
            clear hD hj ha hun
            rcases hE : ((en == e2)) with _ | _
            · rw [hE] at h82
              exact step_off (wanted_off (t := 82) (u := true) rfl rfl rfl h82) (hK _ _ (stput_refl _ _ _) (fun h => by rw [hE] at h; cases h))
            · rw [hE] at h82
              obtain rfl := j84 hE
              have e84 := eval_of h84
              refine step_now (v := .bool ((st == 1))) (w' := wq) (wanted_on (t := 82) (u := true) rfl rfl rfl h82) ?_ (hK _ _ (stput_refl _ _ _) (fun _ => rfl))
              clear hK
              first | (go_simp; done) | (go_simp; rfl)
          · intro _ _ a wq K hD hst hj ha hun hK
            obtain ⟨v85, h85, j85⟩ := hD.dep hj ha 9 85 rfl rfl
            replace j85 : ((en == e2)) = true → v85 = (.bool ((st == 1))) := j85
            obtain ⟨v82, h82, j82⟩ := hD.dep hj ha 6 82 rfl rfl
            replace j82 : v82 = (.bool ((en == e2))) := j82
            subst j82
            clear hD hj ha hun
            rcases hE : ((en == e2)) with _ | _
            · rw [hE] at h82
              exact step_off (wanted_off (t := 82) (u := true) rfl rfl rfl h82) (hK _ _ (stput_refl _ _ _) ⟨(fun h => by rw [hE] at h; cases h), fun _ => rfl⟩)
            · rw [hE] at h82
              obtain rfl := j85 hE
              have e85 := eval_of h85
              refine step_now (v := .bool ((st == 1))) (w' := wq) (wanted_on (t := 82) (u := true) rfl rfl rfl h82) ?_ (hK _ _ (stput_refl _ _ _) ⟨(fun _ => rfl), (fun h => by rw [hE] at h; cases h)⟩)
              clear hK
              first | (go_simp; done) | (go_simp; rfl)
          · intro _ _ a wq K hD hst hj ha hun hK
            obtain ⟨v86, h86, j86⟩ := hD.dep hj ha 10 86 rfl rfl
            replace j86 : (((en == e2)) = true → v86 = (.bool ((st == 1)))) ∧ (((en == e2)) = false → v86 = undef) := j86
            have h3 := hD.out 3 rfl rfl
            clear hD hj ha hun
            rcases hE : ((((en == e2) == true) && (((st == 1)) == false))) with _ | _
            · exact step_off (wanted_nest (t := 86) rfl rfl rfl h86 j86 hE) (hK _ _ (stput_refl _ _ _) (fun h => by rw [hE] at h; cases h))
            · have e3 := eval_of h3
              refine step_now (v := .pointer (some ⟨g3, 0, none⟩)) (w' := wq) (wanted_nest_on (t := 86) rfl rfl rfl h86 j86 hE) ?_ (hK _ _ (stput_refl _ _ _) (fun _ => rfl))
              clear hK
              first | (go_simp; done) | (go_simp; rfl)
          · intro _ _ a wq K hD hst hj ha hun hK
            obtain ⟨v87, h87, j87⟩ := hD.dep hj ha 11 87 rfl rfl
            replace j87 : ((((en == e2) == true) && (((st == 1)) == false))) = true → v87 = (.pointer (some ⟨g3, 0, none⟩)) := j87
            obtain ⟨v86, h86, j86⟩ := hD.dep hj ha 10 86 rfl rfl
            replace j86 : (((en == e2)) = true → v86 = (.bool ((st == 1)))) ∧ (((en == e2)) = false → v86 = undef) := j86
            replace hst : StPut g6 (.cells #[.int .i64 st, .bool s1, .int .u32 e1, .int .u32 m1, .bool f1, .bool true, .int .u32 e2, .int .u32 m2, .bool f2] 48 (0, 0)) _ wq := hst
            clear hD hj ha hun
            rcases hE : ((((en == e2) == true) && (((st == 1)) == false))) with _ | _
            · exact step_off (wanted_nest (t := 86) rfl rfl rfl h86 j86 hE) (hK _ _ (stput_refl _ _ _) (fun h => by rw [hE] at h; cases h))
            · obtain rfl := j87 hE
              have e87 := eval_of h87
              exact step_now (v := .int .i64 st) (w' := wq) (wanted_nest_on (t := 86) rfl rfl rfl h86 j86 hE) (rg_load rfl e87 (Upd.blk hst.1 Bg3_13.out (One.not Ng3g6.out)) rfl Try.underlying3 rfl) (hK _ _ (stput_refl _ _ _) (fun _ => rfl))
          · intro _ _ a wq K hD hst hj ha hun hK
            obtain ⟨v88, h88, j88⟩ := hD.dep hj ha 12 88 rfl rfl
            replace j88 : ((((en == e2) == true) && (((st == 1)) == false))) = true → v88 = (.int .i64 st) := j88
            obtain ⟨v86, h86, j86⟩ := hD.dep hj ha 10 86 rfl rfl
            replace j86 : (((en == e2)) = true → v86 = (.bool ((st == 1)))) ∧ (((en == e2)) = false → v86 = undef) := j86
            clear hD hj ha hun
            rcases hE : ((((en == e2) == true) && (((st == 1)) == false))) with _ | _
            · exact step_off (wanted_nest (t := 86) rfl rfl rfl h86 j86 hE) (hK _ _ (stput_refl _ _ _) (fun h => by rw [hE] at h; cases h))
            · obtain rfl := j88 hE
              have e88 := eval_of h88
              refine step_now (v := .bool ((st == 2))) (w' := wq) (wanted_nest_on (t := 86) rfl rfl rfl h86 j86 hE) ?_ (hK _ _ (stput_refl _ _ _) (fun _ => rfl))
              clear hK
              first | (go_simp; done) | (go_simp; rfl)
          · intro _ _ a wq K hD hst hj ha hun hK
            obtain ⟨v86, h86, j86⟩ := hD.dep hj ha 10 86 rfl rfl
            replace j86 : (((en == e2)) = true → v86 = (.bool ((st == 1)))) ∧ (((en == e2)) = false → v86 = undef) := j86
            obtain ⟨v89, h89, j89⟩ := hD.dep hj ha 13 89 rfl rfl
            replace j89 : ((((en == e2) == true) && (((st == 1)) == false))) = true → v89 = (.bool ((st == 2))) := j89
            obtain ⟨v82, h82, j82⟩ := hD.dep hj ha 6 82 rfl rfl
            replace j82 : v82 = (.bool ((en == e2))) := j82
            subst j82
            clear hD hj ha hun
            rcases hE : ((en == e2)) with _ | _
            · rw [hE] at h82
              exact step_off (wanted_off (t := 82) (u := true) rfl rfl rfl h82) (hK _ _ (stput_refl _ _ _) (fun h => by rw [hE] at h; cases h))
            · rw [hE] at h82
              obtain rfl := j86.1 hE
              rcases hP : ((st == 1)) with _ | _
              · rw [hP] at h86
                obtain rfl := j89 (by rw [hE, hP]; rfl)
                have e86 := eval_of h86
                have e89 := eval_of h89
                refine step_now (v := .bool (((st == 1) || (st == 2)))) (w' := wq) (wanted_on (t := 82) (u := true) rfl rfl rfl h82) ?_ (hK _ _ (stput_refl _ _ _) (fun _ => rfl))
                rw [hP]
                clear hK
                first | (go_simp; done) | (go_simp; rfl) | (go_simp; (try simp only [IntKind.wrap_u32]); omega)
              · rw [hP] at h86
                have e86 := eval_of h86
                have e89 := eval_of h89
                refine step_now (v := .bool (((st == 1) || (st == 2)))) (w' := wq) (wanted_on (t := 82) (u := true) rfl rfl rfl h82) ?_ (hK _ _ (stput_refl _ _ _) (fun _ => rfl))
                rw [hP]
                clear hK
                first | (go_simp; done) | (go_simp; rfl) | (go_simp; (try simp only [IntKind.wrap_u32]); omega)
          · intro _ _ a wq K hD hst hj ha hun hK
            obtain ⟨v82, h82, j82⟩ := hD.dep hj ha 6 82 rfl rfl
            replace j82 : v82 = (.bool ((en == e2))) := j82
            subst j82
            obtain ⟨v90, h90, j90⟩ := hD.dep hj ha 14 90 rfl rfl
            replace j90 : ((en == e2)) = true → v90 = (.bool (((st == 1) || (st == 2)))) := j90
            clear hD hj ha hun
            rcases hE : ((en == e2)) with _ | _
            · rw [hE] at h82
              have e82 := eval_of h82
              have e90 := eval_of h90
              refine step_now (v := .bool (((en == e2) && ((st == 1) || (st == 2))))) (w' := wq) (wanted_free rfl) ?_ (hK _ _ (stput_refl _ _ _) rfl)
              rw [hE]
              clear hK
              first | (go_simp; done) | (go_simp; rfl) | (go_simp; (try simp only [IntKind.wrap_u32]); omega)
            · rw [hE] at h82
              obtain rfl := j90 hE
              have e82 := eval_of h82
              have e90 := eval_of h90
              refine step_now (v := .bool (((en == e2) && ((st == 1) || (st == 2))))) (w' := wq) (wanted_free rfl) ?_ (hK _ _ (stput_refl _ _ _) rfl)
              rw [hE]
              clear hK
              first | (go_simp; done) | (go_simp; rfl) | (go_simp; (try simp only [IntKind.wrap_u32]); omega)
          · intro _ _ a wq K hD hst hj ha hun hK
            obtain ⟨v76, h76, j76⟩ := hD.dep hj ha 0 76 rfl rfl
            replace j76 : v76 = (.agg #[.int .i64 st, .bool s1, .int .u32 e1, .int .u32 m1, .bool f1, .bool true, .int .u32 e2, .int .u32 m2, .bool f2]) := j76
            subst j76
            have h6 := hD.out 6 rfl rfl
            replace hst : StPut g6 (.cells #[.int .i64 st, .bool s1, .int .u32 e1, .int .u32 m1, .bool f1, .bool true, .int .u32 e2, .int .u32 m2, .bool f2] 48 (0, 0)) _ wq := hst
            clear hD hj ha hun
            have e6 := eval_of h6
            have e76 := eval_of h76
            refine rg_step_store (cells := #[.int .i64 st, .bool s1, .int .u32 e1, .int .u32 m1, .bool f1, .bool true, .int .u32 e2, .int .u32 m2, .bool f2]) (wanted_free rfl) rfl e6 e76 Bg6_13.out hst (by kernel_rfl) rfl rfl (fun w2 hs2 hg2 => hK _ _ hs2 hg2)
          · intro _ _ a wq K hD hst hj ha hun hK
            obtain ⟨v91, h91, j91⟩ := hD.dep hj ha 15 91 rfl rfl
            replace j91 : v91 = (.bool (((en == e2) && ((st == 1) || (st == 2))))) := j91
            subst j91
            clear hD hj ha hun
            have e91 := eval_of h91
            refine step_now (v := .bool (((en == e2) && ((st == 1) || (st == 2))))) (w' := wq) (wanted_free rfl) ?_ (hK _ _ (stput_refl _ _ _) rfl)
            clear hK
            first | (go_simp; done) | (go_simp; rfl)
        intro vals wend hst hj
        have j0 : vals 0 = (.agg #[.int .i64 st, .bool s1, .int .u32 e1, .int .u32 m1, .bool f1, .bool true, .int .u32 e2, .int .u32 m2, .bool f2]) := hj 0 (by decide)
        have j1 : vals 1 = (.agg #[.int .i64 sp, .int .i64 dp, .int .u32 sq, .int .u32 ak, .int .i64 fl, .int .i64 wi, .int .i64 ty, .int .i64 co, .int .i64 he, .int .i64 da]) := hj 1 (by decide)
        have j2 : vals 2 = (.int .u32 en) := hj 2 (by decide)
        have j3 : vals 3 = (.pointer (some ⟨g8, 1, none⟩)) := hj 3 (by decide)
        have j4 : vals 4 = (.int .u32 e2) := hj 4 (by decide)
        have j5 : vals 5 = (.bool ((en == e2))) := hj 5 (by decide)
        have j6 : vals 6 = (.bool ((en == e2))) := hj 6 (by decide)
        have j15 : vals 15 = (.bool (((en == e2) && ((st == 1) || (st == 2))))) := hj 15 (by decide)
        have j16 : (fun (v : Value) (w1 : World) => w1.heap[g6]? = some (.cells #[.int .i64 st, .bool s1, .int .u32 e1, .int .u32 m1, .bool f1, .bool true, .int .u32 e2, .int .u32 m2, .bool f2] 48 (0, 0))) (vals 16) wend := hj 16 (by decide)
        have j17 : vals 17 = (.bool (((en == e2) && ((st == 1) || (st == 2))))) := hj 17 (by decide)
        replace hst : StPut g6 (.cells #[.int .i64 st, .bool s1, .int .u32 e1, .int .u32 m1, .bool f1, .bool true, .int .u32 e2, .int .u32 m2, .bool f2] 48 (0, 0)) _ wend := hst
        clear hj
        rw [putAll_list]
        simp only [putL, Act.put, List.setIfInBounds_toArray, List.set_cons_zero, List.set_cons_succ, j0, j1, j2, j3, j4, j5, j6, j15, j17]
        clear j0 j1 j2 j3 j4 j5 j6 j15 j17
        generalize vals 7 = u83_
        generalize vals 8 = u84_
        generalize vals 9 = u85_
        generalize vals 10 = u86_
        generalize vals 11 = u87_
        generalize vals 12 = u88_
        generalize vals 13 = u89_
        generalize vals 14 = u90_
        have HB_14 := Aside0.mk (below_upd HB_13.out hst.1 (below_size HB_13.out) (fun k hk => by cases hk; exact Lg6.out))
        clear HB_13
        have Bg3_14 := Aside0.mk (Upd.blk hst.1 Bg3_13.out (One.not Ng3g6.out))
        clear Bg3_13
        have Bg5_14 := Aside0.mk (Upd.blk hst.1 Bg5_13.out (One.not Ng5g6.out))
        clear Bg5_13
        have Bg8_14 := Aside0.mk (Upd.blk hst.1 Bg8_13.out (One.not (Ne.symm Ng6g8.out)))
        clear Bg8_13
        have Bg9_14 := Aside0.mk (Upd.blk hst.1 Bg9_13.out (One.not (Ne.symm Ng6g9.out)))
        clear Bg9_13
        have Bg6_14 := Aside0.mk (show wend.heap[g6]? = some (.cells #[.int .i64 st, .bool s1, .int .u32 e1, .int .u32 m1, .bool f1, .bool true, .int .u32 e2, .int .u32 m2, .bool f2] 48 (0, 0)) from j16)
        clear hst j16 Bg6_13
        go_wp2
        refine bodyPost_ret (results_ct rfl _ _ g6 48 #[.int .i64 st, .bool s1, .int .u32 e1, .int .u32 m1, .bool f1, .bool true, .int .u32 e2, .int .u32 m2, .bool f2] (0, 0) _ rfl Bg6_14.out Try.underlying48 rfl (by kernel_rfl)) rfl (nextPost_mk (⟨st, ⟨s1, e1, m1, f1⟩, ⟨true, e2, m2, f2⟩⟩, ((en == e2) && ((st == 1) || (st == 2)))) ?_ HB_14.out)
        simp only [st_low hc0]
        simp only [next, synced, F2.out, F1.out, F4.out, F16.out, FE.out]; simp only [hc0, hc1, hc2, hd1, hd2, hd3, Bool.false_eq_true, if_false, if_true, reduceIte]; rcases hq : (en == e2) with _ | _ <;> simp
      go_wp2_with (first | ((with_reducible refine gate_dst (N := 73) rfl ?_); refine load_event rfl 48 _ rfl g3 rfl _ _ _ Bg3_13.out Try.underlying48 rfl (by kernel_rfl) ?_) | ((with_reducible refine gate_store (t := 48) (p := 6) rfl ?_); refine store_event rfl 48 _ _ rfl g6 _ rfl rfl _ _ Bg6_13.out (by kernel_rfl) rfl rfl ?_; intro wx14 hst hu; have HB_14 := Aside0.mk (below_upd HB_13.out hu (below_size HB_13.out) (fun k hk => by cases hk; exact Lg6.out)); clear HB_13; have Bg3_14 := Aside0.mk (Upd.blk hu Bg3_13.out (One.not Ng3g6.out)); clear Bg3_13; have Bg5_14 := Aside0.mk (Upd.blk hu Bg5_13.out (One.not Ng5g6.out)); clear Bg5_13; have Bg8_14 := Aside0.mk (Upd.blk hu Bg8_13.out (One.not (Ne.symm Ng6g8.out))); clear Bg8_13; have Bg9_14 := Aside0.mk (Upd.blk hu Bg9_13.out (One.not (Ne.symm Ng6g9.out))); clear Bg9_13; have Bg6_14 := Aside0.mk hst; clear hst hu Bg6_13))
      refine bodyPost_ret (results_ct rfl _ _ g6 48 #[.int .i64 st, .bool s1, .int .u32 e1, .int .u32 m1, .bool f1, .bool s2, .int .u32 e2, .int .u32 m2, .bool f2] (0, 0) _ rfl Bg6_14.out Try.underlying48 rfl (by kernel_rfl)) rfl (nextPost_mk (⟨st, ⟨s1, e1, m1, f1⟩, ⟨s2, e2, m2, f2⟩⟩, false) ?_ HB_14.out)
      simp only [next, synced, F2.out, F1.out, F4.out, F16.out, FE.out]
      simp only [hc0, hc1, hc2, hc3, Bool.false_eq_true, if_false, if_true, reduceIte]
      all_goals first | (simp only [hc0, hc1, hc2, hc3, Bool.false_eq_true, if_true, if_false, Bool.not_true, Bool.not_false, Bool.and_true, Bool.and_false, Bool.true_and, Bool.false_and, Bool.or_false, Bool.false_or, Bool.or_true, Bool.true_or, reduceIte]; done) | (simp [hc0, hc1, hc2, hc3]; done) | (simp [grant, hc0, hc1, hc2, hc3]; done) | (cases fi <;> cases rs <;> simp_all; done)
    go_wp2_with (first | ((with_reducible refine gate_dst (N := 57) rfl ?_); refine load_event rfl 48 _ rfl g3 rfl _ _ _ Bg3_11.out Try.underlying48 rfl (by kernel_rfl) ?_) | ((with_reducible refine gate_store (t := 48) (p := 6) rfl ?_); refine store_event rfl 48 _ _ rfl g6 _ rfl rfl _ _ Bg6_11.out (by kernel_rfl) rfl rfl ?_; intro wx12 hst hu; have HB_12 := Aside0.mk (below_upd HB_11.out hu (below_size HB_11.out) (fun k hk => by cases hk; exact Lg6.out)); clear HB_11; have Bg3_12 := Aside0.mk (Upd.blk hu Bg3_11.out (One.not Ng3g6.out)); clear Bg3_11; have Bg5_12 := Aside0.mk (Upd.blk hu Bg5_11.out (One.not Ng5g6.out)); clear Bg5_11; have Bg8_12 := Aside0.mk (Upd.blk hu Bg8_11.out (One.not (Ne.symm Ng6g8.out))); clear Bg8_11; have Bg9_12 := Aside0.mk (Upd.blk hu Bg9_11.out (One.not (Ne.symm Ng6g9.out))); clear Bg9_11; have Bg6_12 := Aside0.mk hst; clear hst hu Bg6_11))
    refine bodyPost_ret (results_ct rfl _ _ g6 48 #[.int .i64 st, .bool s1, .int .u32 e1, .int .u32 m1, .bool f1, .bool s2, .int .u32 e2, .int .u32 m2, .bool f2] (0, 0) _ rfl Bg6_12.out Try.underlying48 rfl (by kernel_rfl)) rfl (nextPost_mk (⟨st, ⟨s1, e1, m1, f1⟩, ⟨s2, e2, m2, f2⟩⟩, false) ?_ HB_12.out)
    simp only [next, synced, F2.out, F1.out, F4.out, F16.out, FE.out]
    simp only [hc0, hc1, Bool.false_eq_true, if_false, if_true, reduceIte]
    all_goals first | (simp only [hc0, hc1, Bool.false_eq_true, if_true, if_false, Bool.not_true, Bool.not_false, Bool.and_true, Bool.and_false, Bool.true_and, Bool.false_and, Bool.or_false, Bool.false_or, Bool.or_true, Bool.true_or, reduceIte]; done) | (simp [hc0, hc1]; done) | (simp [grant, hc0, hc1]; done) | (rcases hq : (((s1 && ac) && less e1 ak)) with _ | _ <;> simp only [hq, Bool.false_or] at hc1 <;> simp [hq, hc1]; done)
  go_wp2_with (first | ((with_reducible refine gate_dst (N := 28) rfl ?_); refine load_event rfl 48 _ rfl g3 rfl _ _ _ Bg3_10.out Try.underlying48 rfl (by kernel_rfl) ?_) | ((with_reducible refine gate_store (t := 48) (p := 6) rfl ?_); refine store_event rfl 48 _ _ rfl g6 _ rfl rfl _ _ Bg6_10.out (by kernel_rfl) rfl rfl ?_; intro wx11 hst hu; have HB_11 := Aside0.mk (below_upd HB_10.out hu (below_size HB_10.out) (fun k hk => by cases hk; exact Lg6.out)); clear HB_10; have Bg3_11 := Aside0.mk (Upd.blk hu Bg3_10.out (One.not Ng3g6.out)); clear Bg3_10; have Bg5_11 := Aside0.mk (Upd.blk hu Bg5_10.out (One.not Ng5g6.out)); clear Bg5_10; have Bg8_11 := Aside0.mk (Upd.blk hu Bg8_10.out (One.not (Ne.symm Ng6g8.out))); clear Bg8_10; have Bg9_11 := Aside0.mk (Upd.blk hu Bg9_10.out (One.not (Ne.symm Ng6g9.out))); clear Bg9_10; have Bg6_11 := Aside0.mk hst; clear hst hu Bg6_10))
  refine bodyPost_ret (results_ct rfl _ _ g6 48 #[.int .i64 st, .bool s1, .int .u32 e1, .int .u32 m1, .bool f1, .bool s2, .int .u32 e2, .int .u32 m2, .bool f2] (0, 0) _ rfl Bg6_11.out Try.underlying48 rfl (by kernel_rfl)) rfl (nextPost_mk (⟨st, ⟨s1, e1, m1, f1⟩, ⟨s2, e2, m2, f2⟩⟩, false) ?_ HB_11.out)
  simp only [next, synced, F2.out, F1.out, F4.out, F16.out, FE.out]
  simp only [hc0, Bool.false_eq_true, if_false, if_true, reduceIte]
  all_goals first | (simp only [hc0, Bool.false_eq_true, if_true, if_false, Bool.not_true, Bool.not_false, Bool.and_true, Bool.and_false, Bool.true_and, Bool.false_and, Bool.or_false, Bool.false_or, Bool.or_true, Bool.true_or, reduceIte]; done) | (simp [hc0]; done) | (simp [grant, hc0]; done)
end Go.Proofs.Ytainkpgplmkiaaa.RefNextT
