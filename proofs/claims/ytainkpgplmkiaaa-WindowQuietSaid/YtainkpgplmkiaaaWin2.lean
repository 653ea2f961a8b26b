/- window's grants and synced: contracts. No condition. -/
import Derived.Test.YtainkpgplmkiaaaWin
import Derived.Test.YtainkpgplmkiaaaVocab
import Derived.Test.YtainkpgplmkiaaaRg
namespace Go.Proofs.Ytainkpgplmkiaaa.Win2
open Go.RowKit Go.Proofs.YtainkpgplmkiaaaW.PrintWords Go.Proofs.YtainkpgplmkiaaaW.PrintLast Go.Proofs.YtainkpgplmkiaaaW.PrintMore Go.Proofs.Ytainkpgplmkiaaa.MWorld Go.Proofs.Ytainkpgplmkiaaa.Ev Go.Proofs.Ytainkpgplmkiaaa.Win Go.Proofs.Ytainkpgplmkiaaa.Rg
set_option linter.unusedVariables false
set_option linter.unusedSimpArgs false
/-- what an acknowledgement lets the other side send -/
def grant (sn ack : Bool) (mo ak wi : Int) : Int := if sn && ack then later mo ((ak + wi) % 4294967296) else mo
theorem set_same {cs : Array Value} {i : Nat} {v : Value} (h : cs[i]? = some v) : cs.setIfInBounds i v = cs := by
  refine Array.ext_getElem? fun j => ?_
  rw [Array.getElem?_setIfInBounds]
  by_cases e : i = j
  · subst e
    have := (Array.getElem?_eq_some_iff.1 h).1
    rw [if_pos rfl, if_pos this, h]
  · rw [if_neg e]
def GrantPost (g o : Nat) (cs : Array Value) (mo : Int) (w : World) (e : Ending) (w' : World) : Prop := e = .returned (.tuple #[]) ∧ w'.heap[g]? = some (.cells (cs.setIfInBounds (o + 2) (.int .u32 mo)) 41 (0, 0)) ∧ Upd (One g) w w'

set_option maxRecDepth 100000 in
set_option maxHeartbeats 2000000 in
theorem grants_00 (g o : Nat) (cs : Array Value) (mo : Int) (sp dp sq ak fl wi ty co he da : Int) (s1 s2 s3 ac : Bool) (en : Int) (w : World) (hb : w.heap[g]? = some (.cells cs 41 (0, 0))) (h0 : cs[o]? = some (.bool false)) (h2 : cs[o + 2]? = some (.int .u32 mo)) : Calls Try.prog 44 #[.pointer (some ⟨g, o, none⟩), .agg #[.int .i64 sp, .int .i64 dp, .int .u32 sq, .int .u32 ak, .int .i64 fl, .int .i64 wi, .int .i64 ty, .int .i64 co, .int .i64 he, .int .i64 da, .bool s1, .bool s2, .bool s3, .bool ac, .int .u32 en]] w (GrantPost g o cs (mo) w) := by
  have Bg_0 := Aside0.mk hb
  have H0 := Aside0.mk h0
  have H2 := Aside0.mk h2
  clear hb h0 h2
  go_enter Try.func44, Try.ntmps44
  go_wp2_with (first | ((with_reducible refine gate_dst (N := 3) rfl ?_); refine box_event ?hg (N := 3) ?hd (cs := #[.int .i64 sp, .int .i64 dp, .int .u32 sq, .int .u32 ak, .int .i64 fl, .int .i64 wi, .int .i64 ty, .int .i64 co, .int .i64 he, .int .i64 da, .bool s1, .bool s2, .bool s3, .bool ac, .int .u32 en]) (t := 95) ?hr ?_; (case hd => rfl); (case hg => rfl); (case hr => first | (go_simp; done) | (go_simp; rfl)); intro q1 hgg wx1 hbox hb; have Ngq1 := Aside0.mk (show g ≠ q1 by rw [hgg]; exact Nat.ne_of_lt (blk_lt Bg_0.out)); have Lq1 := Aside0.mk (show w.heap.size ≤ q1 by rw [hgg]; exact Nat.le_refl _); have HB_1 := Aside0.mk (hb); have Bg_1 := Aside0.mk (blk_below Bg_0.out hb); clear Bg_0; have Bq1_1 := Aside0.mk hbox; clear hbox hb hgg) | ((with_reducible refine gate_dst (N := 7) rfl ?_); refine load1_event rfl _ _ rfl g o rfl _ _ _ _ Bg_1.out H0.out Try.underlying4 rfl ?_))
  go_end0
  exact ⟨rfl, by rw [set_same H2.out]; exact Bg_1.out, Upd.of_below HB_1.out (Nat.le_refl _) _⟩
set_option maxRecDepth 100000 in
set_option maxHeartbeats 2000000 in
theorem grants_10 (g o : Nat) (cs : Array Value) (mo : Int) (sp dp sq ak fl wi ty co he da : Int) (s1 s2 s3 : Bool) (en : Int) (w : World) (hb : w.heap[g]? = some (.cells cs 41 (0, 0))) (h0 : cs[o]? = some (.bool true)) (h2 : cs[o + 2]? = some (.int .u32 mo)) : Calls Try.prog 44 #[.pointer (some ⟨g, o, none⟩), .agg #[.int .i64 sp, .int .i64 dp, .int .u32 sq, .int .u32 ak, .int .i64 fl, .int .i64 wi, .int .i64 ty, .int .i64 co, .int .i64 he, .int .i64 da, .bool s1, .bool s2, .bool s3, .bool false, .int .u32 en]] w (GrantPost g o cs (mo) w) := by
  have Bg_0 := Aside0.mk hb
  have H0 := Aside0.mk h0
  have H2 := Aside0.mk h2
  clear hb h0 h2
  go_enter Try.func44, Try.ntmps44
  go_wp2_with (first | ((with_reducible refine gate_dst (N := 3) rfl ?_); refine box_event ?hg (N := 3) ?hd (cs := #[.int .i64 sp, .int .i64 dp, .int .u32 sq, .int .u32 ak, .int .i64 fl, .int .i64 wi, .int .i64 ty, .int .i64 co, .int .i64 he, .int .i64 da, .bool s1, .bool s2, .bool s3, .bool false, .int .u32 en]) (t := 95) ?hr ?_; (case hd => rfl); (case hg => rfl); (case hr => first | (go_simp; done) | (go_simp; rfl)); intro q1 hgg wx1 hbox hb; have Ngq1 := Aside0.mk (show g ≠ q1 by rw [hgg]; exact Nat.ne_of_lt (blk_lt Bg_0.out)); have Lq1 := Aside0.mk (show w.heap.size ≤ q1 by rw [hgg]; exact Nat.le_refl _); have HB_1 := Aside0.mk (hb); have Bg_1 := Aside0.mk (blk_below Bg_0.out hb); clear Bg_0; have Bq1_1 := Aside0.mk hbox; clear hbox hb hgg) | ((with_reducible refine gate_dst (N := 7) rfl ?_); refine load1_event rfl _ _ rfl g o rfl _ _ _ _ Bg_1.out H0.out Try.underlying4 rfl ?_) | ((with_reducible refine gate_dst (N := 10) rfl ?_); (refine gate_guard (by rfl) ?_; dsimp only); refine load1_event rfl _ _ rfl q1 13 rfl _ _ _ _ Bq1_1.out rfl Try.underlying4 rfl ?_))
  go_end0
  exact ⟨rfl, by rw [set_same H2.out]; exact Bg_1.out, Upd.of_below HB_1.out (Nat.le_refl _) _⟩
set_option maxRecDepth 100000 in
set_option maxHeartbeats 2000000 in
theorem grants_11 (g o : Nat) (cs : Array Value) (mo : Int) (sp dp sq ak fl wi ty co he da : Int) (s1 s2 s3 : Bool) (en : Int) (w : World) (hb : w.heap[g]? = some (.cells cs 41 (0, 0))) (h0 : cs[o]? = some (.bool true)) (h2 : cs[o + 2]? = some (.int .u32 mo)) : Calls Try.prog 44 #[.pointer (some ⟨g, o, none⟩), .agg #[.int .i64 sp, .int .i64 dp, .int .u32 sq, .int .u32 ak, .int .i64 fl, .int .i64 wi, .int .i64 ty, .int .i64 co, .int .i64 he, .int .i64 da, .bool s1, .bool s2, .bool s3, .bool true, .int .u32 en]] w (GrantPost g o cs (later mo ((ak + wi) % 4294967296)) w) := by
  have Bg_0 := Aside0.mk hb
  have H0 := Aside0.mk h0
  have H2 := Aside0.mk h2
  clear hb h0 h2
  go_enter Try.func44, Try.ntmps44
  go_upto_region 2 with (first | ((with_reducible refine gate_dst (N := 3) rfl ?_); refine box_event ?hg (N := 3) ?hd (cs := #[.int .i64 sp, .int .i64 dp, .int .u32 sq, .int .u32 ak, .int .i64 fl, .int .i64 wi, .int .i64 ty, .int .i64 co, .int .i64 he, .int .i64 da, .bool s1, .bool s2, .bool s3, .bool true, .int .u32 en]) (t := 95) ?hr ?_; (case hd => rfl); (case hg => rfl); (case hr => first | (go_simp; done) | (go_simp; rfl)); intro q1 hgg wx1 hbox hb; have Ngq1 := Aside0.mk (show g ≠ q1 by rw [hgg]; exact Nat.ne_of_lt (blk_lt Bg_0.out)); have Lq1 := Aside0.mk (show w.heap.size ≤ q1 by rw [hgg]; exact Nat.le_refl _); have HB_1 := Aside0.mk (hb); have Bg_1 := Aside0.mk (blk_below Bg_0.out hb); clear Bg_0; have Bq1_1 := Aside0.mk hbox; clear hbox hb hgg) | ((with_reducible refine gate_dst (N := 7) rfl ?_); refine load1_event rfl _ _ rfl g o rfl _ _ _ _ Bg_1.out H0.out Try.underlying4 rfl ?_) | ((with_reducible refine gate_dst (N := 10) rfl ?_); (refine gate_guard (by rfl) ?_; dsimp only); refine load1_event rfl _ _ rfl q1 13 rfl _ _ _ _ Bq1_1.out rfl Try.underlying4 rfl ?_))
  refine wp_region_rg_list 14 (by kernel_rfl) (fun x y => Below x.heap.size x y) (fun (i : Nat) (v : Value) (w1 : World) => match i with | 0 => v = (.pointer (some ⟨g, o, none⟩)) | 1 => v = (.pointer (some ⟨g, o, none⟩)) | 2 => v = (.pointer (some ⟨g, o, none⟩)) | 3 => v = (.pointer (some ⟨g, o + 2, none⟩)) | 4 => v = (.int .u32 mo) | 5 => v = (.pointer (some ⟨q1, 0, none⟩)) | 6 => v = (.pointer (some ⟨q1, 3, none⟩)) | 7 => v = (.int .u32 ak) | 8 => v = (.pointer (some ⟨q1, 0, none⟩)) | 9 => v = (.pointer (some ⟨q1, 5, none⟩)) | 10 => v = (.int .i64 wi) | 11 => v = (.int .u32 (wi % 4294967296)) | 12 => v = (.int .u32 ((ak + wi) % 4294967296)) | 13 => v = (.int .u32 (later mo ((ak + wi) % 4294967296))) | _ => True) (by kernel_rfl) (by kernel_rfl) (by kernel_rfl) (by kernel_rfl) below_tr (Below.refl _ _).drew ?hJst ?hObl ?hEnd
  case hJst =>
    intro i v wx wy hi hs0 hs1 hJi
    match i, hi with
    | 0, _ => exact hJi
    | 1, _ => exact hJi
    | 2, _ => exact hJi
    | 3, _ => exact hJi
    | 4, _ => exact hJi
    | 5, _ => exact hJi
    | 6, _ => exact hJi
    | 7, _ => exact hJi
    | 8, _ => exact hJi
    | 9, _ => exact hJi
    | 10, _ => exact hJi
    | 11, _ => exact hJi
    | 12, _ => exact hJi
    | 13, _ => exact hJi
    | _ + 14, hi => exact absurd hi (by simp)
  case hObl =>
    refine ⟨?_, ?_, ?_, ?_, ?_, ?_, ?_, ?_, ?_, ?_, ?_, ?_, ?_, ?_,  trivial⟩
    · intro listed vals a wq K hD hst hj haft hun hK
      have h0 := hD.out 0 rfl rfl
      replace hst : Below _ _ wq := hst
      clear hD hj haft hun
      have e0 := eval_of h0
      refine step_now (v := .pointer (some ⟨g, o, none⟩)) (w' := wq) (wanted_free rfl) ?_ (hK _ _ (Below.refl _ _) rfl)
      clear hK
      first | (go_simp; done) | (go_simp; rfl) | (go_simp; (try simp only [IntKind.wrap_u32]); omega)
    · intro listed vals a wq K hD hst hj haft hun hK
      have h0 := hD.out 0 rfl rfl
      replace hst : Below _ _ wq := hst
      clear hD hj haft hun
      have e0 := eval_of h0
      refine step_now (v := .pointer (some ⟨g, o, none⟩)) (w' := wq) (wanted_free rfl) ?_ (hK _ _ (Below.refl _ _) rfl)
      clear hK
      first | (go_simp; done) | (go_simp; rfl) | (go_simp; (try simp only [IntKind.wrap_u32]); omega)
    · intro listed vals a wq K hD hst hj haft hun hK
      obtain ⟨v13, h13, j13⟩ := hD.dep hj haft 1 13 rfl rfl
      replace j13 : v13 = (.pointer (some ⟨g, o, none⟩)) := j13
      subst j13
      replace hst : Below _ _ wq := hst
      clear hD hj haft hun
      have e13 := eval_of h13
      refine step_now (v := .pointer (some ⟨g, o, none⟩)) (w' := wq) (wanted_free rfl) ?_ (hK _ _ (Below.refl _ _) rfl)
      clear hK
      first | (go_simp; done) | (go_simp; rfl) | (go_simp; (try simp only [IntKind.wrap_u32]); omega)
    · intro listed vals a wq K hD hst hj haft hun hK
      obtain ⟨v14, h14, j14⟩ := hD.dep hj haft 2 14 rfl rfl
      replace j14 : v14 = (.pointer (some ⟨g, o, none⟩)) := j14
      subst j14
      replace hst : Below _ _ wq := hst
      clear hD hj haft hun
      have e14 := eval_of h14
      refine step_now (v := .pointer (some ⟨g, o + 2, none⟩)) (w' := wq) (wanted_free rfl) ?_ (hK _ _ (Below.refl _ _) rfl)
      clear hK
      first | (go_simp; done) | (go_simp; rfl) | (go_simp; (try simp only [IntKind.wrap_u32]); omega)
    · intro listed vals a wq K hD hst hj haft hun hK
      obtain ⟨v15, h15, j15⟩ := hD.dep hj haft 3 15 rfl rfl
      replace j15 : v15 = (.pointer (some ⟨g, o + 2, none⟩)) := j15
      subst j15
      replace hst : Below _ _ wq := hst
      clear hD hj haft hun
      have e15 := eval_of h15
      exact step_now (v := .int .u32 mo) (w' := wq) (wanted_free rfl) (rg_load rfl e15 (blk_below Bg_1.out hst) H2.out Try.underlying33 rfl) (hK _ _ (Below.refl _ _) rfl)
    · intro listed vals a wq K hD hst hj haft hun hK
      have h3 := hD.out 3 rfl rfl
      replace hst : Below _ _ wq := hst
      clear hD hj haft hun
      have e3 := eval_of h3
      refine step_now (v := .pointer (some ⟨q1, 0, none⟩)) (w' := wq) (wanted_free rfl) ?_ (hK _ _ (Below.refl _ _) rfl)
      clear hK
      first | (go_simp; done) | (go_simp; rfl) | (go_simp; (try simp only [IntKind.wrap_u32]); omega)
    · intro listed vals a wq K hD hst hj haft hun hK
      obtain ⟨v17, h17, j17⟩ := hD.dep hj haft 5 17 rfl rfl
      replace j17 : v17 = (.pointer (some ⟨q1, 0, none⟩)) := j17
      subst j17
      replace hst : Below _ _ wq := hst
      clear hD hj haft hun
      have e17 := eval_of h17
      refine step_now (v := .pointer (some ⟨q1, 3, none⟩)) (w' := wq) (wanted_free rfl) ?_ (hK _ _ (Below.refl _ _) rfl)
      clear hK
      first | (go_simp; done) | (go_simp; rfl) | (go_simp; (try simp only [IntKind.wrap_u32]); omega)
    · intro listed vals a wq K hD hst hj haft hun hK
      obtain ⟨v18, h18, j18⟩ := hD.dep hj haft 6 18 rfl rfl
      replace j18 : v18 = (.pointer (some ⟨q1, 3, none⟩)) := j18
      subst j18
      replace hst : Below _ _ wq := hst
      clear hD hj haft hun
      have e18 := eval_of h18
      exact step_now (v := .int .u32 ak) (w' := wq) (wanted_free rfl) (rg_load rfl e18 (blk_below Bq1_1.out hst) rfl Try.underlying33 rfl) (hK _ _ (Below.refl _ _) rfl)
    · intro listed vals a wq K hD hst hj haft hun hK
      have h3 := hD.out 3 rfl rfl
      replace hst : Below _ _ wq := hst
      clear hD hj haft hun
      have e3 := eval_of h3
      refine step_now (v := .pointer (some ⟨q1, 0, none⟩)) (w' := wq) (wanted_free rfl) ?_ (hK _ _ (Below.refl _ _) rfl)
      clear hK
      first | (go_simp; done) | (go_simp; rfl) | (go_simp; (try simp only [IntKind.wrap_u32]); omega)
    · intro listed vals a wq K hD hst hj haft hun hK
      obtain ⟨v20, h20, j20⟩ := hD.dep hj haft 8 20 rfl rfl
      replace j20 : v20 = (.pointer (some ⟨q1, 0, none⟩)) := j20
      subst j20
      replace hst : Below _ _ wq := hst
      clear hD hj haft hun
      have e20 := eval_of h20
      refine step_now (v := .pointer (some ⟨q1, 5, none⟩)) (w' := wq) (wanted_free rfl) ?_ (hK _ _ (Below.refl _ _) rfl)
      clear hK
      first | (go_simp; done) | (go_simp; rfl) | (go_simp; (try simp only [IntKind.wrap_u32]); omega)
    · intro listed vals a wq K hD hst hj haft hun hK
      obtain ⟨v21, h21, j21⟩ := hD.dep hj haft 9 21 rfl rfl
      replace j21 : v21 = (.pointer (some ⟨q1, 5, none⟩)) := j21
      subst j21
      replace hst : Below _ _ wq := hst
      clear hD hj haft hun
      have e21 := eval_of h21
      exact step_now (v := .int .i64 wi) (w' := wq) (wanted_free rfl) (rg_load rfl e21 (blk_below Bq1_1.out hst) rfl Try.underlying3 rfl) (hK _ _ (Below.refl _ _) rfl)
    · intro listed vals a wq K hD hst hj haft hun hK
      obtain ⟨v22, h22, j22⟩ := hD.dep hj haft 10 22 rfl rfl
      replace j22 : v22 = (.int .i64 wi) := j22
      subst j22
      replace hst : Below _ _ wq := hst
      clear hD hj haft hun
      have e22 := eval_of h22
      refine step_now (v := .int .u32 (wi % 4294967296)) (w' := wq) (wanted_free rfl) ?_ (hK _ _ (Below.refl _ _) rfl)
      clear hK
      first | (go_simp; done) | (go_simp; rfl) | (go_simp; (try simp only [IntKind.wrap_u32]); omega)
    · intro listed vals a wq K hD hst hj haft hun hK
      obtain ⟨v19, h19, j19⟩ := hD.dep hj haft 7 19 rfl rfl
      replace j19 : v19 = (.int .u32 ak) := j19
      subst j19
      obtain ⟨v23, h23, j23⟩ := hD.dep hj haft 11 23 rfl rfl
      replace j23 : v23 = (.int .u32 (wi % 4294967296)) := j23
      subst j23
      replace hst : Below _ _ wq := hst
      clear hD hj haft hun
      have e19 := eval_of h19
      have e23 := eval_of h23
      refine step_now (v := .int .u32 ((ak + wi) % 4294967296)) (w' := wq) (wanted_free rfl) ?_ (hK _ _ (Below.refl _ _) rfl)
      clear hK
      first | (go_simp; done) | (go_simp; rfl) | (go_simp; (try simp only [IntKind.wrap_u32]); omega)
    · intro listed vals a wq K hD hst hj haft hun hK
      obtain ⟨v16, h16, j16⟩ := hD.dep hj haft 4 16 rfl rfl
      replace j16 : v16 = (.int .u32 mo) := j16
      subst j16
      obtain ⟨v24, h24, j24⟩ := hD.dep hj haft 12 24 rfl rfl
      replace j24 : v24 = (.int .u32 ((ak + wi) % 4294967296)) := j24
      subst j24
      replace hst : Below _ _ wq := hst
      clear hD hj haft hun
      have e16 := eval_of h16
      have e24 := eval_of h24
      refine step_call (f := 43) (args := #[.int .u32 mo, .int .u32 ((ak + wi) % 4294967296)]) (wanted_free rfl) ?_ (later_any mo ((ak + wi) % 4294967296) wq) ?_
      · clear hK; first | (go_simp; done) | (go_simp; rfl)
      · rintro e w' ⟨rfl, rfl⟩; exact ⟨_, rfl, hK _ _ (Below.refl _ _) rfl⟩
  case hEnd =>
    intro vals wend hst hj
    have j0 : vals 0 = (.pointer (some ⟨g, o, none⟩)) := hj 0 (by decide)
    have j1 : vals 1 = (.pointer (some ⟨g, o, none⟩)) := hj 1 (by decide)
    have j2 : vals 2 = (.pointer (some ⟨g, o, none⟩)) := hj 2 (by decide)
    have j3 : vals 3 = (.pointer (some ⟨g, o + 2, none⟩)) := hj 3 (by decide)
    have j4 : vals 4 = (.int .u32 mo) := hj 4 (by decide)
    have j5 : vals 5 = (.pointer (some ⟨q1, 0, none⟩)) := hj 5 (by decide)
    have j6 : vals 6 = (.pointer (some ⟨q1, 3, none⟩)) := hj 6 (by decide)
    have j7 : vals 7 = (.int .u32 ak) := hj 7 (by decide)
    have j8 : vals 8 = (.pointer (some ⟨q1, 0, none⟩)) := hj 8 (by decide)
    have j9 : vals 9 = (.pointer (some ⟨q1, 5, none⟩)) := hj 9 (by decide)
    have j10 : vals 10 = (.int .i64 wi) := hj 10 (by decide)
    have j11 : vals 11 = (.int .u32 (wi % 4294967296)) := hj 11 (by decide)
    have j12 : vals 12 = (.int .u32 ((ak + wi) % 4294967296)) := hj 12 (by decide)
    have j13 : vals 13 = (.int .u32 (later mo ((ak + wi) % 4294967296))) := hj 13 (by decide)
    replace hst : Below _ _ wend := hst
    clear hj
    simp only [List.take_succ_cons, List.take_zero, List.drop_succ_cons, List.drop_zero, putL, Act.put, List.setIfInBounds_toArray, List.set_cons_zero, List.set_cons_succ, j0, j1, j2, j3, j4, j5, j6, j7, j8, j9, j10, j11, j12, j13]
    clear j0 j1 j2 j3 j4 j5 j6 j7 j8 j9 j10 j11 j12 j13
    have Bg_9 := Aside0.mk (blk_below Bg_1.out hst)
    have HBq := Aside0.mk (below_step HB_1.out hst)
    clear hst
    go_wp2_with ((with_reducible refine gate_store (t := 33) (p := 27) rfl ?_); refine store1_event rfl _ _ _ rfl g (o + 2) rfl (.int .u32 (later mo ((ak + wi) % 4294967296))) _ rfl _ _ _ Bg_9.out H2.out (by kernel_rfl) rfl rfl rfl ?_; intro wz hst hu; have HS := Aside0.mk hst; have HU := Aside0.mk hu; clear hst hu)
    go_end0
    exact ⟨rfl, HS.out, (Upd.of_below HBq.out (Nat.le_refl _) _).trans HU.out⟩
end Go.Proofs.Ytainkpgplmkiaaa.Win2
