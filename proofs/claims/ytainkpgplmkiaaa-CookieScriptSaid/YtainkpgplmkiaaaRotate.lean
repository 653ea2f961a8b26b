/- cookie's Rotate: its contract. No condition. -/
import Derived.Test.YtainkpgplmkiaaaKeeper
namespace Go.Proofs.Ytainkpgplmkiaaa.Rotate
open Go Go.RowKit Go.Deep Go.Proofs.YtainkpgplmkiaaaW.PrintWords Go.Proofs.YtainkpgplmkiaaaW.PrintLast Go.Proofs.YtainkpgplmkiaaaW.PrintMore Go.Proofs.Ytainkpgplmkiaaa.MWorld Go.Proofs.Ytainkpgplmkiaaa.Ev Go.Proofs.Ytainkpgplmkiaaa.Rg Go.Proofs.Ytainkpgplmkiaaa.Cook Go.Proofs.Ytainkpgplmkiaaa.HashDef Go.Proofs.Ytainkpgplmkiaaa.CookCookie Go.Proofs.Ytainkpgplmkiaaa.RefCook Go.Proofs.Ytainkpgplmkiaaa.CookWin Go.Proofs.Ytainkpgplmkiaaa.Keeper
set_option linter.unusedVariables false
set_option linter.unusedSimpArgs false
section
variable {P : Program} {o : Oper} {a : Act} {W : World}
theorem rg_loadmid {ty : TypeId} {x : Operand} (ho : o.op = .load ty x) {b f : Nat} (hx : a.eval x = .pointer (some ⟨b, f, none⟩)) {cs : List Value} {d : TypeDesc}
    (hc : W.rangeAt b f cs) (hu : P.underlying ty = some d) (hd : d.isRow = true) (hi : (P.info? ty).map (·.size) = some cs.length) : (execOp a.eval o).run P W = .ok (.value (.agg cs.toArray)) W := by
  simp only [execOp, ho, hx, Sem.run_bind, Sem.run_pure, run_loadAt_mid W b f ty cs d hc hu hd hi, Result.andThen_ok]
end
set_option maxRecDepth 100000 in
set_option maxHeartbeats 4000000 in
theorem rotate_any (gk gr n : Nat) (hn : 1 ≤ n) (oa ob sa sb : Int) (cs : Array Value) (hcs : (cs.toList.drop 0).take 2 = [.int .u64 oa, .int .u64 ob]) (till now tl : Int) (htl : IntKind.i64.wrap (now / 16 + 1) = tl) (w : World) (hk : Keep gk gr n cs till w) :
    Calls Try.prog 21 #[.pointer (some ⟨gk, 0, none⟩), .agg #[.int .u64 sa, .int .u64 sb], .int .i64 now] w fun e w' => e = .returned (.tuple #[]) ∧ (∃ gr2 : Nat, Keep gk gr2 2 #[.int .u64 sa, .int .u64 sb, .int .u64 oa, .int .u64 ob] tl w') ∧ Upd (One gk) w w' := by
  have BK := Aside0.mk hk.1
  have BR := Aside0.mk hk.2
  have HCS := Aside0.mk hcs
  have hn1 : decide ((0 : Int) < (n : Int)) = true := decide_eq_true (by omega)
  have hn2 : (0 : Int) < (n : Int) := by omega
  have hn3 : (n = 0) = False := eq_false (by omega)
  clear hk hcs hn
  go_enter Try.func21, Try.ntmps21
  go_upto_region 1 with (first | ((with_reducible refine gate_dst (N := 4) rfl ?_); refine box_event ?hg (N := 4) ?hd (cs := #[.int .u64 sa, .int .u64 sb]) (t := 24) ?hr ?_; (case hd => rfl); (case hg => rfl); (case hr => first | (go_simp; done) | (go_simp; rfl)); intro g4 hgg wx1 hbox hb; have Ngkg4 := Aside0.mk (show gk ≠ g4 by rw [hgg]; exact Nat.ne_of_lt (blk_lt BK.out)); have Ngrg4 := Aside0.mk (show gr ≠ g4 by rw [hgg]; exact Nat.ne_of_lt (blk_lt BR.out)); have Lg4 := Aside0.mk (show w.heap.size ≤ g4 by rw [hgg]; exact Nat.le_refl _); have HB_1 := Aside0.mk (hb); have Bgk_1 := Aside0.mk (blk_below BK.out hb); clear BK; have Bgr_1 := Aside0.mk (blk_below BR.out hb); clear BR; have Bg4_1 := Aside0.mk hbox; clear hbox hb hgg))
  refine wp_region_rg_list 9 (by kernel_rfl) (fun x y => Below x.heap.size x y) (fun (i : Nat) (v : Value) (w1 : World) => match i with | 0 => v = (.pointer (some ⟨gk, 0, none⟩)) | 1 => v = (.agg #[.int .u64 sa, .int .u64 sb]) | 2 => v = (.pointer (some ⟨gk, 0, none⟩)) | 3 => v = (.pointer (some ⟨gk, 0, none⟩)) | 4 => v = (.pointer (some ⟨gk, 0, none⟩)) | 5 => v = (.slice (some ⟨gr, 0, none⟩) n n) | 6 => v = (.pointer (some ⟨gr, 0, none⟩)) | 7 => v = (.agg #[.int .u64 oa, .int .u64 ob]) | 8 => ∃ g : Nat, v = .slice (some ⟨g, 0, none⟩) 2 2 ∧ wx1.heap.size ≤ g ∧ w1.heap[g]? = some (.cells #[.int .u64 sa, .int .u64 sb, .int .u64 oa, .int .u64 ob] 24 (0, 0)) | _ => True) (by kernel_rfl) (by kernel_rfl) (by kernel_rfl) (by kernel_rfl) below_tr (Below.refl _ _).drew ?hJst1 ?hObl1 ?hEnd1
  case hJst1 =>
    intro i v wx wy hi hs0 hs1 hJi
    match i, hi with
    | 0, _ => exact hJi
    | 1, _ => exact hJi
    | 2, _ => exact hJi
    | 3, _ => exact hJi
    | 4, _ => exact hJi
    | 5, _ => exact hJi
    | 6, _ => exact hJi
    | 7, _ => exact hJi
    | 8, _ => replace hJi : (fun (v : Value) (w1 : World) => ∃ g : Nat, v = .slice (some ⟨g, 0, none⟩) 2 2 ∧ wx1.heap.size ≤ g ∧ w1.heap[g]? = some (.cells #[.int .u64 sa, .int .u64 sb, .int .u64 oa, .int .u64 ob] 24 (0, 0))) v wx := hJi; exact (by obtain ⟨g, q1, q2, q3⟩ := hJi; exact ⟨g, q1, q2, blk_below q3 hs1⟩)
    | _ + 9, hi => exact absurd hi (by simp)
  case hObl1 =>
    refine ⟨?_, ?_, ?_, ?_, ?_, ?_, ?_, ?_, ?_,  trivial⟩
    · intro listed vals a wq K hD hst hj haft hun hK
      have h0 := hD.out 0 rfl rfl
      clear hD hj haft hun
      have e0 := eval_of h0
      refine step_now (v := .pointer (some ⟨gk, 0, none⟩)) (w' := wq) (wanted_free rfl) ?_ (hK _ _ (Below.refl _ _) rfl)
      clear hK
      first | (go_simp; done) | (go_simp; rfl)
    · intro listed vals a wq K hD hst hj haft hun hK
      have h4 := hD.out 4 rfl rfl
      replace hst : Below wx1.heap.size wx1 wq := hst
      clear hD hj haft hun
      have e4 := eval_of h4
      exact step_now (v := .agg #[.int .u64 sa, .int .u64 sb]) (w' := wq) (wanted_free rfl) (rg_loadall rfl e4 (blk_below Bg4_1.out hst) Try.underlying24 rfl (by kernel_rfl)) (hK _ _ (Below.refl _ _) rfl)
    · intro listed vals a wq K hD hst hj haft hun hK
      have h0 := hD.out 0 rfl rfl
      clear hD hj haft hun
      have e0 := eval_of h0
      refine step_now (v := .pointer (some ⟨gk, 0, none⟩)) (w' := wq) (wanted_free rfl) ?_ (hK _ _ (Below.refl _ _) rfl)
      clear hK
      first | (go_simp; done) | (go_simp; rfl)
    · intro listed vals a wq K hD hst hj haft hun hK
      obtain ⟨v8, h8, j8⟩ := hD.dep hj haft 2 8 rfl rfl
      replace j8 : v8 = (.pointer (some ⟨gk, 0, none⟩)) := j8
      subst j8
      clear hD hj haft hun
      have e8 := eval_of h8
      refine step_now (v := .pointer (some ⟨gk, 0, none⟩)) (w' := wq) (wanted_free rfl) ?_ (hK _ _ (Below.refl _ _) rfl)
      clear hK
      first | (go_simp; done) | (go_simp; rfl)
    · intro listed vals a wq K hD hst hj haft hun hK
      obtain ⟨v9, h9, j9⟩ := hD.dep hj haft 3 9 rfl rfl
      replace j9 : v9 = (.pointer (some ⟨gk, 0, none⟩)) := j9
      subst j9
      clear hD hj haft hun
      have e9 := eval_of h9
      refine step_now (v := .pointer (some ⟨gk, 0, none⟩)) (w' := wq) (wanted_free rfl) ?_ (hK _ _ (Below.refl _ _) rfl)
      clear hK
      first | (go_simp; done) | (go_simp; rfl)
    · intro listed vals a wq K hD hst hj haft hun hK
      obtain ⟨v10, h10, j10⟩ := hD.dep hj haft 4 10 rfl rfl
      replace j10 : v10 = (.pointer (some ⟨gk, 0, none⟩)) := j10
      subst j10
      replace hst : Below wx1.heap.size wx1 wq := hst
      clear hD hj haft hun
      have e10 := eval_of h10
      exact step_now (v := .slice (some ⟨gr, 0, none⟩) n n) (w' := wq) (wanted_free rfl) (rg_load rfl e10 (blk_below Bgk_1.out hst) rfl Try.underlying106 rfl) (hK _ _ (Below.refl _ _) rfl)
    · intro listed vals a wq K hD hst hj haft hun hK
      obtain ⟨v11, h11, j11⟩ := hD.dep hj haft 5 11 rfl rfl
      replace j11 : v11 = (.slice (some ⟨gr, 0, none⟩) n n) := j11
      subst j11
      clear hD hj haft hun
      have e11 := eval_of h11
      refine step_now (v := .pointer (some ⟨gr, 0, none⟩)) (w' := wq) (wanted_free rfl) ?_ (hK _ _ (Below.refl _ _) rfl)
      clear hK
      first | (go_simp; done) | (go_simp; rfl)
    · intro listed vals a wq K hD hst hj haft hun hK
      obtain ⟨v12, h12, j12⟩ := hD.dep hj haft 6 12 rfl rfl
      replace j12 : v12 = (.pointer (some ⟨gr, 0, none⟩)) := j12
      subst j12
      replace hst : Below wx1.heap.size wx1 wq := hst
      clear hD hj haft hun
      have e12 := eval_of h12
      exact step_now (v := .agg #[.int .u64 oa, .int .u64 ob]) (w' := wq) (wanted_free rfl) (rg_loadmid rfl e12 (blk_range (blk_below Bgr_1.out hst) 0 [.int .u64 oa, .int .u64 ob] HCS.out) Try.underlying24 rfl (by kernel_rfl)) (hK _ _ (Below.refl _ _) rfl)
    · intro listed vals a wq K hD hst hj haft hun hK
      obtain ⟨v7, h7, j7⟩ := hD.dep hj haft 1 7 rfl rfl
      replace j7 : v7 = (.agg #[.int .u64 sa, .int .u64 sb]) := j7
      subst j7
      obtain ⟨v13, h13, j13⟩ := hD.dep hj haft 7 13 rfl rfl
      replace j13 : v13 = (.agg #[.int .u64 oa, .int .u64 ob]) := j13
      subst j13
      replace hst : Below wx1.heap.size wx1 wq := hst
      clear hD hj haft hun
      have e7 := eval_of h7
      have e13 := eval_of h13
      refine step_now (v := .slice (some ⟨wq.heap.size, 0, none⟩) 2 2) (w' := wq.alloc (.cells #[.int .u64 sa, .int .u64 sb, .int .u64 oa, .int .u64 ob] 24)) (wanted_free rfl) ?_ (hK _ _ (below_alloc (Below.refl _ _) _) ⟨_, rfl, hst.size, blk_new wq _⟩)
      clear hK
      first | (go_simp; done) | (go_simp; rfl)
  intro vals wend hst hj
  have j0 : vals 0 = (.pointer (some ⟨gk, 0, none⟩)) := hj 0 (by decide)
  have j1 : vals 1 = (.agg #[.int .u64 sa, .int .u64 sb]) := hj 1 (by decide)
  have j2 : vals 2 = (.pointer (some ⟨gk, 0, none⟩)) := hj 2 (by decide)
  have j3 : vals 3 = (.pointer (some ⟨gk, 0, none⟩)) := hj 3 (by decide)
  have j4 : vals 4 = (.pointer (some ⟨gk, 0, none⟩)) := hj 4 (by decide)
  have j5 : vals 5 = (.slice (some ⟨gr, 0, none⟩) n n) := hj 5 (by decide)
  have j6 : vals 6 = (.pointer (some ⟨gr, 0, none⟩)) := hj 6 (by decide)
  have j7 : vals 7 = (.agg #[.int .u64 oa, .int .u64 ob]) := hj 7 (by decide)
  have j8 : (fun (v : Value) (w1 : World) => ∃ g : Nat, v = .slice (some ⟨g, 0, none⟩) 2 2 ∧ wx1.heap.size ≤ g ∧ w1.heap[g]? = some (.cells #[.int .u64 sa, .int .u64 sb, .int .u64 oa, .int .u64 ob] 24 (0, 0))) (vals 8) wend := hj 8 (by decide)
  replace hst : Below wx1.heap.size wx1 wend := hst
  clear hj
  simp only [List.take_succ_cons, List.take_zero, List.drop_succ_cons, List.drop_zero, putL, Act.put, List.setIfInBounds_toArray, List.set_cons_zero, List.set_cons_succ, j0, j1, j2, j3, j4, j5, j6, j7]
  clear j0 j1 j2 j3 j4 j5 j6 j7
  obtain ⟨g2, hv8, hg0, hb8⟩ := j8
  simp only [hv8]
  clear hv8
  have BK2 := Aside0.mk (blk_below Bgk_1.out hst)
  have BG2 := Aside0.mk hb8
  have HB2 := Aside0.mk (below_step HB_1.out hst)
  have NE := Aside0.mk (show gk ≠ g2 by have h := blk_lt Bgk_1.out; omega)
  have HU0 := Aside0.mk (Upd.of_below HB2.out (Nat.le_refl _) (One gk))
  clear hst hg0 hb8 Bgr_1 Bg4_1 HB_1
  go_upto_region 2 with (first | ((with_reducible refine gate_store (t := 106) (p := 16) rfl ?_); refine store1_event rfl _ _ _ rfl gk 0 rfl (.slice (some ⟨g2, 0, none⟩) 2 2) _ ?hy _ _ #[.slice (some ⟨g2, 0, none⟩) 2 2, .int .i64 till] BK2.out rfl (by kernel_rfl) rfl rfl rfl ?_; (case hy => first | (with_reducible rfl) | rfl); intro wx51 hst hu; have BG_51 := Aside0.mk (Upd.blk hu BG2.out (One.not (Ne.symm NE.out))); have BK_51 := Aside0.mk hst; have HU1 := Aside0.mk (HU0.out.trans hu); clear hst hu BK2 BG2 HU0))
  go_wp2_with (first | (go_at_call 15; refine (window_any now _).mono ?_; rintro e wy ⟨rfl, hb⟩; have BKc := Aside0.mk (blk_below BK_51.out hb); have BGc := Aside0.mk (blk_below BG_51.out hb); have HUc := Aside0.mk (HU1.out.trans (Upd.of_below hb (Nat.le_refl _) _)); clear hb BK_51 BG_51 HU1) | ((with_reducible refine gate_store (t := 3) (p := 22) rfl ?_); refine store1_event rfl _ _ _ rfl gk 1 rfl (.int .i64 tl) _ ?hy _ _ #[.slice (some ⟨g2, 0, none⟩) 2 2, .int .i64 tl] BKc.out rfl (by kernel_rfl) rfl rfl rfl ?_; (case hy => first | (with_reducible rfl) | rfl); intro wx52 hst hu; have BG_52 := Aside0.mk (Upd.blk hu BGc.out (One.not (Ne.symm NE.out))); have BK_52 := Aside0.mk hst; have HUd := Aside0.mk (HUc.out.trans hu); clear hst hu BKc BGc HUc))
  go_end0
  exact ⟨rfl, ⟨g2, BK_52.out, BG_52.out⟩, HUd.out⟩
end Go.Proofs.Ytainkpgplmkiaaa.Rotate
