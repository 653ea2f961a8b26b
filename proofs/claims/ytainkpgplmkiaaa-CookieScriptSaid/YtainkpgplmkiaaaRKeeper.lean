/- The reference's Keeper: contracts of its methods. No condition. -/
import Derived.Test.YtainkpgplmkiaaaCookieOldWalk
namespace Go.Proofs.Ytainkpgplmkiaaa.RKeeper
open Go Go.RowKit Go.Deep Go.Proofs.YtainkpgplmkiaaaW.PrintWords Go.Proofs.YtainkpgplmkiaaaW.PrintLast Go.Proofs.YtainkpgplmkiaaaW.PrintMore Go.Proofs.Ytainkpgplmkiaaa.MWorld Go.Proofs.Ytainkpgplmkiaaa.Ev Go.Proofs.Ytainkpgplmkiaaa.Rg Go.Proofs.Ytainkpgplmkiaaa.Cook Go.Proofs.Ytainkpgplmkiaaa.HashDef Go.Proofs.Ytainkpgplmkiaaa.CookCookie Go.Proofs.Ytainkpgplmkiaaa.RefCook Go.Proofs.Ytainkpgplmkiaaa.CookWin Go.Proofs.Ytainkpgplmkiaaa.Keeper Go.Proofs.Ytainkpgplmkiaaa.Rotate
set_option linter.unusedVariables false
set_option linter.unusedSimpArgs false
section
variable {ops : Array Oper} {a : Act} {o og : Oper} {g : Nat} {t : Tmp} {u : Bool}
theorem wanted_und (hg : o.guard = some (g, u)) (ho : ops[g]? = some og) (hd : og.dst = some t) (hv : a.tmps[t]? = some undef) : Region.wanted o (yielded ops a.tmps) = false := by
  simp [Region.wanted, hg, yielded, ho, hd, hv, undef]
theorem wanted_nest {E p B : Bool} (hg : o.guard = some (g, u)) (ho : ops[g]? = some og) (hd : og.dst = some t) {v : Value} (hv : a.tmps[t]? = some v) (hj : (E = p → v = .bool B) ∧ (E = (!p) → v = undef)) (hE : ((E == p) && (B == u)) = false) : Region.wanted o (yielded ops a.tmps) = false := by
  cases hp : (E == p)
  · have h1 : E = !p := by cases E <;> cases p <;> simp_all
    exact wanted_und hg ho hd (by rw [hv, hj.2 h1])
  · have h1 : E = p := by simpa using hp
    have h2 : B = !u := by rw [hp] at hE; cases B <;> cases u <;> simp_all
    exact wanted_off hg ho hd (by rw [hv, hj.1 h1, h2])
theorem wanted_nest_on {E p B : Bool} (hg : o.guard = some (g, u)) (ho : ops[g]? = some og) (hd : og.dst = some t) {v : Value} (hv : a.tmps[t]? = some v) (hj : (E = p → v = .bool B) ∧ (E = (!p) → v = undef)) (hE : ((E == p) && (B == u)) = true) : Region.wanted o (yielded ops a.tmps) = true := by
  have h0 := Bool.and_eq_true_iff.1 hE
  have h1 : E = p := by simpa using h0.1
  have h2 : B = u := by simpa using h0.2
  exact wanted_on hg ho hd (by rw [hv, hj.1 h1, h2])
end
set_option maxRecDepth 100000 in
set_option maxHeartbeats 4000000 in
theorem two_any (sa sb p sh sl dh dl sp dp wn nn k1 k2 wm : Int) (hwm : IntKind.i64.wrap (wn - 1) = wm) (h1 : Aside0 (ck sa sb p sh sl dh dl sp dp wn = k1)) (h2 : Aside0 (ck sa sb p sh sl dh dl sp dp wm = k2)) (w : World) : Calls Try.prog 49 #[.agg #[.int .u64 sa, .int .u64 sb], .agg #[.int .i64 p, .int .u64 sh, .int .u64 sl, .int .u64 dh, .int .u64 dl, .int .i64 sp, .int .i64 dp], .int .i64 wn, .int .u32 nn] w fun e w' => e = .returned (.bool ((k1 == nn) || (k2 == nn))) ∧ Below w.heap.size w w' := by
  go_enter Try.func49, Try.ntmps49
  go_upto_region 1 with (first | ((with_reducible refine gate_dst (N := 4) rfl ?_); refine box_event ?hg (N := 4) ?hd (cs := #[.int .u64 sa, .int .u64 sb]) (t := 30) ?hr ?_; (case hd => rfl); (case hg => rfl); (case hr => first | (go_simp; done) | (go_simp; rfl)); intro g4 hgg wx1 hbox hb; have Lg4 := Aside0.mk (show w.heap.size ≤ g4 by rw [hgg]; exact Nat.le_refl _); have HB_1 := Aside0.mk (hb); have Bg4_1 := Aside0.mk hbox; clear hbox hb hgg) | ((with_reducible refine gate_dst (N := 5) rfl ?_); refine box_event ?hg (N := 5) ?hd (cs := #[.int .i64 p, .int .u64 sh, .int .u64 sl, .int .u64 dh, .int .u64 dl, .int .i64 sp, .int .i64 dp]) (t := 29) ?hr ?_; (case hd => rfl); (case hg => rfl); (case hr => first | (go_simp; done) | (go_simp; rfl)); intro g5 hgg wx2 hbox hb; have Ng4g5 := Aside0.mk (show g4 ≠ g5 by rw [hgg]; exact Nat.ne_of_lt (blk_lt Bg4_1.out)); have Lg5 := Aside0.mk (show w.heap.size ≤ g5 by rw [hgg]; exact below_size HB_1.out); have HB_2 := Aside0.mk (below_step HB_1.out hb); clear HB_1; have Bg4_2 := Aside0.mk (blk_below Bg4_1.out hb); clear Bg4_1; have Bg5_2 := Aside0.mk hbox; clear hbox hb hgg))
  go_upto_region 1 with (fail)
  refine wp_region_rg_seq (fun x y => Below x.heap.size x y) (fun (i : Nat) (v : Value) (w1 : World) => match i with | 0 => v = (.agg #[.int .u64 sa, .int .u64 sb]) | 1 => v = (.agg #[.int .i64 p, .int .u64 sh, .int .u64 sl, .int .u64 dh, .int .u64 dl, .int .i64 sp, .int .i64 dp]) | 2 => v = (.int .i64 wn) | 3 => v = (.int .u32 k1) | 4 => v = (.int .u32 nn) | 5 => v = (.bool ((k1 == nn))) | 6 => v = (.bool ((k1 == nn))) | 7 => ((k1 == nn)) = false → v = (.agg #[.int .u64 sa, .int .u64 sb]) | 8 => ((k1 == nn)) = false → v = (.agg #[.int .i64 p, .int .u64 sh, .int .u64 sl, .int .u64 dh, .int .u64 dl, .int .i64 sp, .int .i64 dp]) | 9 => ((k1 == nn)) = false → v = (.int .i64 wn) | 10 => ((k1 == nn)) = false → v = (.int .i64 wm) | 11 => ((k1 == nn)) = false → v = (.int .u32 k2) | 12 => ((k1 == nn)) = false → v = (.int .u32 nn) | 13 => ((k1 == nn)) = false → v = (.bool ((k2 == nn))) | 14 => v = (.bool (((k1 == nn) || (k2 == nn)))) | 15 => v = (.bool (((k1 == nn) || (k2 == nn)))) | _ => True) (by kernel_rfl) (by kernel_rfl) below_tr (Below.refl _ _) ?hJst1 ?hObl1 ?hEnd1
  case hJst1 =>
    intro i v wx wy hi hs0 hs1 hJi
    match i, hi with
    | 0, _ => exact hJi
    | 1, _ => exact hJi
    | 2, _ => exact hJi
    | 3, _ => exact hJi
    | 4, _ => exact hJi
    | 5, _ => exact hJi
    | 6, _ => exact hJi
    | 7, _ => exact hJi
    | 8, _ => exact hJi
    | 9, _ => exact hJi
    | 10, _ => exact hJi
    | 11, _ => exact hJi
    | 12, _ => exact hJi
    | 13, _ => exact hJi
    | 14, _ => exact hJi
    | 15, _ => exact hJi
    | _ + 16, hi => exact absurd hi (by simp)
  case hObl1 =>
    refine ⟨?_, ?_, ?_, ?_, ?_, ?_, ?_, ?_, ?_, ?_, ?_, ?_, ?_, ?_, ?_, ?_,  trivial⟩
    · intro listed vals a wq K hD hst hj haft hun hK
      have h4 := hD.out 4 rfl rfl
      replace hst : Below _ _ wq := hst
      clear hD hj haft hun
      have e4 := eval_of h4
      exact step_now (v := .agg #[.int .u64 sa, .int .u64 sb]) (w' := wq) (wanted_free rfl) (rg_loadall rfl e4 (blk_below Bg4_2.out hst) Try.underlying30 rfl (by kernel_rfl)) (hK _ _ (Below.refl _ _) rfl)
    · intro listed vals a wq K hD hst hj haft hun hK
      have h5 := hD.out 5 rfl rfl
      replace hst : Below _ _ wq := hst
      clear hD hj haft hun
      have e5 := eval_of h5
      exact step_now (v := .agg #[.int .i64 p, .int .u64 sh, .int .u64 sl, .int .u64 dh, .int .u64 dl, .int .i64 sp, .int .i64 dp]) (w' := wq) (wanted_free rfl) (rg_loadall rfl e5 (blk_below Bg5_2.out hst) Try.underlying29 rfl (by kernel_rfl)) (hK _ _ (Below.refl _ _) rfl)
    · intro listed vals a wq K hD hst hj haft hun hK
      have h2 := hD.out 2 rfl rfl
      clear hD hj haft hun
      have e2 := eval_of h2
      refine step_now (v := .int .i64 wn) (w' := wq) (wanted_free rfl) ?_ (hK _ _ (Below.refl _ _) rfl)
      clear hK
      first | (go_simp; done) | (go_simp; rfl) | (go_simp; (try simp only [IntKind.wrap_u32]); omega)
    · intro listed vals a wq K hD hst hj haft hun hK
      obtain ⟨v9, h9, j9⟩ := hD.dep hj haft 0 9 rfl rfl
      replace j9 : v9 = (.agg #[.int .u64 sa, .int .u64 sb]) := j9
      subst j9
      obtain ⟨v10, h10, j10⟩ := hD.dep hj haft 1 10 rfl rfl
      replace j10 : v10 = (.agg #[.int .i64 p, .int .u64 sh, .int .u64 sl, .int .u64 dh, .int .u64 dl, .int .i64 sp, .int .i64 dp]) := j10
      subst j10
      obtain ⟨v11, h11, j11⟩ := hD.dep hj haft 2 11 rfl rfl
      replace j11 : v11 = (.int .i64 wn) := j11
      subst j11
      clear hD hj haft hun
      have e9 := eval_of h9
      have e10 := eval_of h10
      have e11 := eval_of h11
      refine step_call (f := 14) (args := #[.agg #[.int .u64 sa, .int .u64 sb], .agg #[.int .i64 p, .int .u64 sh, .int .u64 sl, .int .u64 dh, .int .u64 dl, .int .i64 sp, .int .i64 dp], .int .i64 wn]) (wanted_free rfl) ?_ (rcookie_w sa sb p sh sl dh dl sp dp wn k1 h1.out wq) ?_
      · clear hK; first | (go_simp; done) | (go_simp; rfl)
      · rintro e w' ⟨he, hbq⟩; exact ⟨_, he, hK _ _ hbq rfl⟩
    · intro listed vals a wq K hD hst hj haft hun hK
      have h3 := hD.out 3 rfl rfl
      clear hD hj haft hun
      have e3 := eval_of h3
      refine step_now (v := .int .u32 nn) (w' := wq) (wanted_free rfl) ?_ (hK _ _ (Below.refl _ _) rfl)
      clear hK
      first | (go_simp; done) | (go_simp; rfl) | (go_simp; (try simp only [IntKind.wrap_u32]); omega)
    · intro listed vals a wq K hD hst hj haft hun hK
      obtain ⟨v12, h12, j12⟩ := hD.dep hj haft 3 12 rfl rfl
      replace j12 : v12 = (.int .u32 k1) := j12
      subst j12
      obtain ⟨v13, h13, j13⟩ := hD.dep hj haft 4 13 rfl rfl
      replace j13 : v13 = (.int .u32 nn) := j13
      subst j13
      clear hD hj haft hun
      have e12 := eval_of h12
      have e13 := eval_of h13
      refine step_now (v := .bool ((k1 == nn))) (w' := wq) (wanted_free rfl) ?_ (hK _ _ (Below.refl _ _) rfl)
      clear hK
      first | (go_simp; done) | (go_simp; rfl)
    · intro listed vals a wq K hD hst hj haft hun hK
      obtain ⟨v14, h14, j14⟩ := hD.dep hj haft 5 14 rfl rfl
      replace j14 : v14 = (.bool ((k1 == nn))) := j14
      subst j14
      clear hD hj haft hun
      have e14 := eval_of h14
      refine step_now (v := .bool ((k1 == nn))) (w' := wq) (wanted_free rfl) ?_ (hK _ _ (Below.refl _ _) rfl)
      clear hK
      first | (go_simp; done) | (go_simp; rfl)
    · intro listed vals a wq K hD hst hj haft hun hK
      obtain ⟨v15, h15, j15⟩ := hD.dep hj haft 6 15 rfl rfl
      replace j15 : v15 = (.bool ((k1 == nn))) := j15
      subst j15
      have h4 := hD.out 4 rfl rfl
      replace hst : Below _ _ wq := hst
      clear hD hj haft hun
      rcases hE : ((k1 == nn)) with _ | _
      · rw [hE] at h15
        have e4 := eval_of h4
        exact step_now (v := .agg #[.int .u64 sa, .int .u64 sb]) (w' := wq) (wanted_on (t := 15) (u := false) rfl rfl rfl h15) (rg_loadall rfl e4 (blk_below Bg4_2.out hst) Try.underlying30 rfl (by kernel_rfl)) (hK _ _ (Below.refl _ _) (fun _ => rfl))
      · rw [hE] at h15
        exact step_off (wanted_off (t := 15) (u := false) rfl rfl rfl h15) (hK _ _ (Below.refl _ _) (fun h => by rw [hE] at h; cases h))
    · intro listed vals a wq K hD hst hj haft hun hK
      obtain ⟨v15, h15, j15⟩ := hD.dep hj haft 6 15 rfl rfl
      replace j15 : v15 = (.bool ((k1 == nn))) := j15
      subst j15
      have h5 := hD.out 5 rfl rfl
      replace hst : Below _ _ wq := hst
      clear hD hj haft hun
      rcases hE : ((k1 == nn)) with _ | _
      · rw [hE] at h15
        have e5 := eval_of h5
        exact step_now (v := .agg #[.int .i64 p, .int .u64 sh, .int .u64 sl, .int .u64 dh, .int .u64 dl, .int .i64 sp, .int .i64 dp]) (w' := wq) (wanted_on (t := 15) (u := false) rfl rfl rfl h15) (rg_loadall rfl e5 (blk_below Bg5_2.out hst) Try.underlying29 rfl (by kernel_rfl)) (hK _ _ (Below.refl _ _) (fun _ => rfl))
      · rw [hE] at h15
        exact step_off (wanted_off (t := 15) (u := false) rfl rfl rfl h15) (hK _ _ (Below.refl _ _) (fun h => by rw [hE] at h; cases h))
    · intro listed vals a wq K hD hst hj haft hun hK
      obtain ⟨v15, h15, j15⟩ := hD.dep hj haft 6 15 rfl rfl
      replace j15 : v15 = (.bool ((k1 == nn))) := j15
      subst j15
      have h2 := hD.out 2 rfl rfl
      clear hD hj haft hun
      rcases hE : ((k1 == nn)) with _ | _
      · rw [hE] at h15
        have e2 := eval_of h2
        refine step_now (v := .int .i64 wn) (w' := wq) (wanted_on (t := 15) (u := false) rfl rfl rfl h15) ?_ (hK _ _ (Below.refl _ _) (fun _ => rfl))
        clear hK
        first | (go_simp; done) | (go_simp; rfl) | (go_simp; (try simp only [IntKind.wrap_u32]); omega)
      · rw [hE] at h15
        exact step_off (wanted_off (t := 15) (u := false) rfl rfl rfl h15) (hK _ _ (Below.refl _ _) (fun h => by rw [hE] at h; cases h))
    · intro listed vals a wq K hD hst hj haft hun hK
      obtain ⟨v18, h18, j18⟩ := hD.dep hj haft 9 18 rfl rfl
      replace j18 : ((k1 == nn)) = false → v18 = (.int .i64 wn) := j18
      obtain ⟨v15, h15, j15⟩ := hD.dep hj haft 6 15 rfl rfl
      replace j15 : v15 = (.bool ((k1 == nn))) := j15
      subst j15
      clear hD hj haft hun
      rcases hE : ((k1 == nn)) with _ | _
      · rw [hE] at h15
        obtain rfl := j18 hE
        have e18 := eval_of h18
        refine step_now (v := .int .i64 wm) (w' := wq) (wanted_on (t := 15) (u := false) rfl rfl rfl h15) ?_ (hK _ _ (Below.refl _ _) (fun _ => rfl))
        clear hK
        first | (go_simp; done) | (go_simp; rfl) | (go_simp; (try simp only [IntKind.wrap_u32]); omega)
      · rw [hE] at h15
        exact step_off (wanted_off (t := 15) (u := false) rfl rfl rfl h15) (hK _ _ (Below.refl _ _) (fun h => by rw [hE] at h; cases h))
    · intro listed vals a wq K hD hst hj haft hun hK
      obtain ⟨v16, h16, j16⟩ := hD.dep hj haft 7 16 rfl rfl
      replace j16 : ((k1 == nn)) = false → v16 = (.agg #[.int .u64 sa, .int .u64 sb]) := j16
      obtain ⟨v17, h17, j17⟩ := hD.dep hj haft 8 17 rfl rfl
      replace j17 : ((k1 == nn)) = false → v17 = (.agg #[.int .i64 p, .int .u64 sh, .int .u64 sl, .int .u64 dh, .int .u64 dl, .int .i64 sp, .int .i64 dp]) := j17
      obtain ⟨v19, h19, j19⟩ := hD.dep hj haft 10 19 rfl rfl
      replace j19 : ((k1 == nn)) = false → v19 = (.int .i64 wm) := j19
      obtain ⟨v15, h15, j15⟩ := hD.dep hj haft 6 15 rfl rfl
      replace j15 : v15 = (.bool ((k1 == nn))) := j15
      subst j15
      clear hD hj haft hun
      rcases hE : ((k1 == nn)) with _ | _
      · rw [hE] at h15
        obtain rfl := j16 hE
        obtain rfl := j17 hE
        obtain rfl := j19 hE
        have e16 := eval_of h16
        have e17 := eval_of h17
        have e19 := eval_of h19
        refine step_call (f := 14) (args := #[.agg #[.int .u64 sa, .int .u64 sb], .agg #[.int .i64 p, .int .u64 sh, .int .u64 sl, .int .u64 dh, .int .u64 dl, .int .i64 sp, .int .i64 dp], .int .i64 wm]) (wanted_on (t := 15) (u := false) rfl rfl rfl h15) ?_ (rcookie_w sa sb p sh sl dh dl sp dp wm k2 h2.out wq) ?_
        · clear hK; first | (go_simp; done) | (go_simp; rfl)
        · rintro e w' ⟨he, hbq⟩; exact ⟨_, he, hK _ _ hbq (fun _ => rfl)⟩
      · rw [hE] at h15
        exact step_off (wanted_off (t := 15) (u := false) rfl rfl rfl h15) (hK _ _ (Below.refl _ _) (fun h => by rw [hE] at h; cases h))
    · intro listed vals a wq K hD hst hj haft hun hK
      obtain ⟨v15, h15, j15⟩ := hD.dep hj haft 6 15 rfl rfl
      replace j15 : v15 = (.bool ((k1 == nn))) := j15
      subst j15
      have h3 := hD.out 3 rfl rfl
      clear hD hj haft hun
      rcases hE : ((k1 == nn)) with _ | _
      · rw [hE] at h15
        have e3 := eval_of h3
        refine step_now (v := .int .u32 nn) (w' := wq) (wanted_on (t := 15) (u := false) rfl rfl rfl h15) ?_ (hK _ _ (Below.refl _ _) (fun _ => rfl))
        clear hK
        first | (go_simp; done) | (go_simp; rfl) | (go_simp; (try simp only [IntKind.wrap_u32]); omega)
      · rw [hE] at h15
        exact step_off (wanted_off (t := 15) (u := false) rfl rfl rfl h15) (hK _ _ (Below.refl _ _) (fun h => by rw [hE] at h; cases h))
    · intro listed vals a wq K hD hst hj haft hun hK
      obtain ⟨v20, h20, j20⟩ := hD.dep hj haft 11 20 rfl rfl
      replace j20 : ((k1 == nn)) = false → v20 = (.int .u32 k2) := j20
      obtain ⟨v21, h21, j21⟩ := hD.dep hj haft 12 21 rfl rfl
      replace j21 : ((k1 == nn)) = false → v21 = (.int .u32 nn) := j21
      obtain ⟨v15, h15, j15⟩ := hD.dep hj haft 6 15 rfl rfl
      replace j15 : v15 = (.bool ((k1 == nn))) := j15
      subst j15
      clear hD hj haft hun
      rcases hE : ((k1 == nn)) with _ | _
      · rw [hE] at h15
        obtain rfl := j20 hE
        obtain rfl := j21 hE
        have e20 := eval_of h20
        have e21 := eval_of h21
        refine step_now (v := .bool ((k2 == nn))) (w' := wq) (wanted_on (t := 15) (u := false) rfl rfl rfl h15) ?_ (hK _ _ (Below.refl _ _) (fun _ => rfl))
        clear hK
        first | (go_simp; done) | (go_simp; rfl)
      · rw [hE] at h15
        exact step_off (wanted_off (t := 15) (u := false) rfl rfl rfl h15) (hK _ _ (Below.refl _ _) (fun h => by rw [hE] at h; cases h))
    · intro listed vals a wq K hD hst hj haft hun hK
      obtain ⟨v15, h15, j15⟩ := hD.dep hj haft 6 15 rfl rfl
      replace j15 : v15 = (.bool ((k1 == nn))) := j15
      subst j15
      obtain ⟨v22, h22, j22⟩ := hD.dep hj haft 13 22 rfl rfl
      replace j22 : ((k1 == nn)) = false → v22 = (.bool ((k2 == nn))) := j22
      clear hD hj haft hun
      rcases hE : ((k1 == nn)) with _ | _
      · rw [hE] at h15
        obtain rfl := j22 hE
        have e15 := eval_of h15
        have e22 := eval_of h22
        refine step_now (v := .bool (((k1 == nn) || (k2 == nn)))) (w' := wq) (wanted_free rfl) ?_ (hK _ _ (Below.refl _ _) rfl)
        rw [hE]
        clear hK
        first | (go_simp; done) | (go_simp; rfl) | (go_simp; (try simp only [IntKind.wrap_u32]); omega)
      · rw [hE] at h15
        have e15 := eval_of h15
        have e22 := eval_of h22
        refine step_now (v := .bool (((k1 == nn) || (k2 == nn)))) (w' := wq) (wanted_free rfl) ?_ (hK _ _ (Below.refl _ _) rfl)
        rw [hE]
        clear hK
        first | (go_simp; done) | (go_simp; rfl) | (go_simp; (try simp only [IntKind.wrap_u32]); omega)
    · intro listed vals a wq K hD hst hj haft hun hK
      obtain ⟨v23, h23, j23⟩ := hD.dep hj haft 14 23 rfl rfl
      replace j23 : v23 = (.bool (((k1 == nn) || (k2 == nn)))) := j23
      subst j23
      clear hD hj haft hun
      have e23 := eval_of h23
      refine step_now (v := .bool (((k1 == nn) || (k2 == nn)))) (w' := wq) (wanted_free rfl) ?_ (hK _ _ (Below.refl _ _) rfl)
      clear hK
      first | (go_simp; done) | (go_simp; rfl)
  intro vals wend hst hj
  have j0 : vals 0 = (.agg #[.int .u64 sa, .int .u64 sb]) := hj 0 (by decide)
  have j1 : vals 1 = (.agg #[.int .i64 p, .int .u64 sh, .int .u64 sl, .int .u64 dh, .int .u64 dl, .int .i64 sp, .int .i64 dp]) := hj 1 (by decide)
  have j2 : vals 2 = (.int .i64 wn) := hj 2 (by decide)
  have j3 : vals 3 = (.int .u32 k1) := hj 3 (by decide)
  have j4 : vals 4 = (.int .u32 nn) := hj 4 (by decide)
  have j5 : vals 5 = (.bool ((k1 == nn))) := hj 5 (by decide)
  have j6 : vals 6 = (.bool ((k1 == nn))) := hj 6 (by decide)
  have j14 : vals 14 = (.bool (((k1 == nn) || (k2 == nn)))) := hj 14 (by decide)
  have j15 : vals 15 = (.bool (((k1 == nn) || (k2 == nn)))) := hj 15 (by decide)
  replace hst : Below _ _ wend := hst
  clear hj
  rw [putAll_list]
  simp only [putL, Act.put, List.setIfInBounds_toArray, List.set_cons_zero, List.set_cons_succ, j0, j1, j2, j3, j4, j5, j6, j14, j15]
  clear j0 j1 j2 j3 j4 j5 j6 j14 j15
  generalize vals 7 = u16_
  generalize vals 8 = u17_
  generalize vals 9 = u18_
  generalize vals 10 = u19_
  generalize vals 11 = u20_
  generalize vals 12 = u21_
  generalize vals 13 = u22_
  have HB_3 := Aside0.mk (below_step HB_2.out hst)
  clear HB_2
  have Bg4_3 := Aside0.mk (blk_below Bg4_2.out hst)
  clear Bg4_2
  have Bg5_3 := Aside0.mk (blk_below Bg5_2.out hst)
  clear Bg5_2
  clear hst
  go_wp2
  go_ret
  exact ⟨rfl, HB_3.out⟩
theorem two_w (sa sb p sh sl dh dl sp dp wn nn : Int) (b : Bool) (hb : ((ck sa sb p sh sl dh dl sp dp wn == nn) || (ck sa sb p sh sl dh dl sp dp (IntKind.i64.wrap (wn - 1)) == nn)) = b) (w : World) : Calls Try.prog 49 #[.agg #[.int .u64 sa, .int .u64 sb], .agg #[.int .i64 p, .int .u64 sh, .int .u64 sl, .int .u64 dh, .int .u64 dl, .int .i64 sp, .int .i64 dp], .int .i64 wn, .int .u32 nn] w fun e w' => e = .returned (.bool b) ∧ Below w.heap.size w w' := by
  subst hb; exact two_any sa sb p sh sl dh dl sp dp wn nn _ _ _ rfl ⟨rfl⟩ ⟨rfl⟩ w
set_option maxRecDepth 100000 in
set_option maxHeartbeats 8000000 in
theorem rcheck_any (gq : Nat) (sa sb oa ob till p sh sl dh dl sp dp now nn : Int) (hs b1 b2 : Bool) (h1 : Aside0 (((ck sa sb p sh sl dh dl sp dp (now / 16) == nn) || (ck sa sb p sh sl dh dl sp dp (IntKind.i64.wrap (now / 16 - 1)) == nn)) = b1)) (h2 : Aside0 (((ck oa ob p sh sl dh dl sp dp (now / 16) == nn) || (ck oa ob p sh sl dh dl sp dp (IntKind.i64.wrap (now / 16 - 1)) == nn)) = b2)) (w : World) (hk : w.heap[gq]? = some (.cells #[.int .u64 sa, .int .u64 sb, .int .u64 oa, .int .u64 ob, .bool hs, .int .i64 till] 63 (0, 0))) : Calls Try.prog 25 #[.pointer (some ⟨gq, 0, none⟩), .agg #[.int .i64 p, .int .u64 sh, .int .u64 sl, .int .u64 dh, .int .u64 dl, .int .i64 sp, .int .i64 dp], .int .i64 now, .int .u32 nn] w fun e w' => e = .returned (.bool (b1 || ((hs && decide (now / 16 ≤ till)) && b2))) ∧ Below w.heap.size w w' := by
  have BQ := Aside0.mk hk
  clear hk
  go_enter Try.func25, Try.ntmps25
  go_upto_region 2 with (first | ((with_reducible refine gate_dst (N := 5) rfl ?_); refine box_event ?hg (N := 5) ?hd (cs := #[.int .i64 p, .int .u64 sh, .int .u64 sl, .int .u64 dh, .int .u64 dl, .int .i64 sp, .int .i64 dp]) (t := 29) ?hr ?_; (case hd => rfl); (case hg => rfl); (case hr => first | (go_simp; done) | (go_simp; rfl)); intro g5 hgg wx1 hbox hb; have Ngqg5 := Aside0.mk (show gq ≠ g5 by rw [hgg]; exact Nat.ne_of_lt (blk_lt BQ.out)); have Lg5 := Aside0.mk (show w.heap.size ≤ g5 by rw [hgg]; exact Nat.le_refl _); have HB_1 := Aside0.mk (hb); have Bgq_1 := Aside0.mk (blk_below BQ.out hb); clear BQ; have Bg5_1 := Aside0.mk hbox; clear hbox hb hgg) | (go_at_call 16; refine (rwindow_any now _).mono ?_; rintro e wx2 ⟨rfl, hb⟩; have HB_2 := Aside0.mk (below_step HB_1.out hb); clear HB_1; have Bgq_2 := Aside0.mk (blk_below Bgq_1.out hb); clear Bgq_1; have Bg5_2 := Aside0.mk (blk_below Bg5_1.out hb); clear Bg5_1; clear hb))
  go_upto_region 2 with (fail)
  refine wp_region_rg (by kernel_rfl) (fun x y => Below x.heap.size x y) (fun (i : Nat) (v : Value) (w1 : World) => match i with | 0 => v = (.pointer (some ⟨gq, 0, none⟩)) | 1 => v = (.pointer (some ⟨gq, 0, none⟩)) | 2 => v = (.pointer (some ⟨gq, 0, none⟩)) | 3 => v = (.agg #[.int .u64 sa, .int .u64 sb]) | 4 => v = (.agg #[.int .i64 p, .int .u64 sh, .int .u64 sl, .int .u64 dh, .int .u64 dl, .int .i64 sp, .int .i64 dp]) | 5 => v = (.int .i64 (now / 16)) | 6 => v = (.int .u32 nn) | 7 => v = (.bool (b1)) | 8 => v = (.bool (b1)) | 9 => (b1) = false → v = (.pointer (some ⟨gq, 0, none⟩)) | 10 => (b1) = false → v = (.pointer (some ⟨gq, 0, none⟩)) | 11 => (b1) = false → v = (.pointer (some ⟨gq, 4, none⟩)) | 12 => (b1) = false → v = (.bool hs) | 13 => ((b1) = false → v = (.bool hs)) ∧ ((b1) = true → v = undef) | 14 => (((b1 == false) && ((hs) == true))) = true → v = (.int .i64 (now / 16)) | 15 => (((b1 == false) && ((hs) == true))) = true → v = (.pointer (some ⟨gq, 0, none⟩)) | 16 => (((b1 == false) && ((hs) == true))) = true → v = (.pointer (some ⟨gq, 0, none⟩)) | 17 => (((b1 == false) && ((hs) == true))) = true → v = (.pointer (some ⟨gq, 5, none⟩)) | 18 => (((b1 == false) && ((hs) == true))) = true → v = (.int .i64 till) | 19 => (((b1 == false) && ((hs) == true))) = true → v = (.bool (decide (now / 16 ≤ till))) | 20 => (b1) = false → v = (.bool ((hs && decide (now / 16 ≤ till)))) | 21 => ((b1) = false → v = (.bool ((hs && decide (now / 16 ≤ till))))) ∧ ((b1) = true → v = undef) | 22 => (((b1 == false) && (((hs && decide (now / 16 ≤ till))) == true))) = true → v = (.pointer (some ⟨gq, 0, none⟩)) | 23 => (((b1 == false) && (((hs && decide (now / 16 ≤ till))) == true))) = true → v = (.pointer (some ⟨gq, 0, none⟩)) | 24 => (((b1 == false) && (((hs && decide (now / 16 ≤ till))) == true))) = true → v = (.pointer (some ⟨gq, 2, none⟩)) | 25 => (((b1 == false) && (((hs && decide (now / 16 ≤ till))) == true))) = true → v = (.agg #[.int .u64 oa, .int .u64 ob]) | 26 => (((b1 == false) && (((hs && decide (now / 16 ≤ till))) == true))) = true → v = (.agg #[.int .i64 p, .int .u64 sh, .int .u64 sl, .int .u64 dh, .int .u64 dl, .int .i64 sp, .int .i64 dp]) | 27 => (((b1 == false) && (((hs && decide (now / 16 ≤ till))) == true))) = true → v = (.int .i64 (now / 16)) | 28 => (((b1 == false) && (((hs && decide (now / 16 ≤ till))) == true))) = true → v = (.int .u32 nn) | 29 => (((b1 == false) && (((hs && decide (now / 16 ≤ till))) == true))) = true → v = (.bool (b2)) | 30 => (b1) = false → v = (.bool (((hs && decide (now / 16 ≤ till)) && b2))) | 31 => v = (.bool ((b1 || ((hs && decide (now / 16 ≤ till)) && b2)))) | 32 => v = (.bool ((b1 || ((hs && decide (now / 16 ≤ till)) && b2)))) | _ => True) (by kernel_rfl) (by kernel_rfl) below_tr (Below.refl _ _).drew ?hJst2 (obl_list ?hObl2) ?hEnd2
  case hJst2 =>
    intro i v wx wy hi hs0 hs1 hJi
    match i, hi with
    | 0, _ => exact hJi
    | 1, _ => exact hJi
    | 2, _ => exact hJi
    | 3, _ => exact hJi
    | 4, _ => exact hJi
    | 5, _ => exact hJi
    | 6, _ => exact hJi
    | 7, _ => exact hJi
    | 8, _ => exact hJi
    | 9, _ => exact hJi
    | 10, _ => exact hJi
    | 11, _ => exact hJi
    | 12, _ => exact hJi
    | 13, _ => exact hJi
    | 14, _ => exact hJi
    | 15, _ => exact hJi
    | 16, _ => exact hJi
    | 17, _ => exact hJi
    | 18, _ => exact hJi
    | 19, _ => exact hJi
    | 20, _ => exact hJi
    | 21, _ => exact hJi
    | 22, _ => exact hJi
    | 23, _ => exact hJi
    | 24, _ => exact hJi
    | 25, _ => exact hJi
    | 26, _ => exact hJi
    | 27, _ => exact hJi
    | 28, _ => exact hJi
    | 29, _ => exact hJi
    | 30, _ => exact hJi
    | 31, _ => exact hJi
    | 32, _ => exact hJi
    | _ + 33, hi => exact absurd hi (by simp)
  case hObl2 =>
    refine ⟨?_, ?_, ?_, ?_, ?_, ?_, ?_, ?_, ?_, ?_, ?_, ?_, ?_, ?_, ?_, ?_, ?_, ?_, ?_, ?_, ?_, ?_, ?_, ?_, ?_, ?_, ?_, ?_, ?_, ?_, ?_, ?_, ?_,  trivial⟩
    · intro listed vals a wq K hD hst hj haft hun hK
      have h0 := hD.out 0 rfl rfl
      clear hD hj haft hun
      have e0 := eval_of h0
      refine step_now (v := .pointer (some ⟨gq, 0, none⟩)) (w' := wq) (wanted_free rfl) ?_ (hK _ _ (Below.refl _ _) rfl)
      clear hK
      first | (go_simp; done) | (go_simp; rfl)
    · intro listed vals a wq K hD hst hj haft hun hK
      obtain ⟨v12, h12, j12⟩ := hD.dep hj haft 0 12 rfl rfl
      replace j12 : v12 = (.pointer (some ⟨gq, 0, none⟩)) := j12
      subst j12
      clear hD hj haft hun
      have e12 := eval_of h12
      refine step_now (v := .pointer (some ⟨gq, 0, none⟩)) (w' := wq) (wanted_free rfl) ?_ (hK _ _ (Below.refl _ _) rfl)
      clear hK
      first | (go_simp; done) | (go_simp; rfl)
    · intro listed vals a wq K hD hst hj haft hun hK
      obtain ⟨v13, h13, j13⟩ := hD.dep hj haft 1 13 rfl rfl
      replace j13 : v13 = (.pointer (some ⟨gq, 0, none⟩)) := j13
      subst j13
      clear hD hj haft hun
      have e13 := eval_of h13
      refine step_now (v := .pointer (some ⟨gq, 0, none⟩)) (w' := wq) (wanted_free rfl) ?_ (hK _ _ (Below.refl _ _) rfl)
      clear hK
      first | (go_simp; done) | (go_simp; rfl)
    · intro listed vals a wq K hD hst hj haft hun hK
      obtain ⟨v14, h14, j14⟩ := hD.dep hj haft 2 14 rfl rfl
      replace j14 : v14 = (.pointer (some ⟨gq, 0, none⟩)) := j14
      subst j14
      replace hst : Below _ _ wq := hst
      clear hD hj haft hun
      have e14 := eval_of h14
      exact step_now (v := .agg #[.int .u64 sa, .int .u64 sb]) (w' := wq) (wanted_free rfl) (rg_loadmid rfl e14 (blk_range (blk_below Bgq_2.out hst) 0 [.int .u64 sa, .int .u64 sb] rfl) Try.underlying30 rfl (by kernel_rfl)) (hK _ _ (Below.refl _ _) rfl)
    · intro listed vals a wq K hD hst hj haft hun hK
      have h5 := hD.out 5 rfl rfl
      replace hst : Below _ _ wq := hst
      clear hD hj haft hun
      have e5 := eval_of h5
      exact step_now (v := .agg #[.int .i64 p, .int .u64 sh, .int .u64 sl, .int .u64 dh, .int .u64 dl, .int .i64 sp, .int .i64 dp]) (w' := wq) (wanted_free rfl) (rg_loadall rfl e5 (blk_below Bg5_2.out hst) Try.underlying29 rfl (by kernel_rfl)) (hK _ _ (Below.refl _ _) rfl)
    · intro listed vals a wq K hD hst hj haft hun hK
      have h9 := hD.out 9 rfl rfl
      clear hD hj haft hun
      have e9 := eval_of h9
      refine step_now (v := .int .i64 (now / 16)) (w' := wq) (wanted_free rfl) ?_ (hK _ _ (Below.refl _ _) rfl)
      clear hK
      first | (go_simp; done) | (go_simp; rfl) | (go_simp; (try simp only [IntKind.wrap_u32]); omega)
    · intro listed vals a wq K hD hst hj haft hun hK
      have h3 := hD.out 3 rfl rfl
      clear hD hj haft hun
      have e3 := eval_of h3
      refine step_now (v := .int .u32 nn) (w' := wq) (wanted_free rfl) ?_ (hK _ _ (Below.refl _ _) rfl)
      clear hK
      first | (go_simp; done) | (go_simp; rfl) | (go_simp; (try simp only [IntKind.wrap_u32]); omega)
    · intro listed vals a wq K hD hst hj haft hun hK
      obtain ⟨v15, h15, j15⟩ := hD.dep hj haft 3 15 rfl rfl
      replace j15 : v15 = (.agg #[.int .u64 sa, .int .u64 sb]) := j15
      subst j15
      obtain ⟨v16, h16, j16⟩ := hD.dep hj haft 4 16 rfl rfl
      replace j16 : v16 = (.agg #[.int .i64 p, .int .u64 sh, .int .u64 sl, .int .u64 dh, .int .u64 dl, .int .i64 sp, .int .i64 dp]) := j16
      subst j16
      obtain ⟨v17, h17, j17⟩ := hD.dep hj haft 5 17 rfl rfl
      replace j17 : v17 = (.int .i64 (now / 16)) := j17
      subst j17
      obtain ⟨v18, h18, j18⟩ := hD.dep hj haft 6 18 rfl rfl
      replace j18 : v18 = (.int .u32 nn) := j18
      subst j18
      clear hD hj haft hun
      have e15 := eval_of h15
      have e16 := eval_of h16
      have e17 := eval_of h17
      have e18 := eval_of h18
      refine step_call (f := 49) (args := #[.agg #[.int .u64 sa, .int .u64 sb], .agg #[.int .i64 p, .int .u64 sh, .int .u64 sl, .int .u64 dh, .int .u64 dl, .int .i64 sp, .int .i64 dp], .int .i64 (now / 16), .int .u32 nn]) (wanted_free rfl) ?_ (two_w sa sb p sh sl dh dl sp dp (now / 16) nn b1 h1.out wq) ?_
      · clear hK; first | (go_simp; done) | (go_simp; rfl)
      · rintro e w' ⟨he, hbq⟩; exact ⟨_, he, hK _ _ hbq rfl⟩
    · intro listed vals a wq K hD hst hj haft hun hK
      obtain ⟨v19, h19, j19⟩ := hD.dep hj haft 7 19 rfl rfl
      replace j19 : v19 = (.bool (b1)) := j19
      subst j19
      clear hD hj haft hun
      have e19 := eval_of h19
      refine step_now (v := .bool (b1)) (w' := wq) (wanted_free rfl) ?_ (hK _ _ (Below.refl _ _) rfl)
      clear hK
      first | (go_simp; done) | (go_simp; rfl)
    · intro listed vals a wq K hD hst hj haft hun hK
      obtain ⟨v20, h20, j20⟩ := hD.dep hj haft 8 20 rfl rfl
      replace j20 : v20 = (.bool (b1)) := j20
      subst j20
      have h0 := hD.out 0 rfl rfl
      clear hD hj haft hun
      rcases hE : (b1) with _ | _
      · rw [hE] at h20
        have e0 := eval_of h0
        refine step_now (v := .pointer (some ⟨gq, 0, none⟩)) (w' := wq) (wanted_on (t := 20) (u := false) rfl rfl rfl h20) ?_ (hK _ _ (Below.refl _ _) (fun _ => rfl))
        clear hK
        first | (go_simp; done) | (go_simp; rfl)
      · rw [hE] at h20
        exact step_off (wanted_off (t := 20) (u := false) rfl rfl rfl h20) (hK _ _ (Below.refl _ _) (fun h => by rw [hE] at h; cases h))
    · intro listed vals a wq K hD hst hj haft hun hK
      obtain ⟨v21, h21, j21⟩ := hD.dep hj haft 9 21 rfl rfl
      replace j21 : (b1) = false → v21 = (.pointer (some ⟨gq, 0, none⟩)) := j21
      obtain ⟨v20, h20, j20⟩ := hD.dep hj haft 8 20 rfl rfl
      replace j20 : v20 = (.bool (b1)) := j20
      subst j20
      clear hD hj haft hun
      rcases hE : (b1) with _ | _
      · rw [hE] at h20
        obtain rfl := j21 hE
        have e21 := eval_of h21
        refine step_now (v := .pointer (some ⟨gq, 0, none⟩)) (w' := wq) (wanted_on (t := 20) (u := false) rfl rfl rfl h20) ?_ (hK _ _ (Below.refl _ _) (fun _ => rfl))
        clear hK
        first | (go_simp; done) | (go_simp; rfl)
      · rw [hE] at h20
        exact step_off (wanted_off (t := 20) (u := false) rfl rfl rfl h20) (hK _ _ (Below.refl _ _) (fun h => by rw [hE] at h; cases h))
    · intro listed vals a wq K hD hst hj haft hun hK
      obtain ⟨v22, h22, j22⟩ := hD.dep hj haft 10 22 rfl rfl
      replace j22 : (b1) = false → v22 = (.pointer (some ⟨gq, 0, none⟩)) := j22
      obtain ⟨v20, h20, j20⟩ := hD.dep hj haft 8 20 rfl rfl
      replace j20 : v20 = (.bool (b1)) := j20
      subst j20
      clear hD hj haft hun
      rcases hE : (b1) with _ | _
      · rw [hE] at h20
        obtain rfl := j22 hE
        have e22 := eval_of h22
        refine step_now (v := .pointer (some ⟨gq, 4, none⟩)) (w' := wq) (wanted_on (t := 20) (u := false) rfl rfl rfl h20) ?_ (hK _ _ (Below.refl _ _) (fun _ => rfl))
        clear hK
        first | (go_simp; done) | (go_simp; rfl)
      · rw [hE] at h20
        exact step_off (wanted_off (t := 20) (u := false) rfl rfl rfl h20) (hK _ _ (Below.refl _ _) (fun h => by rw [hE] at h; cases h))
    · intro listed vals a wq K hD hst hj haft hun hK
      obtain ⟨v23, h23, j23⟩ := hD.dep hj haft 11 23 rfl rfl
      replace j23 : (b1) = false → v23 = (.pointer (some ⟨gq, 4, none⟩)) := j23
      obtain ⟨v20, h20, j20⟩ := hD.dep hj haft 8 20 rfl rfl
      replace j20 : v20 = (.bool (b1)) := j20
      subst j20
      replace hst : Below _ _ wq := hst
      clear hD hj haft hun
      rcases hE : (b1) with _ | _
      · rw [hE] at h20
        obtain rfl := j23 hE
        have e23 := eval_of h23
        exact step_now (v := .bool hs) (w' := wq) (wanted_on (t := 20) (u := false) rfl rfl rfl h20) (rg_load rfl e23 (blk_below Bgq_2.out hst) rfl Try.underlying4 rfl) (hK _ _ (Below.refl _ _) (fun _ => rfl))
      · rw [hE] at h20
        exact step_off (wanted_off (t := 20) (u := false) rfl rfl rfl h20) (hK _ _ (Below.refl _ _) (fun h => by rw [hE] at h; cases h))
    · intro listed vals a wq K hD hst hj haft hun hK
      obtain ⟨v24, h24, j24⟩ := hD.dep hj haft 12 24 rfl rfl
      replace j24 : (b1) = false → v24 = (.bool hs) := j24
      obtain ⟨v20, h20, j20⟩ := hD.dep hj haft 8 20 rfl rfl
      replace j20 : v20 = (.bool (b1)) := j20
      subst j20
      clear hD hj haft hun
      rcases hE : (b1) with _ | _
      · rw [hE] at h20
        obtain rfl := j24 hE
        have e24 := eval_of h24
        refine step_now (v := .bool hs) (w' := wq) (wanted_on (t := 20) (u := false) rfl rfl rfl h20) ?_ (hK _ _ (Below.refl _ _) ⟨(fun _ => rfl), (fun h => by rw [hE] at h; cases h)⟩)
        clear hK
        first | (go_simp; done) | (go_simp; rfl)
      · rw [hE] at h20
        exact step_off (wanted_off (t := 20) (u := false) rfl rfl rfl h20) (hK _ _ (Below.refl _ _) ⟨(fun h => by rw [hE] at h; cases h), fun _ => rfl⟩)
    · intro listed vals a wq K hD hst hj haft hun hK
      obtain ⟨v25, h25, j25⟩ := hD.dep hj haft 13 25 rfl rfl
      replace j25 : ((b1) = false → v25 = (.bool hs)) ∧ ((b1) = true → v25 = undef) := j25
      have h9 := hD.out 9 rfl rfl
      clear hD hj haft hun
      rcases hE : (((b1 == false) && ((hs) == true))) with _ | _
      · exact step_off (wanted_nest (t := 25) rfl rfl rfl h25 j25 hE) (hK _ _ (Below.refl _ _) (fun h => by rw [hE] at h; cases h))
      · have e9 := eval_of h9
        refine step_now (v := .int .i64 (now / 16)) (w' := wq) (wanted_nest_on (t := 25) rfl rfl rfl h25 j25 hE) ?_ (hK _ _ (Below.refl _ _) (fun _ => rfl))
        clear hK
        first | (go_simp; done) | (go_simp; rfl) | (go_simp; (try simp only [IntKind.wrap_u32]); omega)
    · intro listed vals a wq K hD hst hj haft hun hK
      obtain ⟨v25, h25, j25⟩ := hD.dep hj haft 13 25 rfl rfl
      replace j25 : ((b1) = false → v25 = (.bool hs)) ∧ ((b1) = true → v25 = undef) := j25
      have h0 := hD.out 0 rfl rfl
      clear hD hj haft hun
      rcases hE : (((b1 == false) && ((hs) == true))) with _ | _
      · exact step_off (wanted_nest (t := 25) rfl rfl rfl h25 j25 hE) (hK _ _ (Below.refl _ _) (fun h => by rw [hE] at h; cases h))
      · have e0 := eval_of h0
        refine step_now (v := .pointer (some ⟨gq, 0, none⟩)) (w' := wq) (wanted_nest_on (t := 25) rfl rfl rfl h25 j25 hE) ?_ (hK _ _ (Below.refl _ _) (fun _ => rfl))
        clear hK
        first | (go_simp; done) | (go_simp; rfl)
    · intro listed vals a wq K hD hst hj haft hun hK
      obtain ⟨v27, h27, j27⟩ := hD.dep hj haft 15 27 rfl rfl
      replace j27 : (((b1 == false) && ((hs) == true))) = true → v27 = (.pointer (some ⟨gq, 0, none⟩)) := j27
      obtain ⟨v25, h25, j25⟩ := hD.dep hj haft 13 25 rfl rfl
      replace j25 : ((b1) = false → v25 = (.bool hs)) ∧ ((b1) = true → v25 = undef) := j25
      clear hD hj haft hun
      rcases hE : (((b1 == false) && ((hs) == true))) with _ | _
      · exact step_off (wanted_nest (t := 25) rfl rfl rfl h25 j25 hE) (hK _ _ (Below.refl _ _) (fun h => by rw [hE] at h; cases h))
      · obtain rfl := j27 hE
        have e27 := eval_of h27
        refine step_now (v := .pointer (some ⟨gq, 0, none⟩)) (w' := wq) (wanted_nest_on (t := 25) rfl rfl rfl h25 j25 hE) ?_ (hK _ _ (Below.refl _ _) (fun _ => rfl))
        clear hK
        first | (go_simp; done) | (go_simp; rfl)
    · intro listed vals a wq K hD hst hj haft hun hK
      obtain ⟨v28, h28, j28⟩ := hD.dep hj haft 16 28 rfl rfl
      replace j28 : (((b1 == false) && ((hs) == true))) = true → v28 = (.pointer (some ⟨gq, 0, none⟩)) := j28
      obtain ⟨v25, h25, j25⟩ := hD.dep hj haft 13 25 rfl rfl
      replace j25 : ((b1) = false → v25 = (.bool hs)) ∧ ((b1) = true → v25 = undef) := j25
      clear hD hj haft hun
      rcases hE : (((b1 == false) && ((hs) == true))) with _ | _
      · exact step_off (wanted_nest (t := 25) rfl rfl rfl h25 j25 hE) (hK _ _ (Below.refl _ _) (fun h => by rw [hE] at h; cases h))
      · obtain rfl := j28 hE
        have e28 := eval_of h28
        refine step_now (v := .pointer (some ⟨gq, 5, none⟩)) (w' := wq) (wanted_nest_on (t := 25) rfl rfl rfl h25 j25 hE) ?_ (hK _ _ (Below.refl _ _) (fun _ => rfl))
        clear hK
        first | (go_simp; done) | (go_simp; rfl)
    · intro listed vals a wq K hD hst hj haft hun hK
      obtain ⟨v29, h29, j29⟩ := hD.dep hj haft 17 29 rfl rfl
      replace j29 : (((b1 == false) && ((hs) == true))) = true → v29 = (.pointer (some ⟨gq, 5, none⟩)) := j29
      obtain ⟨v25, h25, j25⟩ := hD.dep hj haft 13 25 rfl rfl
      replace j25 : ((b1) = false → v25 = (.bool hs)) ∧ ((b1) = true → v25 = undef) := j25
      replace hst : Below _ _ wq := hst
      clear hD hj haft hun
      rcases hE : (((b1 == false) && ((hs) == true))) with _ | _
      · exact step_off (wanted_nest (t := 25) rfl rfl rfl h25 j25 hE) (hK _ _ (Below.refl _ _) (fun h => by rw [hE] at h; cases h))
      · obtain rfl := j29 hE
        have e29 := eval_of h29
        exact step_now (v := .int .i64 till) (w' := wq) (wanted_nest_on (t := 25) rfl rfl rfl h25 j25 hE) (rg_load rfl e29 (blk_below Bgq_2.out hst) rfl Try.underlying3 rfl) (hK _ _ (Below.refl _ _) (fun _ => rfl))
    · intro listed vals a wq K hD hst hj haft hun hK
      obtain ⟨v26, h26, j26⟩ := hD.dep hj haft 14 26 rfl rfl
      replace j26 : (((b1 == false) && ((hs) == true))) = true → v26 = (.int .i64 (now / 16)) := j26
      obtain ⟨v30, h30, j30⟩ := hD.dep hj haft 18 30 rfl rfl
      replace j30 : (((b1 == false) && ((hs) == true))) = true → v30 = (.int .i64 till) := j30
      obtain ⟨v25, h25, j25⟩ := hD.dep hj haft 13 25 rfl rfl
      replace j25 : ((b1) = false → v25 = (.bool hs)) ∧ ((b1) = true → v25 = undef) := j25
      clear hD hj haft hun
      rcases hE : (((b1 == false) && ((hs) == true))) with _ | _
      · exact step_off (wanted_nest (t := 25) rfl rfl rfl h25 j25 hE) (hK _ _ (Below.refl _ _) (fun h => by rw [hE] at h; cases h))
      · obtain rfl := j26 hE
        obtain rfl := j30 hE
        have e26 := eval_of h26
        have e30 := eval_of h30
        refine step_now (v := .bool (decide (now / 16 ≤ till))) (w' := wq) (wanted_nest_on (t := 25) rfl rfl rfl h25 j25 hE) ?_ (hK _ _ (Below.refl _ _) (fun _ => rfl))
        clear hK
        first | (go_simp; done) | (go_simp; rfl)
    · intro listed vals a wq K hD hst hj haft hun hK
      obtain ⟨v25, h25, j25⟩ := hD.dep hj haft 13 25 rfl rfl
      replace j25 : ((b1) = false → v25 = (.bool hs)) ∧ ((b1) = true → v25 = undef) := j25
      obtain ⟨v31, h31, j31⟩ := hD.dep hj haft 19 31 rfl rfl
      replace j31 : (((b1 == false) && ((hs) == true))) = true → v31 = (.bool (decide (now / 16 ≤ till))) := j31
      obtain ⟨v20, h20, j20⟩ := hD.dep hj haft 8 20 rfl rfl
      replace j20 : v20 = (.bool (b1)) := j20
      subst j20
      clear hD hj haft hun
      rcases hE : (b1) with _ | _
      · rw [hE] at h20
        obtain rfl := j25.1 hE
        rcases hP : (hs) with _ | _
        · rw [hP] at h25
          have e25 := eval_of h25
          have e31 := eval_of h31
          refine step_now (v := .bool ((hs && decide (now / 16 ≤ till)))) (w' := wq) (wanted_on (t := 20) (u := false) rfl rfl rfl h20) ?_ (hK _ _ (Below.refl _ _) (fun _ => rfl))
          rw [hP]
          clear hK
          first | (go_simp; done) | (go_simp; rfl) | (go_simp; (try simp only [IntKind.wrap_u32]); omega)
        · rw [hP] at h25
          obtain rfl := j31 (by rw [hE, hP]; rfl)
          have e25 := eval_of h25
          have e31 := eval_of h31
          refine step_now (v := .bool ((hs && decide (now / 16 ≤ till)))) (w' := wq) (wanted_on (t := 20) (u := false) rfl rfl rfl h20) ?_ (hK _ _ (Below.refl _ _) (fun _ => rfl))
          rw [hP]
          clear hK
          first | (go_simp; done) | (go_simp; rfl) | (go_simp; (try simp only [IntKind.wrap_u32]); omega)
      · rw [hE] at h20
        exact step_off (wanted_off (t := 20) (u := false) rfl rfl rfl h20) (hK _ _ (Below.refl _ _) (fun h => by rw [hE] at h; cases h))
    · intro listed vals a wq K hD hst hj haft hun hK
      obtain ⟨v32, h32, j32⟩ := hD.dep hj haft 20 32 rfl rfl
      replace j32 : (b1) = false → v32 = (.bool ((hs && decide (now / 16 ≤ till)))) := j32
      obtain ⟨v20, h20, j20⟩ := hD.dep hj haft 8 20 rfl rfl
      replace j20 : v20 = (.bool (b1)) := j20
      subst j20
      clear hD hj haft hun
      rcases hE : (b1) with _ | _
      · rw [hE] at h20
        obtain rfl := j32 hE
        have e32 := eval_of h32
        refine step_now (v := .bool ((hs && decide (now / 16 ≤ till)))) (w' := wq) (wanted_on (t := 20) (u := false) rfl rfl rfl h20) ?_ (hK _ _ (Below.refl _ _) ⟨(fun _ => rfl), (fun h => by rw [hE] at h; cases h)⟩)
        clear hK
        first | (go_simp; done) | (go_simp; rfl)
      · rw [hE] at h20
        exact step_off (wanted_off (t := 20) (u := false) rfl rfl rfl h20) (hK _ _ (Below.refl _ _) ⟨(fun h => by rw [hE] at h; cases h), fun _ => rfl⟩)
    · intro listed vals a wq K hD hst hj haft hun hK
      obtain ⟨v33, h33, j33⟩ := hD.dep hj haft 21 33 rfl rfl
      replace j33 : ((b1) = false → v33 = (.bool ((hs && decide (now / 16 ≤ till))))) ∧ ((b1) = true → v33 = undef) := j33
      have h0 := hD.out 0 rfl rfl
      clear hD hj haft hun
      rcases hE : (((b1 == false) && (((hs && decide (now / 16 ≤ till))) == true))) with _ | _
      · exact step_off (wanted_nest (t := 33) rfl rfl rfl h33 j33 hE) (hK _ _ (Below.refl _ _) (fun h => by rw [hE] at h; cases h))
      · have e0 := eval_of h0
        refine step_now (v := .pointer (some ⟨gq, 0, none⟩)) (w' := wq) (wanted_nest_on (t := 33) rfl rfl rfl h33 j33 hE) ?_ (hK _ _ (Below.refl _ _) (fun _ => rfl))
        clear hK
        first | (go_simp; done) | (go_simp; rfl)
    · intro listed vals a wq K hD hst hj haft hun hK
      obtain ⟨v34, h34, j34⟩ := hD.dep hj haft 22 34 rfl rfl
      replace j34 : (((b1 == false) && (((hs && decide (now / 16 ≤ till))) == true))) = true → v34 = (.pointer (some ⟨gq, 0, none⟩)) := j34
      obtain ⟨v33, h33, j33⟩ := hD.dep hj haft 21 33 rfl rfl
      replace j33 : ((b1) = false → v33 = (.bool ((hs && decide (now / 16 ≤ till))))) ∧ ((b1) = true → v33 = undef) := j33
      clear hD hj haft hun
      rcases hE : (((b1 == false) && (((hs && decide (now / 16 ≤ till))) == true))) with _ | _
      · exact step_off (wanted_nest (t := 33) rfl rfl rfl h33 j33 hE) (hK _ _ (Below.refl _ _) (fun h => by rw [hE] at h; cases h))
      · obtain rfl := j34 hE
        have e34 := eval_of h34
        refine step_now (v := .pointer (some ⟨gq, 0, none⟩)) (w' := wq) (wanted_nest_on (t := 33) rfl rfl rfl h33 j33 hE) ?_ (hK _ _ (Below.refl _ _) (fun _ => rfl))
        clear hK
        first | (go_simp; done) | (go_simp; rfl)
    · intro listed vals a wq K hD hst hj haft hun hK
      obtain ⟨v35, h35, j35⟩ := hD.dep hj haft 23 35 rfl rfl
      replace j35 : (((b1 == false) && (((hs && decide (now / 16 ≤ till))) == true))) = true → v35 = (.pointer (some ⟨gq, 0, none⟩)) := j35
      obtain ⟨v33, h33, j33⟩ := hD.dep hj haft 21 33 rfl rfl
      replace j33 : ((b1) = false → v33 = (.bool ((hs && decide (now / 16 ≤ till))))) ∧ ((b1) = true → v33 = undef) := j33
      clear hD hj haft hun
      rcases hE : (((b1 == false) && (((hs && decide (now / 16 ≤ till))) == true))) with _ | _
      · exact step_off (wanted_nest (t := 33) rfl rfl rfl h33 j33 hE) (hK _ _ (Below.refl _ _) (fun h => by rw [hE] at h; cases h))
      · obtain rfl := j35 hE
        have e35 := eval_of h35
        refine step_now (v := .pointer (some ⟨gq, 2, none⟩)) (w' := wq) (wanted_nest_on (t := 33) rfl rfl rfl h33 j33 hE) ?_ (hK _ _ (Below.refl _ _) (fun _ => rfl))
        clear hK
        first | (go_simp; done) | (go_simp; rfl)
    · intro listed vals a wq K hD hst hj haft hun hK
      obtain ⟨v36, h36, j36⟩ := hD.dep hj haft 24 36 rfl rfl
      replace j36 : (((b1 == false) && (((hs && decide (now / 16 ≤ till))) == true))) = true → v36 = (.pointer (some ⟨gq, 2, none⟩)) := j36
      obtain ⟨v33, h33, j33⟩ := hD.dep hj haft 21 33 rfl rfl
      replace j33 : ((b1) = false → v33 = (.bool ((hs && decide (now / 16 ≤ till))))) ∧ ((b1) = true → v33 = undef) := j33
      replace hst : Below _ _ wq := hst
      clear hD hj haft hun
      rcases hE : (((b1 == false) && (((hs && decide (now / 16 ≤ till))) == true))) with _ | _
      · exact step_off (wanted_nest (t := 33) rfl rfl rfl h33 j33 hE) (hK _ _ (Below.refl _ _) (fun h => by rw [hE] at h; cases h))
      · obtain rfl := j36 hE
        have e36 := eval_of h36
        exact step_now (v := .agg #[.int .u64 oa, .int .u64 ob]) (w' := wq) (wanted_nest_on (t := 33) rfl rfl rfl h33 j33 hE) (rg_loadmid rfl e36 (blk_range (blk_below Bgq_2.out hst) 2 [.int .u64 oa, .int .u64 ob] rfl) Try.underlying30 rfl (by kernel_rfl)) (hK _ _ (Below.refl _ _) (fun _ => rfl))
    · intro listed vals a wq K hD hst hj haft hun hK
      obtain ⟨v33, h33, j33⟩ := hD.dep hj haft 21 33 rfl rfl
      replace j33 : ((b1) = false → v33 = (.bool ((hs && decide (now / 16 ≤ till))))) ∧ ((b1) = true → v33 = undef) := j33
      have h5 := hD.out 5 rfl rfl
      replace hst : Below _ _ wq := hst
      clear hD hj haft hun
      rcases hE : (((b1 == false) && (((hs && decide (now / 16 ≤ till))) == true))) with _ | _
      · exact step_off (wanted_nest (t := 33) rfl rfl rfl h33 j33 hE) (hK _ _ (Below.refl _ _) (fun h => by rw [hE] at h; cases h))
      · have e5 := eval_of h5
        exact step_now (v := .agg #[.int .i64 p, .int .u64 sh, .int .u64 sl, .int .u64 dh, .int .u64 dl, .int .i64 sp, .int .i64 dp]) (w' := wq) (wanted_nest_on (t := 33) rfl rfl rfl h33 j33 hE) (rg_loadall rfl e5 (blk_below Bg5_2.out hst) Try.underlying29 rfl (by kernel_rfl)) (hK _ _ (Below.refl _ _) (fun _ => rfl))
    · intro listed vals a wq K hD hst hj haft hun hK
      obtain ⟨v33, h33, j33⟩ := hD.dep hj haft 21 33 rfl rfl
      replace j33 : ((b1) = false → v33 = (.bool ((hs && decide (now / 16 ≤ till))))) ∧ ((b1) = true → v33 = undef) := j33
      have h9 := hD.out 9 rfl rfl
      clear hD hj haft hun
      rcases hE : (((b1 == false) && (((hs && decide (now / 16 ≤ till))) == true))) with _ | _
      · exact step_off (wanted_nest (t := 33) rfl rfl rfl h33 j33 hE) (hK _ _ (Below.refl _ _) (fun h => by rw [hE] at h; cases h))
      · have e9 := eval_of h9
        refine step_now (v := .int .i64 (now / 16)) (w' := wq) (wanted_nest_on (t := 33) rfl rfl rfl h33 j33 hE) ?_ (hK _ _ (Below.refl _ _) (fun _ => rfl))
        clear hK
        first | (go_simp; done) | (go_simp; rfl) | (go_simp; (try simp only [IntKind.wrap_u32]); omega)
    · intro listed vals a wq K hD hst hj haft hun hK
      obtain ⟨v33, h33, j33⟩ := hD.dep hj haft 21 33 rfl rfl
      replace j33 : ((b1) = false → v33 = (.bool ((hs && decide (now / 16 ≤ till))))) ∧ ((b1) = true → v33 = undef) := j33
      have h3 := hD.out 3 rfl rfl
      clear hD hj haft hun
      rcases hE : (((b1 == false) && (((hs && decide (now / 16 ≤ till))) == true))) with _ | _
      · exact step_off (wanted_nest (t := 33) rfl rfl rfl h33 j33 hE) (hK _ _ (Below.refl _ _) (fun h => by rw [hE] at h; cases h))
      · have e3 := eval_of h3
        refine step_now (v := .int .u32 nn) (w' := wq) (wanted_nest_on (t := 33) rfl rfl rfl h33 j33 hE) ?_ (hK _ _ (Below.refl _ _) (fun _ => rfl))
        clear hK
        first | (go_simp; done) | (go_simp; rfl) | (go_simp; (try simp only [IntKind.wrap_u32]); omega)
    · intro listed vals a wq K hD hst hj haft hun hK
      obtain ⟨v37, h37, j37⟩ := hD.dep hj haft 25 37 rfl rfl
      replace j37 : (((b1 == false) && (((hs && decide (now / 16 ≤ till))) == true))) = true → v37 = (.agg #[.int .u64 oa, .int .u64 ob]) := j37
      obtain ⟨v38, h38, j38⟩ := hD.dep hj haft 26 38 rfl rfl
      replace j38 : (((b1 == false) && (((hs && decide (now / 16 ≤ till))) == true))) = true → v38 = (.agg #[.int .i64 p, .int .u64 sh, .int .u64 sl, .int .u64 dh, .int .u64 dl, .int .i64 sp, .int .i64 dp]) := j38
      obtain ⟨v39, h39, j39⟩ := hD.dep hj haft 27 39 rfl rfl
      replace j39 : (((b1 == false) && (((hs && decide (now / 16 ≤ till))) == true))) = true → v39 = (.int .i64 (now / 16)) := j39
      obtain ⟨v40, h40, j40⟩ := hD.dep hj haft 28 40 rfl rfl
      replace j40 : (((b1 == false) && (((hs && decide (now / 16 ≤ till))) == true))) = true → v40 = (.int .u32 nn) := j40
      obtain ⟨v33, h33, j33⟩ := hD.dep hj haft 21 33 rfl rfl
      replace j33 : ((b1) = false → v33 = (.bool ((hs && decide (now / 16 ≤ till))))) ∧ ((b1) = true → v33 = undef) := j33
      clear hD hj haft hun
      rcases hE : (((b1 == false) && (((hs && decide (now / 16 ≤ till))) == true))) with _ | _
      · exact step_off (wanted_nest (t := 33) rfl rfl rfl h33 j33 hE) (hK _ _ (Below.refl _ _) (fun h => by rw [hE] at h; cases h))
      · obtain rfl := j37 hE
        obtain rfl := j38 hE
        obtain rfl := j39 hE
        obtain rfl := j40 hE
        have e37 := eval_of h37
        have e38 := eval_of h38
        have e39 := eval_of h39
        have e40 := eval_of h40
        refine step_call (f := 49) (args := #[.agg #[.int .u64 oa, .int .u64 ob], .agg #[.int .i64 p, .int .u64 sh, .int .u64 sl, .int .u64 dh, .int .u64 dl, .int .i64 sp, .int .i64 dp], .int .i64 (now / 16), .int .u32 nn]) (wanted_nest_on (t := 33) rfl rfl rfl h33 j33 hE) ?_ (two_w oa ob p sh sl dh dl sp dp (now / 16) nn b2 h2.out wq) ?_
        · clear hK; first | (go_simp; done) | (go_simp; rfl)
        · rintro e w' ⟨he, hbq⟩; exact ⟨_, he, hK _ _ hbq (fun _ => rfl)⟩
    · intro listed vals a wq K hD hst hj haft hun hK
      obtain ⟨v33, h33, j33⟩ := hD.dep hj haft 21 33 rfl rfl
      replace j33 : ((b1) = false → v33 = (.bool ((hs && decide (now / 16 ≤ till))))) ∧ ((b1) = true → v33 = undef) := j33
      obtain ⟨v41, h41, j41⟩ := hD.dep hj haft 29 41 rfl rfl
      replace j41 : (((b1 == false) && (((hs && decide (now / 16 ≤ till))) == true))) = true → v41 = (.bool (b2)) := j41
      obtain ⟨v20, h20, j20⟩ := hD.dep hj haft 8 20 rfl rfl
      replace j20 : v20 = (.bool (b1)) := j20
      subst j20
      clear hD hj haft hun
      rcases hE : (b1) with _ | _
      · rw [hE] at h20
        obtain rfl := j33.1 hE
        rcases hP : ((hs && decide (now / 16 ≤ till))) with _ | _
        · rw [hP] at h33
          have e33 := eval_of h33
          have e41 := eval_of h41
          refine step_now (v := .bool (((hs && decide (now / 16 ≤ till)) && b2))) (w' := wq) (wanted_on (t := 20) (u := false) rfl rfl rfl h20) ?_ (hK _ _ (Below.refl _ _) (fun _ => rfl))
          rw [hP]
          clear hK
          first | (go_simp; done) | (go_simp; rfl) | (go_simp; (try simp only [IntKind.wrap_u32]); omega)
        · rw [hP] at h33
          obtain rfl := j41 (by rw [hE, hP]; rfl)
          have e33 := eval_of h33
          have e41 := eval_of h41
          refine step_now (v := .bool (((hs && decide (now / 16 ≤ till)) && b2))) (w' := wq) (wanted_on (t := 20) (u := false) rfl rfl rfl h20) ?_ (hK _ _ (Below.refl _ _) (fun _ => rfl))
          rw [hP]
          clear hK
          first | (go_simp; done) | (go_simp; rfl) | (go_simp; (try simp only [IntKind.wrap_u32]); omega)
      · rw [hE] at h20
        exact step_off (wanted_off (t := 20) (u := false) rfl rfl rfl h20) (hK _ _ (Below.refl _ _) (fun h => by rw [hE] at h; cases h))
    · intro listed vals a wq K hD hst hj haft hun hK
      obtain ⟨v20, h20, j20⟩ := hD.dep hj haft 8 20 rfl rfl
      replace j20 : v20 = (.bool (b1)) := j20
      subst j20
      obtain ⟨v42, h42, j42⟩ := hD.dep hj haft 30 42 rfl rfl
      replace j42 : (b1) = false → v42 = (.bool (((hs && decide (now / 16 ≤ till)) && b2))) := j42
      clear hD hj haft hun
      rcases hE : (b1) with _ | _
      · rw [hE] at h20
        obtain rfl := j42 hE
        have e20 := eval_of h20
        have e42 := eval_of h42
        refine step_now (v := .bool ((b1 || ((hs && decide (now / 16 ≤ till)) && b2)))) (w' := wq) (wanted_free rfl) ?_ (hK _ _ (Below.refl _ _) rfl)
        rw [hE]
        clear hK
        first | (go_simp; done) | (go_simp; rfl) | (go_simp; (try simp only [IntKind.wrap_u32]); omega)
      · rw [hE] at h20
        have e20 := eval_of h20
        have e42 := eval_of h42
        refine step_now (v := .bool ((b1 || ((hs && decide (now / 16 ≤ till)) && b2)))) (w' := wq) (wanted_free rfl) ?_ (hK _ _ (Below.refl _ _) rfl)
        rw [hE]
        clear hK
        first | (go_simp; done) | (go_simp; rfl) | (go_simp; (try simp only [IntKind.wrap_u32]); omega)
    · intro listed vals a wq K hD hst hj haft hun hK
      obtain ⟨v43, h43, j43⟩ := hD.dep hj haft 31 43 rfl rfl
      replace j43 : v43 = (.bool ((b1 || ((hs && decide (now / 16 ≤ till)) && b2)))) := j43
      subst j43
      clear hD hj haft hun
      have e43 := eval_of h43
      refine step_now (v := .bool ((b1 || ((hs && decide (now / 16 ≤ till)) && b2)))) (w' := wq) (wanted_free rfl) ?_ (hK _ _ (Below.refl _ _) rfl)
      clear hK
      first | (go_simp; done) | (go_simp; rfl)
  intro vals wend hst hj
  have j0 : vals 0 = (.pointer (some ⟨gq, 0, none⟩)) := hj 0 (by decide)
  have j1 : vals 1 = (.pointer (some ⟨gq, 0, none⟩)) := hj 1 (by decide)
  have j2 : vals 2 = (.pointer (some ⟨gq, 0, none⟩)) := hj 2 (by decide)
  have j3 : vals 3 = (.agg #[.int .u64 sa, .int .u64 sb]) := hj 3 (by decide)
  have j4 : vals 4 = (.agg #[.int .i64 p, .int .u64 sh, .int .u64 sl, .int .u64 dh, .int .u64 dl, .int .i64 sp, .int .i64 dp]) := hj 4 (by decide)
  have j5 : vals 5 = (.int .i64 (now / 16)) := hj 5 (by decide)
  have j6 : vals 6 = (.int .u32 nn) := hj 6 (by decide)
  have j7 : vals 7 = (.bool (b1)) := hj 7 (by decide)
  have j8 : vals 8 = (.bool (b1)) := hj 8 (by decide)
  have j31 : vals 31 = (.bool ((b1 || ((hs && decide (now / 16 ≤ till)) && b2)))) := hj 31 (by decide)
  have j32 : vals 32 = (.bool ((b1 || ((hs && decide (now / 16 ≤ till)) && b2)))) := hj 32 (by decide)
  replace hst : Below _ _ wend := hst
  clear hj
  rw [putAll_list]
  simp only [putL, Act.put, List.setIfInBounds_toArray, List.set_cons_zero, List.set_cons_succ, j0, j1, j2, j3, j4, j5, j6, j7, j8, j31, j32]
  clear j0 j1 j2 j3 j4 j5 j6 j7 j8 j31 j32
  generalize vals 9 = u21_
  generalize vals 10 = u22_
  generalize vals 11 = u23_
  generalize vals 12 = u24_
  generalize vals 13 = u25_
  generalize vals 14 = u26_
  generalize vals 15 = u27_
  generalize vals 16 = u28_
  generalize vals 17 = u29_
  generalize vals 18 = u30_
  generalize vals 19 = u31_
  generalize vals 20 = u32_
  generalize vals 21 = u33_
  generalize vals 22 = u34_
  generalize vals 23 = u35_
  generalize vals 24 = u36_
  generalize vals 25 = u37_
  generalize vals 26 = u38_
  generalize vals 27 = u39_
  generalize vals 28 = u40_
  generalize vals 29 = u41_
  generalize vals 30 = u42_
  have HB_3 := Aside0.mk (below_step HB_2.out hst)
  clear HB_2
  have Bgq_3 := Aside0.mk (blk_below Bgq_2.out hst)
  clear Bgq_2
  have Bg5_3 := Aside0.mk (blk_below Bg5_2.out hst)
  clear Bg5_2
  clear hst
  go_wp2
  go_ret
  exact ⟨rfl, HB_3.out⟩
set_option maxRecDepth 100000 in
set_option maxHeartbeats 4000000 in
theorem rmake_any (gq : Nat) (sa sb oa ob till p sh sl dh dl sp dp now kv : Int) (hs : Bool) (hkv : ck sa sb p sh sl dh dl sp dp (now / 16) = kv) (w : World) (hk : w.heap[gq]? = some (.cells #[.int .u64 sa, .int .u64 sb, .int .u64 oa, .int .u64 ob, .bool hs, .int .i64 till] 63 (0, 0))) : Calls Try.prog 24 #[.pointer (some ⟨gq, 0, none⟩), .agg #[.int .i64 p, .int .u64 sh, .int .u64 sl, .int .u64 dh, .int .u64 dl, .int .i64 sp, .int .i64 dp], .int .i64 now] w fun e w' => e = .returned (.int .u32 kv) ∧ Below w.heap.size w w' := by
  have BQ := Aside0.mk hk
  have HKV := Aside0.mk hkv
  clear hk hkv
  go_enter Try.func24, Try.ntmps24
  go_upto_region 1 with (first | ((with_reducible refine gate_dst (N := 4) rfl ?_); refine box_event ?hg (N := 4) ?hd (cs := #[.int .i64 p, .int .u64 sh, .int .u64 sl, .int .u64 dh, .int .u64 dl, .int .i64 sp, .int .i64 dp]) (t := 29) ?hr ?_; (case hd => rfl); (case hg => rfl); (case hr => first | (go_simp; done) | (go_simp; rfl)); intro g4 hgg wx1 hbox hb; have Ngqg4 := Aside0.mk (show gq ≠ g4 by rw [hgg]; exact Nat.ne_of_lt (blk_lt BQ.out)); have Lg4 := Aside0.mk (show w.heap.size ≤ g4 by rw [hgg]; exact Nat.le_refl _); have HB_1 := Aside0.mk (hb); have Bgq_1 := Aside0.mk (blk_below BQ.out hb); clear BQ; have Bg4_1 := Aside0.mk hbox; clear hbox hb hgg))
  go_upto_region 1 with (fail)
  refine wp_region_rg (by kernel_rfl) (fun x y => Below x.heap.size x y) (fun (i : Nat) (v : Value) (w1 : World) => match i with | 0 => v = (.pointer (some ⟨gq, 0, none⟩)) | 1 => v = (.pointer (some ⟨gq, 0, none⟩)) | 2 => v = (.pointer (some ⟨gq, 0, none⟩)) | 3 => v = (.agg #[.int .u64 sa, .int .u64 sb]) | 4 => v = (.agg #[.int .i64 p, .int .u64 sh, .int .u64 sl, .int .u64 dh, .int .u64 dl, .int .i64 sp, .int .i64 dp]) | 5 => v = (.int .i64 now) | 6 => v = (.int .i64 (now / 16)) | 7 => v = (.int .u32 kv) | 8 => v = (.int .u32 kv) | _ => True) (by kernel_rfl) (by kernel_rfl) below_tr (Below.refl _ _).drew ?hJst3 (obl_list ?hObl3) ?hEnd3
  case hJst3 =>
    intro i v wx wy hi hs0 hs1 hJi
    match i, hi with
    | 0, _ => exact hJi
    | 1, _ => exact hJi
    | 2, _ => exact hJi
    | 3, _ => exact hJi
    | 4, _ => exact hJi
    | 5, _ => exact hJi
    | 6, _ => exact hJi
    | 7, _ => exact hJi
    | 8, _ => exact hJi
    | _ + 9, hi => exact absurd hi (by simp)
  case hObl3 =>
    refine ⟨?_, ?_, ?_, ?_, ?_, ?_, ?_, ?_, ?_,  trivial⟩
    · intro listed vals a wq K hD hst hj haft hun hK
      have h0 := hD.out 0 rfl rfl
      clear hD hj haft hun
      have e0 := eval_of h0
      refine step_now (v := .pointer (some ⟨gq, 0, none⟩)) (w' := wq) (wanted_free rfl) ?_ (hK _ _ (Below.refl _ _) rfl)
      clear hK
      first | (go_simp; done) | (go_simp; rfl)
    · intro listed vals a wq K hD hst hj haft hun hK
      obtain ⟨v7, h7, j7⟩ := hD.dep hj haft 0 7 rfl rfl
      replace j7 : v7 = (.pointer (some ⟨gq, 0, none⟩)) := j7
      subst j7
      clear hD hj haft hun
      have e7 := eval_of h7
      refine step_now (v := .pointer (some ⟨gq, 0, none⟩)) (w' := wq) (wanted_free rfl) ?_ (hK _ _ (Below.refl _ _) rfl)
      clear hK
      first | (go_simp; done) | (go_simp; rfl)
    · intro listed vals a wq K hD hst hj haft hun hK
      obtain ⟨v8, h8, j8⟩ := hD.dep hj haft 1 8 rfl rfl
      replace j8 : v8 = (.pointer (some ⟨gq, 0, none⟩)) := j8
      subst j8
      clear hD hj haft hun
      have e8 := eval_of h8
      refine step_now (v := .pointer (some ⟨gq, 0, none⟩)) (w' := wq) (wanted_free rfl) ?_ (hK _ _ (Below.refl _ _) rfl)
      clear hK
      first | (go_simp; done) | (go_simp; rfl)
    · intro listed vals a wq K hD hst hj haft hun hK
      obtain ⟨v9, h9, j9⟩ := hD.dep hj haft 2 9 rfl rfl
      replace j9 : v9 = (.pointer (some ⟨gq, 0, none⟩)) := j9
      subst j9
      replace hst : Below _ _ wq := hst
      clear hD hj haft hun
      have e9 := eval_of h9
      exact step_now (v := .agg #[.int .u64 sa, .int .u64 sb]) (w' := wq) (wanted_free rfl) (rg_loadmid rfl e9 (blk_range (blk_below Bgq_1.out hst) 0 [.int .u64 sa, .int .u64 sb] rfl) Try.underlying30 rfl (by kernel_rfl)) (hK _ _ (Below.refl _ _) rfl)
    · intro listed vals a wq K hD hst hj haft hun hK
      have h4 := hD.out 4 rfl rfl
      replace hst : Below _ _ wq := hst
      clear hD hj haft hun
      have e4 := eval_of h4
      exact step_now (v := .agg #[.int .i64 p, .int .u64 sh, .int .u64 sl, .int .u64 dh, .int .u64 dl, .int .i64 sp, .int .i64 dp]) (w' := wq) (wanted_free rfl) (rg_loadall rfl e4 (blk_below Bg4_1.out hst) Try.underlying29 rfl (by kernel_rfl)) (hK _ _ (Below.refl _ _) rfl)
    · intro listed vals a wq K hD hst hj haft hun hK
      have h2 := hD.out 2 rfl rfl
      clear hD hj haft hun
      have e2 := eval_of h2
      refine step_now (v := .int .i64 now) (w' := wq) (wanted_free rfl) ?_ (hK _ _ (Below.refl _ _) rfl)
      clear hK
      first | (go_simp; done) | (go_simp; rfl) | (go_simp; (try simp only [IntKind.wrap_u32]); omega)
    · intro listed vals a wq K hD hst hj haft hun hK
      obtain ⟨v12, h12, j12⟩ := hD.dep hj haft 5 12 rfl rfl
      replace j12 : v12 = (.int .i64 now) := j12
      subst j12
      clear hD hj haft hun
      have e12 := eval_of h12
      refine step_call (f := 16) (args := #[.int .i64 now]) (wanted_free rfl) ?_ (rwindow_any now wq) ?_
      · clear hK; first | (go_simp; done) | (go_simp; rfl)
      · rintro e w' ⟨he, hbq⟩; exact ⟨_, he, hK _ _ hbq rfl⟩
    · intro listed vals a wq K hD hst hj haft hun hK
      obtain ⟨v10, h10, j10⟩ := hD.dep hj haft 3 10 rfl rfl
      replace j10 : v10 = (.agg #[.int .u64 sa, .int .u64 sb]) := j10
      subst j10
      obtain ⟨v11, h11, j11⟩ := hD.dep hj haft 4 11 rfl rfl
      replace j11 : v11 = (.agg #[.int .i64 p, .int .u64 sh, .int .u64 sl, .int .u64 dh, .int .u64 dl, .int .i64 sp, .int .i64 dp]) := j11
      subst j11
      obtain ⟨v13, h13, j13⟩ := hD.dep hj haft 6 13 rfl rfl
      replace j13 : v13 = (.int .i64 (now / 16)) := j13
      subst j13
      clear hD hj haft hun
      have e10 := eval_of h10
      have e11 := eval_of h11
      have e13 := eval_of h13
      refine step_call (f := 14) (args := #[.agg #[.int .u64 sa, .int .u64 sb], .agg #[.int .i64 p, .int .u64 sh, .int .u64 sl, .int .u64 dh, .int .u64 dl, .int .i64 sp, .int .i64 dp], .int .i64 (now / 16)]) (wanted_free rfl) ?_ (rcookie_w sa sb p sh sl dh dl sp dp (now / 16) kv HKV.out wq) ?_
      · clear hK; first | (go_simp; done) | (go_simp; rfl)
      · rintro e w' ⟨he, hbq⟩; exact ⟨_, he, hK _ _ hbq rfl⟩
    · intro listed vals a wq K hD hst hj haft hun hK
      obtain ⟨v14, h14, j14⟩ := hD.dep hj haft 7 14 rfl rfl
      replace j14 : v14 = (.int .u32 kv) := j14
      subst j14
      clear hD hj haft hun
      have e14 := eval_of h14
      refine step_now (v := .int .u32 kv) (w' := wq) (wanted_free rfl) ?_ (hK _ _ (Below.refl _ _) rfl)
      clear hK
      first | (go_simp; done) | (go_simp; rfl) | (go_simp; (try simp only [IntKind.wrap_u32]); omega)
  intro vals wend hst hj
  have j0 : vals 0 = (.pointer (some ⟨gq, 0, none⟩)) := hj 0 (by decide)
  have j1 : vals 1 = (.pointer (some ⟨gq, 0, none⟩)) := hj 1 (by decide)
  have j2 : vals 2 = (.pointer (some ⟨gq, 0, none⟩)) := hj 2 (by decide)
  have j3 : vals 3 = (.agg #[.int .u64 sa, .int .u64 sb]) := hj 3 (by decide)
  have j4 : vals 4 = (.agg #[.int .i64 p, .int .u64 sh, .int .u64 sl, .int .u64 dh, .int .u64 dl, .int .i64 sp, .int .i64 dp]) := hj 4 (by decide)
  have j5 : vals 5 = (.int .i64 now) := hj 5 (by decide)
  have j6 : vals 6 = (.int .i64 (now / 16)) := hj 6 (by decide)
  have j7 : vals 7 = (.int .u32 kv) := hj 7 (by decide)
  have j8 : vals 8 = (.int .u32 kv) := hj 8 (by decide)
  replace hst : Below _ _ wend := hst
  clear hj
  rw [putAll_list]
  simp only [putL, Act.put, List.setIfInBounds_toArray, List.set_cons_zero, List.set_cons_succ, j0, j1, j2, j3, j4, j5, j6, j7, j8]
  clear j0 j1 j2 j3 j4 j5 j6 j7 j8
  have HB_2 := Aside0.mk (below_step HB_1.out hst)
  clear HB_1
  have Bgq_2 := Aside0.mk (blk_below Bgq_1.out hst)
  clear Bgq_1
  have Bg4_2 := Aside0.mk (blk_below Bg4_1.out hst)
  clear Bg4_1
  clear hst
  go_wp2
  go_ret
  exact ⟨rfl, HB_2.out⟩
set_option maxRecDepth 100000 in
set_option maxHeartbeats 4000000 in
theorem rrotate_any (gq : Nat) (sa sb oa ob till ta tb now tl : Int) (hs : Bool) (htl : IntKind.i64.wrap (now / 16 + 1) = tl) (w : World) (hk : w.heap[gq]? = some (.cells #[.int .u64 sa, .int .u64 sb, .int .u64 oa, .int .u64 ob, .bool hs, .int .i64 till] 63 (0, 0))) : Calls Try.prog 26 #[.pointer (some ⟨gq, 0, none⟩), .agg #[.int .u64 ta, .int .u64 tb], .int .i64 now] w fun e w' => e = .returned (.tuple #[]) ∧ w'.heap[gq]? = some (.cells #[.int .u64 ta, .int .u64 tb, .int .u64 sa, .int .u64 sb, .bool true, .int .i64 tl] 63 (0, 0)) ∧ Upd (One gq) w w' := by
  have BQ := Aside0.mk hk
  clear hk
  go_enter Try.func26, Try.ntmps26
  go_upto_region 1 with (first | ((with_reducible refine gate_dst (N := 4) rfl ?_); refine box_event ?hg (N := 4) ?hd (cs := #[.int .u64 ta, .int .u64 tb]) (t := 30) ?hr ?_; (case hd => rfl); (case hg => rfl); (case hr => first | (go_simp; done) | (go_simp; rfl)); intro g4 hgg wx1 hbox hb; have Ngqg4 := Aside0.mk (show gq ≠ g4 by rw [hgg]; exact Nat.ne_of_lt (blk_lt BQ.out)); have Lg4 := Aside0.mk (show w.heap.size ≤ g4 by rw [hgg]; exact Nat.le_refl _); have HB_1 := Aside0.mk (hb); have Bgq_1 := Aside0.mk (blk_below BQ.out hb); clear BQ; have Bg4_1 := Aside0.mk hbox; clear hbox hb hgg))
  have HU0 := Aside0.mk (Upd.of_below HB_1.out (Nat.le_refl _) (One gq))
  clear HB_1
  go_upto_region 2 with (first | ((with_reducible refine gate_dst (N := 10) rfl ?_); refine loadmid_event rfl _ _ rfl gq 0 rfl [.int .u64 sa, .int .u64 sb] _ (blk_range Bgq_1.out 0 [.int .u64 sa, .int .u64 sb] rfl) Try.underlying30 rfl (by kernel_rfl) ?_) | ((with_reducible refine gate_store (t := 30) (p := 12) rfl ?_); refine storemid_event rfl 30 _ _ rfl gq 2 rfl #[.int .u64 sa, .int .u64 sb] rfl _ _ #[.int .u64 sa, .int .u64 sb, .int .u64 sa, .int .u64 sb, .bool hs, .int .i64 till] Bgq_1.out rfl (by kernel_rfl) rfl rfl ?_; intro wx2 hst hu; have B4_2 := Aside0.mk (Upd.blk hu Bg4_1.out (One.not (Ne.symm Ngqg4.out))); have BQ_2 := Aside0.mk hst; have HU1 := Aside0.mk (HU0.out.trans hu); clear hst hu Bgq_1 Bg4_1 HU0))
  go_upto_region 3 with (first | ((with_reducible refine gate_store (t := 4) (p := 15) rfl ?_); refine store1_event rfl _ _ _ rfl gq 4 rfl (.bool true) _ ?hy _ _ #[.int .u64 sa, .int .u64 sb, .int .u64 sa, .int .u64 sb, .bool true, .int .i64 till] BQ_2.out rfl (by kernel_rfl) rfl rfl rfl ?_; (case hy => first | (with_reducible rfl) | rfl); intro wx3 hst hu; have B4_3 := Aside0.mk (Upd.blk hu B4_2.out (One.not (Ne.symm Ngqg4.out))); have BQ_3 := Aside0.mk hst; have HU2 := Aside0.mk (HU1.out.trans hu); clear hst hu BQ_2 B4_2 HU1))
  go_upto_region 4 with (first | (go_at_call 16; refine (rwindow_any now _).mono ?_; rintro e wy ⟨rfl, hb⟩; have BQc := Aside0.mk (blk_below BQ_3.out hb); have B4c := Aside0.mk (blk_below B4_3.out hb); have HU3 := Aside0.mk (HU2.out.trans (Upd.of_below hb (Nat.le_refl _) _)); clear hb BQ_3 B4_3 HU2) | ((with_reducible refine gate_store (t := 3) (p := 21) rfl ?_); refine store1_event rfl _ _ _ rfl gq 5 rfl (.int .i64 tl) _ ?hy _ _ #[.int .u64 sa, .int .u64 sb, .int .u64 sa, .int .u64 sb, .bool true, .int .i64 tl] BQc.out rfl (by kernel_rfl) rfl rfl rfl ?_; (case hy => first | (with_reducible rfl) | rfl); intro wx4 hst hu; have B4_4 := Aside0.mk (Upd.blk hu B4c.out (One.not (Ne.symm Ngqg4.out))); have BQ_4 := Aside0.mk hst; have HU4 := Aside0.mk (HU3.out.trans hu); clear hst hu BQc B4c HU3))
  go_wp2_with (first | ((with_reducible refine gate_dst (N := 23) rfl ?_); refine load_event rfl 30 _ rfl g4 rfl _ _ _ B4_4.out Try.underlying30 rfl (by kernel_rfl) ?_) | ((with_reducible refine gate_store (t := 30) (p := 25) rfl ?_); refine storemid_event rfl 30 _ _ rfl gq 0 rfl #[.int .u64 ta, .int .u64 tb] rfl _ _ #[.int .u64 ta, .int .u64 tb, .int .u64 sa, .int .u64 sb, .bool true, .int .i64 tl] BQ_4.out rfl (by kernel_rfl) rfl rfl ?_; intro wx5 hst hu; have B4_5 := Aside0.mk (Upd.blk hu B4_4.out (One.not (Ne.symm Ngqg4.out))); have BQ_5 := Aside0.mk hst; have HU5 := Aside0.mk (HU4.out.trans hu); clear hst hu BQ_4 B4_4 HU4))
  go_end0
  exact ⟨rfl, BQ_5.out, HU5.out⟩
end Go.Proofs.Ytainkpgplmkiaaa.RKeeper
