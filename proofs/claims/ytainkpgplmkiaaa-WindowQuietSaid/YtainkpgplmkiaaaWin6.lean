/- window's Next and Open at whatever is handed in: contracts. No condition. -/
import Derived.Test.YtainkpgplmkiaaaWin5
namespace Go.Proofs.Ytainkpgplmkiaaa.Win6
open Go Go.RowKit Go.Proofs.YtainkpgplmkiaaaW.PrintWords Go.Proofs.YtainkpgplmkiaaaW.PrintLast Go.Proofs.YtainkpgplmkiaaaW.PrintMore Go.Proofs.Ytainkpgplmkiaaa.MWorld Go.Proofs.Ytainkpgplmkiaaa.Ev Go.Proofs.Ytainkpgplmkiaaa.Win Go.Proofs.Ytainkpgplmkiaaa.Win2 Go.Proofs.Ytainkpgplmkiaaa.Win3 Go.Proofs.Ytainkpgplmkiaaa.Rg Go.Proofs.Ytainkpgplmkiaaa.WinModel Go.Proofs.Ytainkpgplmkiaaa.Win4 Go.Proofs.Ytainkpgplmkiaaa.Win5
set_option linter.unusedVariables false
set_option linter.unusedSimpArgs false
theorem synced_says (c : Cn) (back fi rs ac : Bool) (ak wi da en : Int) : SyncedSays c back fi rs ac ak wi da en (synced c back fi rs ac ak wi da en) := by
  intro sp dp sq fl ty co he sy w
  obtain ⟨st, ⟨s1, e1, m1, f1⟩, ⟨s2, e2, m2, f2⟩⟩ := c
  unfold synced
  cases fi
  case true => cases back; exact sy_f_fin st e1 m1 e2 m2 s1 f1 s2 f2 sp dp sq ak fl wi ty co he da en sy rs ac w; exact sy_t_fin st e1 m1 e2 m2 s1 f1 s2 f2 sp dp sq ak fl wi ty co he da en sy rs ac w
  cases rs
  case true => cases back; exact sy_f_rst st e1 m1 e2 m2 s1 f1 s2 f2 sp dp sq ak fl wi ty co he da en sy ac w; exact sy_t_rst st e1 m1 e2 m2 s1 f1 s2 f2 sp dp sq ak fl wi ty co he da en sy ac w
  rcases hd : (da != 0) with _ | _
  case true => cases back; exact sy_f_data st e1 m1 e2 m2 s1 f1 s2 f2 sp dp sq ak fl wi ty co he da en sy ac w hd; exact sy_t_data st e1 m1 e2 m2 s1 f1 s2 f2 sp dp sq ak fl wi ty co he da en sy ac w hd
  cases back
  · cases s1
    · exact sy_f_no st e1 m1 e2 m2 f1 s2 f2 sp dp sq ak fl wi ty co he da en sy ac w hd
    · rcases hx : (en == e1) with _ | _
      · simp only [hx]; exact sy_f_other st e1 m1 e2 m2 f1 s2 f2 sp dp sq ak fl wi ty co he da en sy ac w hd hx
      · simp only [hx]; exact sy_f_same st e1 m1 e2 m2 f1 s2 f2 sp dp sq ak fl wi ty co he da en sy ac w hd hx
  · cases s2
    · rcases h1 : (st != 1) with _ | _
      · cases ac
        · simp only [h1]; exact sy_t_noack st e1 m1 e2 m2 s1 f1 f2 sp dp sq ak fl wi ty co he da en sy w hd h1
        · rcases h2 : (ak != e1) with _ | _
          · simp only [h1, h2]; exact sy_t_yes st e1 m1 e2 m2 s1 f1 f2 sp dp sq ak fl wi ty co he da en sy w hd h1 h2
          · simp only [h1, h2]; exact sy_t_ak st e1 m1 e2 m2 s1 f1 f2 sp dp sq ak fl wi ty co he da en sy w hd h1 h2
      · simp only [h1]; exact sy_t_st st e1 m1 e2 m2 s1 f1 f2 sp dp sq ak fl wi ty co he da en sy ac w hd h1
    · rcases hx : (en == e2) with _ | _
      · simp only [hx]; exact sy_t_other st e1 m1 e2 m2 s1 f1 f2 sp dp sq ak fl wi ty co he da en sy ac w hd hx
      · simp only [hx]; exact sy_t_same st e1 m1 e2 m2 s1 f1 f2 sp dp sq ak fl wi ty co he da en sy ac w hd hx
theorem next_any (c : Cn) (back : Bool) (t : Tr) (w : World) : Calls Try.prog 17 #[c.val, .bool back, t.val] w (NextPost c back t w) := by
  obtain ⟨st, ⟨s1, e1, m1, f1⟩, ⟨s2, e2, m2, f2⟩⟩ := c
  obtain ⟨sp, dp, sq, ak, fl, wi, ty, co, he, da⟩ := t
  cases back
  · exact next_f st e1 m1 e2 m2 sp dp sq ak fl wi ty co he da _ s1 f1 s2 f2 _ _ _ _ _ w ⟨rfl⟩ ⟨rfl⟩ ⟨rfl⟩ ⟨rfl⟩ ⟨rfl⟩ ⟨synced_says _ _ _ _ _ _ _ _ _⟩ ⟨rfl⟩
  · exact next_t st e1 m1 e2 m2 sp dp sq ak fl wi ty co he da _ s1 f1 s2 f2 _ _ _ _ _ w ⟨rfl⟩ ⟨rfl⟩ ⟨rfl⟩ ⟨rfl⟩ ⟨rfl⟩ ⟨synced_says _ _ _ _ _ _ _ _ _⟩ ⟨rfl⟩
def Cn.zero : Cn := ⟨0, ⟨false, 0, 0, false⟩, ⟨false, 0, 0, false⟩⟩
def opened (t : Tr) : Cn × Bool :=
  if ((((!(flag t.fl 2) || flag t.fl 1) || flag t.fl 4) || flag t.fl 16) || (t.da != 0)) then (Cn.zero, false)
  else (⟨1, ⟨true, endOf t.sq t.fl t.da, (endOf t.sq t.fl t.da + t.wi) % 4294967296, false⟩, ⟨false, 0, 0, false⟩⟩, true)
def OpenPost (t : Tr) (w : World) (e : Ending) (w' : World) : Prop := e = .returned (.tuple #[(opened t).1.val, .bool (opened t).2]) ∧ Below w.heap.size w w'
theorem openPost_mk {t : Tr} {w w' : World} (r : Cn × Bool) (h : opened t = r) (hb : Below w.heap.size w w') : OpenPost t w (.returned (.tuple #[r.1.val, .bool r.2])) w' := by
  subst h; exact ⟨rfl, hb⟩
set_option maxRecDepth 100000 in
set_option maxHeartbeats 8000000 in
theorem open_ways (sp dp sq ak fl wi ty co he da en : Int) (sy fi rs ac : Bool) (w : World) (F2 : Aside0 (flag fl 2 = sy)) (F1 : Aside0 (flag fl 1 = fi)) (F4 : Aside0 (flag fl 4 = rs)) (F16 : Aside0 (flag fl 16 = ac)) (FE : Aside0 (endOf sq fl da = en)) : Calls Try.prog 28 #[.agg #[.int .i64 sp, .int .i64 dp, .int .u32 sq, .int .u32 ak, .int .i64 fl, .int .i64 wi, .int .i64 ty, .int .i64 co, .int .i64 he, .int .i64 da]] w (OpenPost ⟨sp, dp, sq, ak, fl, wi, ty, co, he, da⟩ w) := by
  go_enter Try.func28, Try.ntmps28
  go_upto_region 2 with (first | ((with_reducible refine gate_dst (N := 1) rfl ?_); refine box_event ?hg (N := 1) ?hd (cs := #[.int .i64 sp, .int .i64 dp, .int .u32 sq, .int .u32 ak, .int .i64 fl, .int .i64 wi, .int .i64 ty, .int .i64 co, .int .i64 he, .int .i64 da]) (t := 43) ?hr ?_; (case hd => rfl); (case hg => rfl); (case hr => first | (go_simp; done) | (go_simp; rfl)); intro g1 hgg wx1 hbox hb; have Lg1 := Aside0.mk (show w.heap.size ≤ g1 by rw [hgg]; exact Nat.le_refl _); have HB_1 := Aside0.mk (hb); have Bg1_1 := Aside0.mk hbox; clear hbox hb hgg) | ((with_reducible refine gate_dst (N := 2) rfl ?_); refine box_event ?hg (N := 2) ?hd (cs := #[.int .i64 0, .bool false, .int .u32 0, .int .u32 0, .bool false, .bool false, .int .u32 0, .int .u32 0, .bool false]) (t := 41) ?hr ?_; (case hd => rfl); (case hg => rfl); (case hr => first | (go_simp; done) | (go_simp; rfl)); intro g2 hgg wx2 hbox hb; have Ng1g2 := Aside0.mk (show g1 ≠ g2 by rw [hgg]; exact Nat.ne_of_lt (blk_lt Bg1_1.out)); have Lg2 := Aside0.mk (show w.heap.size ≤ g2 by rw [hgg]; exact below_size HB_1.out); have HB_2 := Aside0.mk (below_step HB_1.out hb); clear HB_1; have Bg1_2 := Aside0.mk (blk_below Bg1_1.out hb); clear Bg1_1; have Bg2_2 := Aside0.mk hbox; clear hbox hb hgg) | ((with_reducible refine gate_dst (N := 5) rfl ?_); refine load_event rfl 43 _ rfl g1 rfl _ _ _ Bg1_2.out Try.underlying43 rfl (by kernel_rfl) ?_) | (go_at_call 39; refine (read_as sp dp sq ak fl wi ty co he da en sy fi rs ac _ F2.out F1.out F4.out F16.out FE.out).mono ?_; rintro e wx3 ⟨rfl, hb⟩; have HB_3 := Aside0.mk (below_step HB_2.out hb); clear HB_2; have Bg1_3 := Aside0.mk (blk_below Bg1_2.out hb); clear Bg1_2; have Bg2_3 := Aside0.mk (blk_below Bg2_2.out hb); clear Bg2_2; clear hb) | ((with_reducible refine gate_dst (N := 4) rfl ?_); refine box_event ?hg (N := 4) ?hd (cs := #[.int .i64 0, .int .i64 0, .int .u32 0, .int .u32 0, .int .i64 0, .int .i64 0, .int .i64 0, .int .i64 0, .int .i64 0, .int .i64 0, .bool false, .bool false, .bool false, .bool false, .int .u32 0]) (t := 95) ?hr ?_; (case hd => rfl); (case hg => rfl); (case hr => first | (go_simp; done) | (go_simp; rfl)); intro g4 hgg wx4 hbox hb; have Ng1g4 := Aside0.mk (show g1 ≠ g4 by rw [hgg]; exact Nat.ne_of_lt (blk_lt Bg1_3.out)); have Ng2g4 := Aside0.mk (show g2 ≠ g4 by rw [hgg]; exact Nat.ne_of_lt (blk_lt Bg2_3.out)); have Lg4 := Aside0.mk (show w.heap.size ≤ g4 by rw [hgg]; exact below_size HB_3.out); have HB_4 := Aside0.mk (below_step HB_3.out hb); clear HB_3; have Bg1_4 := Aside0.mk (blk_below Bg1_3.out hb); clear Bg1_3; have Bg2_4 := Aside0.mk (blk_below Bg2_3.out hb); clear Bg2_3; have Bg4_4 := Aside0.mk hbox; clear hbox hb hgg) | ((with_reducible refine gate_store (t := 95) (p := 4) rfl ?_); refine store_event rfl 95 _ _ rfl g4 _ rfl rfl _ _ Bg4_4.out (by kernel_rfl) rfl rfl ?_; intro wx5 hst hu; have HB_5 := Aside0.mk (below_upd HB_4.out hu (below_size HB_4.out) (fun k hk => by cases hk; exact Lg4.out)); clear HB_4; have Bg1_5 := Aside0.mk (Upd.blk hu Bg1_4.out (One.not Ng1g4.out)); clear Bg1_4; have Bg2_5 := Aside0.mk (Upd.blk hu Bg2_4.out (One.not Ng2g4.out)); clear Bg2_4; have Bg4_5 := Aside0.mk hst; clear hst hu Bg4_4))
  refine wp_region_rg_seq (fun x y => Below x.heap.size x y) (fun (i : Nat) (v : Value) (w1 : World) => match i with | 0 => v = (.pointer (some ⟨g4, 10, none⟩)) | 1 => v = (.bool sy) | 2 => v = (.bool (!sy)) | 3 => v = (.bool (!sy)) | 4 => (!sy) = false → v = (.pointer (some ⟨g4, 11, none⟩)) | 5 => (!sy) = false → v = (.bool fi) | 6 => v = (.bool ((!sy || fi))) | 7 => v = (.bool ((!sy || fi))) | 8 => ((!sy || fi)) = false → v = (.pointer (some ⟨g4, 12, none⟩)) | 9 => ((!sy || fi)) = false → v = (.bool rs) | 10 => v = (.bool (((!sy || fi) || rs))) | 11 => v = (.bool (((!sy || fi) || rs))) | 12 => (((!sy || fi) || rs)) = false → v = (.pointer (some ⟨g4, 13, none⟩)) | 13 => (((!sy || fi) || rs)) = false → v = (.bool ac) | 14 => v = (.bool ((((!sy || fi) || rs) || ac))) | 15 => v = (.bool ((((!sy || fi) || rs) || ac))) | 16 => ((((!sy || fi) || rs) || ac)) = false → v = (.pointer (some ⟨g1, 9, none⟩)) | 17 => ((((!sy || fi) || rs) || ac)) = false → v = (.int .i64 da) | 18 => ((((!sy || fi) || rs) || ac)) = false → v = (.bool ((da != 0))) | 19 => v = (.bool (((((!sy || fi) || rs) || ac) || (da != 0)))) | _ => True) (by kernel_rfl) (by kernel_rfl) below_tr (Below.refl _ _) ?hJst ?hObl ?hEnd
  case hJst =>
    intro i v wx wy hi hs0 hs1 hJi
    match i, hi with
    | 0, _ => exact hJi
    | 1, _ => exact hJi
    | 2, _ => exact hJi
    | 3, _ => exact hJi
    | 4, _ => exact hJi
    | 5, _ => exact hJi
    | 6, _ => exact hJi
    | 7, _ => exact hJi
    | 8, _ => exact hJi
    | 9, _ => exact hJi
    | 10, _ => exact hJi
    | 11, _ => exact hJi
    | 12, _ => exact hJi
    | 13, _ => exact hJi
    | 14, _ => exact hJi
    | 15, _ => exact hJi
    | 16, _ => exact hJi
    | 17, _ => exact hJi
    | 18, _ => exact hJi
    | 19, _ => exact hJi
    | _ + 20, hi => exact absurd hi (by simp)
  case hObl =>
    refine ⟨?_, ?_, ?_, ?_, ?_, ?_, ?_, ?_, ?_, ?_, ?_, ?_, ?_, ?_, ?_, ?_, ?_, ?_, ?_, ?_,  trivial⟩
    · intro listed vals a wq K hD hst hj haft hun hK
      have h4 := hD.out 4 rfl rfl
      replace hst : Below _ _ wq := hst
      clear hD hj haft hun
      have e4 := eval_of h4
      refine step_now (v := .pointer (some ⟨g4, 10, none⟩)) (w' := wq) (wanted_free rfl) ?_ (hK _ _ (Below.refl _ _) rfl)
      clear hK
      first | (go_simp; done) | (go_simp; rfl) | (go_simp; (try simp only [IntKind.wrap_u32]); omega)
    · intro listed vals a wq K hD hst hj haft hun hK
      obtain ⟨v7, h7, j7⟩ := hD.dep hj haft 0 7 rfl rfl
      replace j7 : v7 = (.pointer (some ⟨g4, 10, none⟩)) := j7
      subst j7
      replace hst : Below _ _ wq := hst
      clear hD hj haft hun
      have e7 := eval_of h7
      exact step_now (v := .bool sy) (w' := wq) (wanted_free rfl) (rg_load rfl e7 (blk_below Bg4_5.out hst) rfl Try.underlying4 rfl) (hK _ _ (Below.refl _ _) rfl)
    · intro listed vals a wq K hD hst hj haft hun hK
      obtain ⟨v8, h8, j8⟩ := hD.dep hj haft 1 8 rfl rfl
      replace j8 : v8 = (.bool sy) := j8
      subst j8
      replace hst : Below _ _ wq := hst
      clear hD hj haft hun
      have e8 := eval_of h8
      refine step_now (v := .bool (!sy)) (w' := wq) (wanted_free rfl) ?_ (hK _ _ (Below.refl _ _) rfl)
      clear hK
      first | (go_simp; done) | (go_simp; rfl) | (go_simp; (try simp only [IntKind.wrap_u32]); omega)
    · intro listed vals a wq K hD hst hj haft hun hK
      obtain ⟨v9, h9, j9⟩ := hD.dep hj haft 2 9 rfl rfl
      replace j9 : v9 = (.bool (!sy)) := j9
      subst j9
      replace hst : Below _ _ wq := hst
      clear hD hj haft hun
      have e9 := eval_of h9
      refine step_now (v := .bool (!sy)) (w' := wq) (wanted_free rfl) ?_ (hK _ _ (Below.refl _ _) rfl)
      clear hK
      first | (go_simp; done) | (go_simp; rfl) | (go_simp; (try simp only [IntKind.wrap_u32]); omega)
    · intro listed vals a wq K hD hst hj haft hun hK
      obtain ⟨v10, h10, j10⟩ := hD.dep hj haft 3 10 rfl rfl
      replace j10 : v10 = (.bool (!sy)) := j10
      subst j10
      have h4 := hD.out 4 rfl rfl
      replace hst : Below _ _ wq := hst
      clear hD hj haft hun
      rcases hE : (!sy) with _ | _
      · rw [hE] at h10
        have e4 := eval_of h4
        refine step_now (v := .pointer (some ⟨g4, 11, none⟩)) (w' := wq) (wanted_on (t := 10) (u := false) rfl rfl rfl h10) ?_ (hK _ _ (Below.refl _ _) (fun _ => rfl))
        clear hK
        first | (go_simp; done) | (go_simp; rfl) | (go_simp; (try simp only [IntKind.wrap_u32]); omega)
      · rw [hE] at h10
        exact step_off (wanted_off (t := 10) (u := false) rfl rfl rfl h10) (hK _ _ (Below.refl _ _) (fun h => by rw [hE] at h; cases h))
    · intro listed vals a wq K hD hst hj haft hun hK
      obtain ⟨v11, h11, j11⟩ := hD.dep hj haft 4 11 rfl rfl
      replace j11 : (!sy) = false → v11 = (.pointer (some ⟨g4, 11, none⟩)) := j11
      obtain ⟨v10, h10, j10⟩ := hD.dep hj haft 3 10 rfl rfl
      replace j10 : v10 = (.bool (!sy)) := j10
      subst j10
      replace hst : Below _ _ wq := hst
      clear hD hj haft hun
      rcases hE : (!sy) with _ | _
      · rw [hE] at h10
        obtain rfl := j11 hE
        have e11 := eval_of h11
        exact step_now (v := .bool fi) (w' := wq) (wanted_on (t := 10) (u := false) rfl rfl rfl h10) (rg_load rfl e11 (blk_below Bg4_5.out hst) rfl Try.underlying4 rfl) (hK _ _ (Below.refl _ _) (fun _ => rfl))
      · rw [hE] at h10
        exact step_off (wanted_off (t := 10) (u := false) rfl rfl rfl h10) (hK _ _ (Below.refl _ _) (fun h => by rw [hE] at h; cases h))
    · intro listed vals a wq K hD hst hj haft hun hK
      obtain ⟨v10, h10, j10⟩ := hD.dep hj haft 3 10 rfl rfl
      replace j10 : v10 = (.bool (!sy)) := j10
      subst j10
      obtain ⟨v12, h12, j12⟩ := hD.dep hj haft 5 12 rfl rfl
      replace j12 : (!sy) = false → v12 = (.bool fi) := j12
      replace hst : Below _ _ wq := hst
      clear hD hj haft hun
      rcases hE : (!sy) with _ | _
      · rw [hE] at h10
        obtain rfl := j12 hE
        have e10 := eval_of h10
        have e12 := eval_of h12
        refine step_now (v := .bool ((!sy || fi))) (w' := wq) (wanted_free rfl) ?_ (hK _ _ (Below.refl _ _) rfl)
        rw [hE]
        clear hK
        first | (go_simp; done) | (go_simp; rfl) | (go_simp; (try simp only [IntKind.wrap_u32]); omega)
      · rw [hE] at h10
        have e10 := eval_of h10
        have e12 := eval_of h12
        refine step_now (v := .bool ((!sy || fi))) (w' := wq) (wanted_free rfl) ?_ (hK _ _ (Below.refl _ _) rfl)
        rw [hE]
        clear hK
        first | (go_simp; done) | (go_simp; rfl) | (go_simp; (try simp only [IntKind.wrap_u32]); omega)
    · intro listed vals a wq K hD hst hj haft hun hK
      obtain ⟨v13, h13, j13⟩ := hD.dep hj haft 6 13 rfl rfl
      replace j13 : v13 = (.bool ((!sy || fi))) := j13
      subst j13
      replace hst : Below _ _ wq := hst
      clear hD hj haft hun
      have e13 := eval_of h13
      refine step_now (v := .bool ((!sy || fi))) (w' := wq) (wanted_free rfl) ?_ (hK _ _ (Below.refl _ _) rfl)
      clear hK
      first | (go_simp; done) | (go_simp; rfl) | (go_simp; (try simp only [IntKind.wrap_u32]); omega)
    · intro listed vals a wq K hD hst hj haft hun hK
      obtain ⟨v14, h14, j14⟩ := hD.dep hj haft 7 14 rfl rfl
      replace j14 : v14 = (.bool ((!sy || fi))) := j14
      subst j14
      have h4 := hD.out 4 rfl rfl
      replace hst : Below _ _ wq := hst
      clear hD hj haft hun
      rcases hE : ((!sy || fi)) with _ | _
      · rw [hE] at h14
        have e4 := eval_of h4
        refine step_now (v := .pointer (some ⟨g4, 12, none⟩)) (w' := wq) (wanted_on (t := 14) (u := false) rfl rfl rfl h14) ?_ (hK _ _ (Below.refl _ _) (fun _ => rfl))
        clear hK
        first | (go_simp; done) | (go_simp; rfl) | (go_simp; (try simp only [IntKind.wrap_u32]); omega)
      · rw [hE] at h14
        exact step_off (wanted_off (t := 14) (u := false) rfl rfl rfl h14) (hK _ _ (Below.refl _ _) (fun h => by rw [hE] at h; cases h))
    · intro listed vals a wq K hD hst hj haft hun hK
      obtain ⟨v15, h15, j15⟩ := hD.dep hj haft 8 15 rfl rfl
      replace j15 : ((!sy || fi)) = false → v15 = (.pointer (some ⟨g4, 12, none⟩)) := j15
      obtain ⟨v14, h14, j14⟩ := hD.dep hj haft 7 14 rfl rfl
      replace j14 : v14 = (.bool ((!sy || fi))) := j14
      subst j14
      replace hst : Below _ _ wq := hst
      clear hD hj haft hun
      rcases hE : ((!sy || fi)) with _ | _
      · rw [hE] at h14
        obtain rfl := j15 hE
        have e15 := eval_of h15
        exact step_now (v := .bool rs) (w' := wq) (wanted_on (t := 14) (u := false) rfl rfl rfl h14) (rg_load rfl e15 (blk_below Bg4_5.out hst) rfl Try.underlying4 rfl) (hK _ _ (Below.refl _ _) (fun _ => rfl))
      · rw [hE] at h14
        exact step_off (wanted_off (t := 14) (u := false) rfl rfl rfl h14) (hK _ _ (Below.refl _ _) (fun h => by rw [hE] at h; cases h))
    · intro listed vals a wq K hD hst hj haft hun hK
      obtain ⟨v14, h14, j14⟩ := hD.dep hj haft 7 14 rfl rfl
      replace j14 : v14 = (.bool ((!sy || fi))) := j14
      subst j14
      obtain ⟨v16, h16, j16⟩ := hD.dep hj haft 9 16 rfl rfl
      replace j16 : ((!sy || fi)) = false → v16 = (.bool rs) := j16
      replace hst : Below _ _ wq := hst
      clear hD hj haft hun
      rcases hE : ((!sy || fi)) with _ | _
      · rw [hE] at h14
        obtain rfl := j16 hE
        have e14 := eval_of h14
        have e16 := eval_of h16
        refine step_now (v := .bool (((!sy || fi) || rs))) (w' := wq) (wanted_free rfl) ?_ (hK _ _ (Below.refl _ _) rfl)
        rw [hE]
        clear hK
        first | (go_simp; done) | (go_simp; rfl) | (go_simp; (try simp only [IntKind.wrap_u32]); omega)
      · rw [hE] at h14
        have e14 := eval_of h14
        have e16 := eval_of h16
        refine step_now (v := .bool (((!sy || fi) || rs))) (w' := wq) (wanted_free rfl) ?_ (hK _ _ (Below.refl _ _) rfl)
        rw [hE]
        clear hK
        first | (go_simp; done) | (go_simp; rfl) | (go_simp; (try simp only [IntKind.wrap_u32]); omega)
    · intro listed vals a wq K hD hst hj haft hun hK
      obtain ⟨v17, h17, j17⟩ := hD.dep hj haft 10 17 rfl rfl
      replace j17 : v17 = (.bool (((!sy || fi) || rs))) := j17
      subst j17
      replace hst : Below _ _ wq := hst
      clear hD hj haft hun
      have e17 := eval_of h17
      refine step_now (v := .bool (((!sy || fi) || rs))) (w' := wq) (wanted_free rfl) ?_ (hK _ _ (Below.refl _ _) rfl)
      clear hK
      first | (go_simp; done) | (go_simp; rfl) | (go_simp; (try simp only [IntKind.wrap_u32]); omega)
    · intro listed vals a wq K hD hst hj haft hun hK
      obtain ⟨v18, h18, j18⟩ := hD.dep hj haft 11 18 rfl rfl
      replace j18 : v18 = (.bool (((!sy || fi) || rs))) := j18
      subst j18
      have h4 := hD.out 4 rfl rfl
      replace hst : Below _ _ wq := hst
      clear hD hj haft hun
      rcases hE : (((!sy || fi) || rs)) with _ | _
      · rw [hE] at h18
        have e4 := eval_of h4
        refine step_now (v := .pointer (some ⟨g4, 13, none⟩)) (w' := wq) (wanted_on (t := 18) (u := false) rfl rfl rfl h18) ?_ (hK _ _ (Below.refl _ _) (fun _ => rfl))
        clear hK
        first | (go_simp; done) | (go_simp; rfl) | (go_simp; (try simp only [IntKind.wrap_u32]); omega)
      · rw [hE] at h18
        exact step_off (wanted_off (t := 18) (u := false) rfl rfl rfl h18) (hK _ _ (Below.refl _ _) (fun h => by rw [hE] at h; cases h))
    · intro listed vals a wq K hD hst hj haft hun hK
      obtain ⟨v19, h19, j19⟩ := hD.dep hj haft 12 19 rfl rfl
      replace j19 : (((!sy || fi) || rs)) = false → v19 = (.pointer (some ⟨g4, 13, none⟩)) := j19
      obtain ⟨v18, h18, j18⟩ := hD.dep hj haft 11 18 rfl rfl
      replace j18 : v18 = (.bool (((!sy || fi) || rs))) := j18
      subst j18
      replace hst : Below _ _ wq := hst
      clear hD hj haft hun
      rcases hE : (((!sy || fi) || rs)) with _ | _
      · rw [hE] at h18
        obtain rfl := j19 hE
        have e19 := eval_of h19
        exact step_now (v := .bool ac) (w' := wq) (wanted_on (t := 18) (u := false) rfl rfl rfl h18) (rg_load rfl e19 (blk_below Bg4_5.out hst) rfl Try.underlying4 rfl) (hK _ _ (Below.refl _ _) (fun _ => rfl))
      · rw [hE] at h18
        exact step_off (wanted_off (t := 18) (u := false) rfl rfl rfl h18) (hK _ _ (Below.refl _ _) (fun h => by rw [hE] at h; cases h))
    · intro listed vals a wq K hD hst hj haft hun hK
      obtain ⟨v18, h18, j18⟩ := hD.dep hj haft 11 18 rfl rfl
      replace j18 : v18 = (.bool (((!sy || fi) || rs))) := j18
      subst j18
      obtain ⟨v20, h20, j20⟩ := hD.dep hj haft 13 20 rfl rfl
      replace j20 : (((!sy || fi) || rs)) = false → v20 = (.bool ac) := j20
      replace hst : Below _ _ wq := hst
      clear hD hj haft hun
      rcases hE : (((!sy || fi) || rs)) with _ | _
      · rw [hE] at h18
        obtain rfl := j20 hE
        have e18 := eval_of h18
        have e20 := eval_of h20
        refine step_now (v := .bool ((((!sy || fi) || rs) || ac))) (w' := wq) (wanted_free rfl) ?_ (hK _ _ (Below.refl _ _) rfl)
        rw [hE]
        clear hK
        first | (go_simp; done) | (go_simp; rfl) | (go_simp; (try simp only [IntKind.wrap_u32]); omega)
      · rw [hE] at h18
        have e18 := eval_of h18
        have e20 := eval_of h20
        refine step_now (v := .bool ((((!sy || fi) || rs) || ac))) (w' := wq) (wanted_free rfl) ?_ (hK _ _ (Below.refl _ _) rfl)
        rw [hE]
        clear hK
        first | (go_simp; done) | (go_simp; rfl) | (go_simp; (try simp only [IntKind.wrap_u32]); omega)
    · intro listed vals a wq K hD hst hj haft hun hK
      obtain ⟨v21, h21, j21⟩ := hD.dep hj haft 14 21 rfl rfl
      replace j21 : v21 = (.bool ((((!sy || fi) || rs) || ac))) := j21
      subst j21
      replace hst : Below _ _ wq := hst
      clear hD hj haft hun
      have e21 := eval_of h21
      refine step_now (v := .bool ((((!sy || fi) || rs) || ac))) (w' := wq) (wanted_free rfl) ?_ (hK _ _ (Below.refl _ _) rfl)
      clear hK
      first | (go_simp; done) | (go_simp; rfl) | (go_simp; (try simp only [IntKind.wrap_u32]); omega)
    · intro listed vals a wq K hD hst hj haft hun hK
      obtain ⟨v22, h22, j22⟩ := hD.dep hj haft 15 22 rfl rfl
      replace j22 : v22 = (.bool ((((!sy || fi) || rs) || ac))) := j22
      subst j22
      have h1 := hD.out 1 rfl rfl
      replace hst : Below _ _ wq := hst
      clear hD hj haft hun
      rcases hE : ((((!sy || fi) || rs) || ac)) with _ | _
      · rw [hE] at h22
        have e1 := eval_of h1
        refine step_now (v := .pointer (some ⟨g1, 9, none⟩)) (w' := wq) (wanted_on (t := 22) (u := false) rfl rfl rfl h22) ?_ (hK _ _ (Below.refl _ _) (fun _ => rfl))
        clear hK
        first | (go_simp; done) | (go_simp; rfl) | (go_simp; (try simp only [IntKind.wrap_u32]); omega)
      · rw [hE] at h22
        exact step_off (wanted_off (t := 22) (u := false) rfl rfl rfl h22) (hK _ _ (Below.refl _ _) (fun h => by rw [hE] at h; cases h))
    · intro listed vals a wq K hD hst hj haft hun hK
      obtain ⟨v23, h23, j23⟩ := hD.dep hj haft 16 23 rfl rfl
      replace j23 : ((((!sy || fi) || rs) || ac)) = false → v23 = (.pointer (some ⟨g1, 9, none⟩)) := j23
      obtain ⟨v22, h22, j22⟩ := hD.dep hj haft 15 22 rfl rfl
      replace j22 : v22 = (.bool ((((!sy || fi) || rs) || ac))) := j22
      subst j22
      replace hst : Below _ _ wq := hst
      clear hD hj haft hun
      rcases hE : ((((!sy || fi) || rs) || ac)) with _ | _
      · rw [hE] at h22
        obtain rfl := j23 hE
        have e23 := eval_of h23
        exact step_now (v := .int .i64 da) (w' := wq) (wanted_on (t := 22) (u := false) rfl rfl rfl h22) (rg_load rfl e23 (blk_below Bg1_5.out hst) rfl Try.underlying3 rfl) (hK _ _ (Below.refl _ _) (fun _ => rfl))
      · rw [hE] at h22
        exact step_off (wanted_off (t := 22) (u := false) rfl rfl rfl h22) (hK _ _ (Below.refl _ _) (fun h => by rw [hE] at h; cases h))
    · intro listed vals a wq K hD hst hj haft hun hK
      obtain ⟨v24, h24, j24⟩ := hD.dep hj haft 17 24 rfl rfl
      replace j24 : ((((!sy || fi) || rs) || ac)) = false → v24 = (.int .i64 da) := j24
      obtain ⟨v22, h22, j22⟩ := hD.dep hj haft 15 22 rfl rfl
      replace j22 : v22 = (.bool ((((!sy || fi) || rs) || ac))) := j22
      subst j22
      replace hst : Below _ _ wq := hst
      clear hD hj haft hun
      rcases hE : ((((!sy || fi) || rs) || ac)) with _ | _
      · rw [hE] at h22
        obtain rfl := j24 hE
        have e24 := eval_of h24
        refine step_now (v := .bool ((da != 0))) (w' := wq) (wanted_on (t := 22) (u := false) rfl rfl rfl h22) ?_ (hK _ _ (Below.refl _ _) (fun _ => rfl))
        clear hK
        first | (go_simp; done) | (go_simp; rfl) | (go_simp; (try simp only [IntKind.wrap_u32]); omega)
      · rw [hE] at h22
        exact step_off (wanted_off (t := 22) (u := false) rfl rfl rfl h22) (hK _ _ (Below.refl _ _) (fun h => by rw [hE] at h; cases h))
    · intro listed vals a wq K hD hst hj haft hun hK
      obtain ⟨v22, h22, j22⟩ := hD.dep hj haft 15 22 rfl rfl
      replace j22 : v22 = (.bool ((((!sy || fi) || rs) || ac))) := j22
      subst j22
      obtain ⟨v25, h25, j25⟩ := hD.dep hj haft 18 25 rfl rfl
      replace j25 : ((((!sy || fi) || rs) || ac)) = false → v25 = (.bool ((da != 0))) := j25
      replace hst : Below _ _ wq := hst
      clear hD hj haft hun
      rcases hE : ((((!sy || fi) || rs) || ac)) with _ | _
      · rw [hE] at h22
        obtain rfl := j25 hE
        have e22 := eval_of h22
        have e25 := eval_of h25
        refine step_now (v := .bool (((((!sy || fi) || rs) || ac) || (da != 0)))) (w' := wq) (wanted_free rfl) ?_ (hK _ _ (Below.refl _ _) rfl)
        rw [hE]
        clear hK
        first | (go_simp; done) | (go_simp; rfl) | (go_simp; (try simp only [IntKind.wrap_u32]); omega)
      · rw [hE] at h22
        have e22 := eval_of h22
        have e25 := eval_of h25
        refine step_now (v := .bool (((((!sy || fi) || rs) || ac) || (da != 0)))) (w' := wq) (wanted_free rfl) ?_ (hK _ _ (Below.refl _ _) rfl)
        rw [hE]
        clear hK
        first | (go_simp; done) | (go_simp; rfl) | (go_simp; (try simp only [IntKind.wrap_u32]); omega)
  case hEnd =>
    intro vals wend hst hj
    have j0 : vals 0 = (.pointer (some ⟨g4, 10, none⟩)) := hj 0 (by decide)
    have j1 : vals 1 = (.bool sy) := hj 1 (by decide)
    have j2 : vals 2 = (.bool (!sy)) := hj 2 (by decide)
    have j3 : vals 3 = (.bool (!sy)) := hj 3 (by decide)
    have j6 : vals 6 = (.bool ((!sy || fi))) := hj 6 (by decide)
    have j7 : vals 7 = (.bool ((!sy || fi))) := hj 7 (by decide)
    have j10 : vals 10 = (.bool (((!sy || fi) || rs))) := hj 10 (by decide)
    have j11 : vals 11 = (.bool (((!sy || fi) || rs))) := hj 11 (by decide)
    have j14 : vals 14 = (.bool ((((!sy || fi) || rs) || ac))) := hj 14 (by decide)
    have j15 : vals 15 = (.bool ((((!sy || fi) || rs) || ac))) := hj 15 (by decide)
    have j19 : vals 19 = (.bool (((((!sy || fi) || rs) || ac) || (da != 0)))) := hj 19 (by decide)
    replace hst : Below _ _ wend := hst
    clear hj
    rw [putAll_list]
    simp only [putL, Act.put, List.setIfInBounds_toArray, List.set_cons_zero, List.set_cons_succ, j0, j1, j2, j3, j6, j7, j10, j11, j14, j15, j19]
    clear j0 j1 j2 j3 j6 j7 j10 j11 j14 j15 j19
    generalize vals 4 = u11_
    generalize vals 5 = u12_
    generalize vals 8 = u15_
    generalize vals 9 = u16_
    generalize vals 12 = u19_
    generalize vals 13 = u20_
    generalize vals 16 = u23_
    generalize vals 17 = u24_
    generalize vals 18 = u25_
    have HB_6 := Aside0.mk (below_step HB_5.out hst)
    clear HB_5
    have Bg1_6 := Aside0.mk (blk_below Bg1_5.out hst)
    clear Bg1_5
    have Bg2_6 := Aside0.mk (blk_below Bg2_5.out hst)
    clear Bg2_5
    have Bg4_6 := Aside0.mk (blk_below Bg4_5.out hst)
    clear Bg4_5
    clear hst
    rcases hc : (((((!sy || fi) || rs) || ac) || (da != 0))) with _ | _
    · go_wp2_with (first | ((with_reducible refine gate_dst (N := 28) rfl ?_); refine load_event rfl 95 _ rfl g4 rfl _ _ _ Bg4_6.out Try.underlying95 rfl (by kernel_rfl) ?_) | (go_at_call 50; refine (begun_any sp dp sq ak fl wi ty co he da sy fi rs ac en _).mono ?_; rintro e wx7 ⟨rfl, hb⟩; have HB_7 := Aside0.mk (below_step HB_6.out hb); clear HB_6; have Bg1_7 := Aside0.mk (blk_below Bg1_6.out hb); clear Bg1_6; have Bg2_7 := Aside0.mk (blk_below Bg2_6.out hb); clear Bg2_6; have Bg4_7 := Aside0.mk (blk_below Bg4_6.out hb); clear Bg4_6; clear hb) | ((with_reducible refine gate_store (t := 41) (p := 2) rfl ?_); refine store_event rfl 41 _ _ rfl g2 _ rfl rfl _ _ Bg2_7.out (by kernel_rfl) rfl rfl ?_; intro wx8 hst hu; have HB_8 := Aside0.mk (below_upd HB_7.out hu (below_size HB_7.out) (fun k hk => by cases hk; exact Lg2.out)); clear HB_7; have Bg1_8 := Aside0.mk (Upd.blk hu Bg1_7.out (One.not Ng1g2.out)); clear Bg1_7; have Bg4_8 := Aside0.mk (Upd.blk hu Bg4_7.out (One.not (Ne.symm Ng2g4.out))); clear Bg4_7; have Bg2_8 := Aside0.mk hst; clear hst hu Bg2_7))
      refine bodyPost_ret (results_ct rfl _ _ g2 41 #[.int .i64 1, .bool true, .int .u32 en, .int .u32 ((en + wi) % 4294967296), .bool false, .bool false, .int .u32 0, .int .u32 0, .bool false] (0, 0) _ rfl Bg2_8.out Try.underlying41 rfl (by kernel_rfl)) rfl (openPost_mk (⟨1, ⟨true, en, (en + wi) % 4294967296, false⟩, ⟨false, 0, 0, false⟩⟩, true) ?_ HB_8.out)
      simp only [opened, F2.out, F1.out, F4.out, F16.out, FE.out, hc, if_true, if_false, Bool.false_eq_true, reduceIte]
    · go_wp2_with (first | ((with_reducible refine gate_store (t := 41) (p := 2) rfl ?_); refine store_event rfl 41 _ _ rfl g2 _ rfl rfl _ _ Bg2_6.out (by kernel_rfl) rfl rfl ?_; intro wx7 hst hu; have HB_7 := Aside0.mk (below_upd HB_6.out hu (below_size HB_6.out) (fun k hk => by cases hk; exact Lg2.out)); clear HB_6; have Bg1_7 := Aside0.mk (Upd.blk hu Bg1_6.out (One.not Ng1g2.out)); clear Bg1_6; have Bg4_7 := Aside0.mk (Upd.blk hu Bg4_6.out (One.not (Ne.symm Ng2g4.out))); clear Bg4_6; have Bg2_7 := Aside0.mk hst; clear hst hu Bg2_6))
      refine bodyPost_ret (results_ct rfl _ _ g2 41 #[.int .i64 0, .bool false, .int .u32 0, .int .u32 0, .bool false, .bool false, .int .u32 0, .int .u32 0, .bool false] (0, 0) _ rfl Bg2_7.out Try.underlying41 rfl (by kernel_rfl)) rfl (openPost_mk (Cn.zero, false) ?_ HB_7.out)
      simp only [opened, F2.out, F1.out, F4.out, F16.out, FE.out, hc, if_true, if_false, Bool.false_eq_true, reduceIte]
theorem open_any (t : Tr) (w : World) : Calls Try.prog 28 #[t.val] w (OpenPost t w) := by
  obtain ⟨sp, dp, sq, ak, fl, wi, ty, co, he, da⟩ := t
  exact open_ways sp dp sq ak fl wi ty co he da _ _ _ _ _ w ⟨rfl⟩ ⟨rfl⟩ ⟨rfl⟩ ⟨rfl⟩ ⟨rfl⟩
theorem life_val (c : Cn) (w : World) : Calls Try.prog 31 #[c.val] w fun e w' => e = .returned (.int .i64 (life c.st)) ∧ Below w.heap.size w w' := life_any c.st c.a.seen c.a.fin c.b.seen c.b.fin c.a.e c.a.m c.b.e c.b.m w
end Go.Proofs.Ytainkpgplmkiaaa.Win6
