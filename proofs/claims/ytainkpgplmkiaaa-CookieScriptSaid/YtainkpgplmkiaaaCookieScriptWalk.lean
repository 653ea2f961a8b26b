/- The walk of CookieScript: whatever is made, checked and rotated, at whatever times, a keeper answers as the document says: the call returns true and leaves all memory that was there as it was. No condition. -/
import Derived.Test.YtainkpgplmkiaaaRKeeper
import Derived.Test.YtainkpgplmkiaaaCookSteps
namespace Go.Proofs.Ytainkpgplmkiaaa.CookieScriptWalk
open Go Go.RowKit Go.Deep Go.Proofs.YtainkpgplmkiaaaW.PrintWords Go.Proofs.YtainkpgplmkiaaaW.PrintLast Go.Proofs.YtainkpgplmkiaaaW.PrintMore Go.Proofs.Ytainkpgplmkiaaa.MWorld Go.Proofs.Ytainkpgplmkiaaa.MArgs Go.Proofs.Ytainkpgplmkiaaa.Ev Go.Proofs.Ytainkpgplmkiaaa.Rg Go.Proofs.Ytainkpgplmkiaaa.Cook Go.Proofs.Ytainkpgplmkiaaa.HashDef Go.Proofs.Ytainkpgplmkiaaa.CookCookie Go.Proofs.Ytainkpgplmkiaaa.RefCook Go.Proofs.Ytainkpgplmkiaaa.CookWin Go.Proofs.Ytainkpgplmkiaaa.Keeper Go.Proofs.Ytainkpgplmkiaaa.Rotate Go.Proofs.Ytainkpgplmkiaaa.CookieBackWalk Go.Proofs.Ytainkpgplmkiaaa.RKeeper Go.Proofs.Ytainkpgplmkiaaa.CookSteps
set_option linter.unusedVariables false
set_option linter.unusedSimpArgs false
theorem le_not (a t : Int) : decide (a ≤ t) = !(decide (t < a)) := by
  by_cases h : a ≤ t
  · rw [decide_eq_true h, decide_eq_false (by omega)]; rfl
  · rw [decide_eq_false h, decide_eq_true (by omega)]; rfl
/-- The program's keeper and the reference's hold the same. -/
def KR (gk gq : Nat) (sa sb oa ob till : Int) (hs : Bool) (w : World) : Prop := (∃ gr : Nat, ∃ t0 : Int, gr ≠ gq ∧ ((hs = false ∧ Keep gk gr 1 #[.int .u64 sa, .int .u64 sb] t0 w) ∨ (hs = true ∧ till = t0 ∧ Keep gk gr 2 #[.int .u64 sa, .int .u64 sb, .int .u64 oa, .int .u64 ob] t0 w))) ∧ w.heap[gq]? = some (.cells #[.int .u64 sa, .int .u64 sb, .int .u64 oa, .int .u64 ob, .bool hs, .int .i64 till] 63 (0, 0))
theorem rcheck_w (gq : Nat) (sa sb oa ob till p sh sl dh dl sp dp now nn : Int) (hs b : Bool) (hb : (((ck sa sb p sh sl dh dl sp dp (now / 16) == nn) || (ck sa sb p sh sl dh dl sp dp (IntKind.i64.wrap (now / 16 - 1)) == nn)) || ((hs && decide (now / 16 ≤ till)) && ((ck oa ob p sh sl dh dl sp dp (now / 16) == nn) || (ck oa ob p sh sl dh dl sp dp (IntKind.i64.wrap (now / 16 - 1)) == nn)))) = b) (w : World) (hk : w.heap[gq]? = some (.cells #[.int .u64 sa, .int .u64 sb, .int .u64 oa, .int .u64 ob, .bool hs, .int .i64 till] 63 (0, 0))) : Calls Try.prog 25 #[.pointer (some ⟨gq, 0, none⟩), .agg #[.int .i64 p, .int .u64 sh, .int .u64 sl, .int .u64 dh, .int .u64 dl, .int .i64 sp, .int .i64 dp], .int .i64 now, .int .u32 nn] w fun e w' => e = .returned (.bool b) ∧ Below w.heap.size w w' := by
  subst hb; exact rcheck_any gq sa sb oa ob till p sh sl dh dl sp dp now nn hs _ _ ⟨rfl⟩ ⟨rfl⟩ w hk
set_option maxRecDepth 100000 in
set_option maxHeartbeats 32000000 in
theorem walk (za zb : Int) (A : Option Addr) (c : Nat) (l : List Stp) (w : World) (hl : ScriptC w A c l) :
    Calls Try.prog 6 #[.agg #[.int .u64 za, .int .u64 zb], .slice A l.length c] w fun e w' => e = .returned (.bool true) ∧ Below w.heap.size w w' := by
  have HS := Aside0.mk hl
  clear hl
  by_cases hbig : l.length ≤ 4096
  case neg =>
    have hb1 : (l.length : Int) > 4096 := by omega
    go_enter Try.func6, Try.ntmps6
    go_wp2
    go_ret
    exact ⟨rfl, below_alloc (Below.refl _ _) _⟩
  have hb1 : decide ((4096 : Int) < l.length) = false := decide_eq_false (by omega)
  have HL := Aside0.mk hbig
  clear hbig
  go_enter Try.func6, Try.ntmps6
  go_upto_region 3 with (first | ((with_reducible refine gate_dst (N := 2) rfl ?_); refine box_event ?hg (N := 2) ?hd (cs := #[.int .u64 za, .int .u64 zb]) (t := 24) ?hr ?_; (case hd => rfl); (case hg => rfl); (case hr => first | (go_simp; done) | (go_simp; rfl)); intro g2 hgg wx1 hbox hb; have Lg2 := Aside0.mk (show w.heap.size ≤ g2 by rw [hgg]; exact Nat.le_refl _); have HB_1 := Aside0.mk (hb); have Bg2_1 := Aside0.mk hbox; clear hbox hb hgg))
  go_upto_region 4 with (first | ((with_reducible refine gate_dst (N := 13) rfl ?_); refine load_event rfl 24 _ rfl g2 rfl _ _ _ Bg2_1.out Try.underlying24 rfl (by kernel_rfl) ?_) | (go_at_call 20; refine (new_any za zb _).mono ?_; rintro e wk ⟨gk, gr0, rfl, hgk, hgr, hne, hkeep, hb⟩; have Ng2gk := Aside0.mk (show g2 ≠ gk by have h := blk_lt Bg2_1.out; omega); have Ng2gr0 := Aside0.mk (show g2 ≠ gr0 by have h := blk_lt Bg2_1.out; omega); have Lgk := Aside0.mk (Nat.le_trans (below_size HB_1.out) hgk); have Ngkgr0 := Aside0.mk hne; have Bg2_k := Aside0.mk (blk_below Bg2_1.out hb); have Bgk_k := Aside0.mk hkeep.1; have Bgr_k := Aside0.mk hkeep.2; have HB_k := Aside0.mk (below_step HB_1.out hb); clear hgk hgr hne hkeep hb HB_1 Bg2_1))
  go_upto_region 5 with (first | ((with_reducible refine gate_dst (N := 15) rfl ?_); refine load_event rfl 24 _ rfl g2 rfl _ _ _ Bg2_k.out Try.underlying24 rfl (by kernel_rfl) ?_) | ((with_reducible refine gate_dst (N := 17) rfl ?_); refine box_event ?hg (N := 17) ?hd (cs := #[.int .u64 za, .int .u64 zb, .int .u64 0, .int .u64 0, .bool false, .int .i64 0]) (t := 63) ?hr ?_; (case hd => rfl); (case hg => rfl); (case hr => first | (go_simp; done) | (go_simp; rfl)); intro gq hgg wx2 hbox hb; have Ng2gq := Aside0.mk (show g2 ≠ gq by rw [hgg]; exact Nat.ne_of_lt (blk_lt Bg2_k.out)); have Ngkgq := Aside0.mk (show gk ≠ gq by rw [hgg]; exact Nat.ne_of_lt (blk_lt Bgk_k.out)); have Ngr0gq := Aside0.mk (show gr0 ≠ gq by rw [hgg]; exact Nat.ne_of_lt (blk_lt Bgr_k.out)); have Lgq := Aside0.mk (show w.heap.size ≤ gq by rw [hgg]; exact below_size HB_k.out); have HB_2 := Aside0.mk (below_step HB_k.out hb); clear HB_k; have Bg2_2 := Aside0.mk (blk_below Bg2_k.out hb); clear Bg2_k; have Bgk_2 := Aside0.mk (blk_below Bgk_k.out hb); clear Bgk_k; have Bgr0_2 := Aside0.mk (blk_below Bgr_k.out hb); clear Bgr_k; have Bgq_2 := Aside0.mk hbox; clear hbox hb hgg))
  go_upto_region 9 with fail
  have HR0 : Aside0 (KR gk gq za zb 0 0 0 false wx2) := ⟨⟨gr0, 0, Ngr0gq.out, .inl ⟨rfl, ⟨Bgk_2.out, Bgr0_2.out⟩⟩⟩, Bgq_2.out⟩
  clear Bg2_2 Bgk_2 Bgr0_2 Bgq_2
  go_loopw [7, 8] (fun v7 v8 wr => ∃ (k : Nat) (last sa sb oa ob till : Int) (hs : Bool), k ≤ l.length ∧ v8 = .int .i64 (k : Int) ∧ v7 = .int .u32 last ∧ Aside0 (KR gk gq sa sb oa ob till hs wr) ∧ Aside0 (Below w.heap.size w wr)) (fun _ v8 _ => l.length - (intOf v8).toNat)
  case atStart => exact ⟨0, 0, za, zb, 0, 0, 0, false, by omega, rfl, rfl, HR0, HB_2⟩
  case round =>
    clear HR0 HB_2
    obtain ⟨k, last, sa, sb, oa, ob, till, hs, hk, rfl, rfl, HKR, HB⟩ := hrel
    by_cases hlt : k < l.length
    case neg =>
      obtain rfl : k = l.length := by omega
      go_wp2
      go_ret
      exact ⟨rfl, HB.out⟩
    obtain ⟨⟨gr, t0, hnq, hcase⟩, hq⟩ := HKR.out
    have Ngrgq := Aside0.mk hnq
    have BQ := Aside0.mk hq
    clear hq hnq HKR
    have hx := List.getElem?_eq_getElem hlt
    generalize l[k] = x at hx
    obtain ⟨kd, p, sh, sl, dh, dl, sp, dp, now, nn, ta, tb⟩ := x
    obtain ⟨ad, rfl, hcell⟩ := HS.out.step HB.out hx
    have HCE := Aside0.mk hcell
    clear hx hcell
    have HLT := Aside0.mk hlt
    have hltd : decide ((k : Int) < (l.length : Int)) = true := decide_eq_true (by omega)
    have hk1 : IntKind.i64.wrap ((k : Int) + 1) = (k : Int) + 1 := by have := HL.out; rw [IntKind.wrap_i64]; omega
    go_upto_region 11 with fail
    clear hk
    obtain ⟨rfl, hkeep⟩ | ⟨rfl, rfl, hkeep⟩ := hcase
    · have BK := Aside0.mk hkeep.1
      have BR := Aside0.mk hkeep.2
      clear hkeep
      go_upto_region 12 with (first | ((with_reducible refine gate_dst (N := 29) rfl ?_); refine loadany_event rfl _ _ rfl (ad.add (k * 12)) rfl [.int .i64 kd, .int .i64 p, .int .u64 sh, .int .u64 sl, .int .u64 dh, .int .u64 dl, .int .i64 sp, .int .i64 dp, .int .i64 now, .int .u32 nn, .int .u64 ta, .int .u64 tb] _ (HCE.out) Try.underlying65 rfl (by kernel_rfl) ?_) | ((with_reducible refine gate_dst (N := 9) rfl ?_); refine box_event ?hg (N := 9) ?hd (cs := #[.int .i64 0, .int .i64 0, .int .u64 0, .int .u64 0, .int .u64 0, .int .u64 0, .int .i64 0, .int .i64 0, .int .i64 0, .int .u32 0, .int .u64 0, .int .u64 0]) (t := 65) ?hr ?_; (case hd => rfl); (case hg => rfl); (case hr => first | (go_simp; done) | (go_simp; rfl)); intro go hgg wx51 hbox hb; have Ngkgo := Aside0.mk (show gk ≠ go by rw [hgg]; exact Nat.ne_of_lt (blk_lt BK.out)); have Ngrgo := Aside0.mk (show gr ≠ go by rw [hgg]; exact Nat.ne_of_lt (blk_lt BR.out)); have Ngqgo := Aside0.mk (show gq ≠ go by rw [hgg]; exact Nat.ne_of_lt (blk_lt BQ.out)); have Lgo := Aside0.mk (show w.heap.size ≤ go by rw [hgg]; exact below_size HB.out); have HB_51 := Aside0.mk (below_step HB.out hb); clear HB; have Bgk_51 := Aside0.mk (blk_below BK.out hb); clear BK; have Bgr_51 := Aside0.mk (blk_below BR.out hb); clear BR; have Bgq_51 := Aside0.mk (blk_below BQ.out hb); clear BQ; have Bgo_51 := Aside0.mk hbox; clear hbox hb hgg) | ((with_reducible refine gate_store (t := 65) (p := 9) rfl ?_); refine store_event rfl 65 _ _ rfl go _ rfl rfl _ _ Bgo_51.out (by kernel_rfl) rfl rfl ?_; intro wx52 hst hu; have HB_52 := Aside0.mk (below_upd HB_51.out hu (below_size HB_51.out) (fun k hk => by cases hk; exact Lgo.out)); clear HB_51; have Bgk_52 := Aside0.mk (Upd.blk hu Bgk_51.out (One.not Ngkgo.out)); clear Bgk_51; have Bgr_52 := Aside0.mk (Upd.blk hu Bgr_51.out (One.not Ngrgo.out)); clear Bgr_51; have Bgq_52 := Aside0.mk (Upd.blk hu Bgq_51.out (One.not Ngqgo.out)); clear Bgq_51; have Bgo_52 := Aside0.mk hst; clear hst hu Bgo_51))
      clear hlt
      go_upto_region 13 with (first | ((with_reducible refine gate_dst (N := 31) rfl ?_); refine load1_event rfl _ _ rfl go 0 rfl _ _ _ _ Bgo_52.out rfl Try.underlying3 rfl ?_))
      obtain ⟨kv, hkv⟩ : ∃ v : Int, ck sa sb p sh sl dh dl sp dp (now / 16) = v := ⟨_, rfl⟩
      have HKV := Aside0.mk hkv
      clear hkv
      by_cases h0 : kd = 0
      · have hkd : 0 = kd := h0.symm
        clear h0
        obtain rfl := hkd
        go_upto_region 14 with fail
        go_upto_region 15 with (first | ((with_reducible refine gate_dst (N := 36) rfl ?_); refine loadmid_event rfl _ _ rfl go 1 rfl [.int .i64 p, .int .u64 sh, .int .u64 sl, .int .u64 dh, .int .u64 dl, .int .i64 sp, .int .i64 dp] _ (blk_range Bgo_52.out 1 [.int .i64 p, .int .u64 sh, .int .u64 sl, .int .u64 dh, .int .u64 dl, .int .i64 sp, .int .i64 dp] rfl) Try.underlying29 rfl (by kernel_rfl) ?_) | ((with_reducible refine gate_dst (N := 38) rfl ?_); refine load1_event rfl _ _ rfl go 8 rfl _ _ _ _ Bgo_52.out rfl Try.underlying3 rfl ?_) | (go_at_call 23; refine (make_any gk gr 1 (by decide) sa sb #[.int .u64 sa, .int .u64 sb] rfl t0 p sh sl dh dl sp dp now kv HKV.out _ ⟨Bgk_52.out, Bgr_52.out⟩).mono ?_; rintro e wx53 ⟨rfl, hb⟩; have HB_53 := Aside0.mk (below_step HB_52.out hb); clear HB_52; have Bgk_53 := Aside0.mk (blk_below Bgk_52.out hb); clear Bgk_52; have Bgr_53 := Aside0.mk (blk_below Bgr_52.out hb); clear Bgr_52; have Bgq_53 := Aside0.mk (blk_below Bgq_52.out hb); clear Bgq_52; have Bgo_53 := Aside0.mk (blk_below Bgo_52.out hb); clear Bgo_52; clear hb))
        go_upto_region 26 with (first | ((with_reducible refine gate_dst (N := 43) rfl ?_); refine loadmid_event rfl _ _ rfl go 1 rfl [.int .i64 p, .int .u64 sh, .int .u64 sl, .int .u64 dh, .int .u64 dl, .int .i64 sp, .int .i64 dp] _ (blk_range Bgo_53.out 1 [.int .i64 p, .int .u64 sh, .int .u64 sl, .int .u64 dh, .int .u64 dl, .int .i64 sp, .int .i64 dp] rfl) Try.underlying29 rfl (by kernel_rfl) ?_) | ((with_reducible refine gate_dst (N := 45) rfl ?_); refine load1_event rfl _ _ rfl go 8 rfl _ _ _ _ Bgo_53.out rfl Try.underlying3 rfl ?_) | (go_at_call 24; refine (rmake_any gq sa sb oa ob till p sh sl dh dl sp dp now kv false HKV.out _ Bgq_53.out).mono ?_; rintro e wx54 ⟨rfl, hb⟩; have HB_54 := Aside0.mk (below_step HB_53.out hb); clear HB_53; have Bgk_54 := Aside0.mk (blk_below Bgk_53.out hb); clear Bgk_53; have Bgr_54 := Aside0.mk (blk_below Bgr_53.out hb); clear Bgr_53; have Bgq_54 := Aside0.mk (blk_below Bgq_53.out hb); clear Bgq_53; have Bgo_54 := Aside0.mk (blk_below Bgo_53.out hb); clear Bgo_53; clear hb))
        go_upto_region 26 with (fail)
        refine wp_region_rg (by kernel_rfl) (fun x y => Below x.heap.size x y) (fun (i : Nat) (v : Value) (w1 : World) => match i with | 0 => v = (.pointer (some ⟨gk, 0, none⟩)) | 1 => v = (.agg #[.int .u64 sa, .int .u64 sb]) | 2 => v = (.pointer (some ⟨gq, 0, none⟩)) | 3 => v = (.pointer (some ⟨gq, 0, none⟩)) | 4 => v = (.pointer (some ⟨gq, 0, none⟩)) | 5 => v = (.agg #[.int .u64 sa, .int .u64 sb]) | 6 => v = (.bool false) | _ => True) (by kernel_rfl) (by kernel_rfl) below_tr (Below.refl _ _).drew ?hJst1 (obl_list ?hObl1) ?hEnd1
        case hJst1 =>
          intro i v wx wy hi hs0 hs1 hJi
          match i, hi with
          | 0, _ => exact hJi
          | 1, _ => exact hJi
          | 2, _ => exact hJi
          | 3, _ => exact hJi
          | 4, _ => exact hJi
          | 5, _ => exact hJi
          | 6, _ => exact hJi
          | _ + 7, hi => exact absurd hi (by simp)
        case hObl1 =>
          refine ⟨?_, ?_, ?_, ?_, ?_, ?_, ?_,  trivial⟩
          · intro listed vals a wq K hD hst hj haft hun hK
            have h5 := hD.out 5 rfl rfl
            clear hD hj haft hun
            have e5 := eval_of h5
            refine step_now (v := .pointer (some ⟨gk, 0, none⟩)) (w' := wq) (wanted_free rfl) ?_ (hK _ _ (Below.refl _ _) rfl)
            clear hK
            first | (go_simp; done) | (go_simp; rfl)
          · intro listed vals a wq K hD hst hj haft hun hK
            obtain ⟨v98, h98, j98⟩ := hD.dep hj haft 0 98 rfl rfl
            replace j98 : v98 = (.pointer (some ⟨gk, 0, none⟩)) := j98
            subst j98
            replace hst : Below _ _ wq := hst
            clear hD hj haft hun
            have e98 := eval_of h98
            refine step_call (f := 27) (args := #[.pointer (some ⟨gk, 0, none⟩)]) (wanted_free rfl) ?_ (now_any gk gr 1 (by decide) sa sb #[.int .u64 sa, .int .u64 sb] rfl t0 wq (Keep.below ⟨Bgk_54.out, Bgr_54.out⟩ hst)) ?_
            · clear hK; first | (go_simp; done) | (go_simp; rfl)
            · rintro e w' ⟨he, hbq⟩; exact ⟨_, he, hK _ _ hbq rfl⟩
          · intro listed vals a wq K hD hst hj haft hun hK
            have h6 := hD.out 6 rfl rfl
            clear hD hj haft hun
            have e6 := eval_of h6
            refine step_now (v := .pointer (some ⟨gq, 0, none⟩)) (w' := wq) (wanted_free rfl) ?_ (hK _ _ (Below.refl _ _) rfl)
            clear hK
            first | (go_simp; done) | (go_simp; rfl)
          · intro listed vals a wq K hD hst hj haft hun hK
            obtain ⟨v100, h100, j100⟩ := hD.dep hj haft 2 100 rfl rfl
            replace j100 : v100 = (.pointer (some ⟨gq, 0, none⟩)) := j100
            subst j100
            clear hD hj haft hun
            have e100 := eval_of h100
            refine step_now (v := .pointer (some ⟨gq, 0, none⟩)) (w' := wq) (wanted_free rfl) ?_ (hK _ _ (Below.refl _ _) rfl)
            clear hK
            first | (go_simp; done) | (go_simp; rfl)
          · intro listed vals a wq K hD hst hj haft hun hK
            obtain ⟨v101, h101, j101⟩ := hD.dep hj haft 3 101 rfl rfl
            replace j101 : v101 = (.pointer (some ⟨gq, 0, none⟩)) := j101
            subst j101
            clear hD hj haft hun
            have e101 := eval_of h101
            refine step_now (v := .pointer (some ⟨gq, 0, none⟩)) (w' := wq) (wanted_free rfl) ?_ (hK _ _ (Below.refl _ _) rfl)
            clear hK
            first | (go_simp; done) | (go_simp; rfl)
          · intro listed vals a wq K hD hst hj haft hun hK
            obtain ⟨v102, h102, j102⟩ := hD.dep hj haft 4 102 rfl rfl
            replace j102 : v102 = (.pointer (some ⟨gq, 0, none⟩)) := j102
            subst j102
            replace hst : Below _ _ wq := hst
            clear hD hj haft hun
            have e102 := eval_of h102
            exact step_now (v := .agg #[.int .u64 sa, .int .u64 sb]) (w' := wq) (wanted_free rfl) (rg_loadmid rfl e102 (blk_range (blk_below Bgq_54.out hst) 0 [.int .u64 sa, .int .u64 sb] rfl) Try.underlying30 rfl (by kernel_rfl)) (hK _ _ (Below.refl _ _) rfl)
          · intro listed vals a wq K hD hst hj haft hun hK
            obtain ⟨v99, h99, j99⟩ := hD.dep hj haft 1 99 rfl rfl
            replace j99 : v99 = (.agg #[.int .u64 sa, .int .u64 sb]) := j99
            subst j99
            obtain ⟨v103, h103, j103⟩ := hD.dep hj haft 5 103 rfl rfl
            replace j103 : v103 = (.agg #[.int .u64 sa, .int .u64 sb]) := j103
            subst j103
            clear hD hj haft hun
            have e99 := eval_of h99
            have e103 := eval_of h103
            refine step_now (v := .bool false) (w' := wq) (wanted_free rfl) ?_ (hK _ _ (Below.refl _ _) rfl)
            clear hK
            first | (go_simp; done) | (go_simp; rfl)
        intro vals wend hst hj
        have j0 : vals 0 = (.pointer (some ⟨gk, 0, none⟩)) := hj 0 (by decide)
        have j1 : vals 1 = (.agg #[.int .u64 sa, .int .u64 sb]) := hj 1 (by decide)
        have j2 : vals 2 = (.pointer (some ⟨gq, 0, none⟩)) := hj 2 (by decide)
        have j3 : vals 3 = (.pointer (some ⟨gq, 0, none⟩)) := hj 3 (by decide)
        have j4 : vals 4 = (.pointer (some ⟨gq, 0, none⟩)) := hj 4 (by decide)
        have j5 : vals 5 = (.agg #[.int .u64 sa, .int .u64 sb]) := hj 5 (by decide)
        have j6 : vals 6 = (.bool false) := hj 6 (by decide)
        replace hst : Below _ _ wend := hst
        clear hj
        rw [putAll_list]
        simp only [putL, Act.put, List.setIfInBounds_toArray, List.set_cons_zero, List.set_cons_succ, j0, j1, j2, j3, j4, j5, j6]
        clear j0 j1 j2 j3 j4 j5 j6
        have HB_55 := Aside0.mk (below_step HB_54.out hst)
        clear HB_54
        have Bgk_55 := Aside0.mk (blk_below Bgk_54.out hst)
        clear Bgk_54
        have Bgr_55 := Aside0.mk (blk_below Bgr_54.out hst)
        clear Bgr_54
        have Bgq_55 := Aside0.mk (blk_below Bgq_54.out hst)
        clear Bgq_54
        have Bgo_55 := Aside0.mk (blk_below Bgo_54.out hst)
        clear Bgo_54
        clear hst
        go_wp2
        go_roundw
        case rel => exact ⟨k + 1, kv, sa, sb, oa, ob, till, false, by have := HLT.out; omega, by go_num, rfl, ⟨⟨gr, t0, Ngrgq.out, .inl ⟨rfl, ⟨Bgk_55.out, Bgr_55.out⟩⟩⟩, Bgq_55.out⟩, HB_55⟩
        case measure => have := HLT.out; simp [intOf]; omega
      by_cases h1 : kd = 1
      · have hkd : 1 = kd := h1.symm
        clear h0 h1
        obtain rfl := hkd
        obtain ⟨bv, hbv⟩ : ∃ b : Bool, (((ck sa sb p sh sl dh dl sp dp (now / 16) == nn) || (ck sa sb p sh sl dh dl sp dp (IntKind.i64.wrap (now / 16 - 1)) == nn)) || ((false && decide (now / 16 ≤ till)) && ((ck oa ob p sh sl dh dl sp dp (now / 16) == nn) || (ck oa ob p sh sl dh dl sp dp (IntKind.i64.wrap (now / 16 - 1)) == nn)))) = b := ⟨_, rfl⟩
        have HBV := Aside0.mk hbv
        clear hbv
        go_upto_region 18 with fail
        go_upto_region 18 with (fail)
        refine wp_region_rg (by kernel_rfl) (fun x y => Below x.heap.size x y) (fun (i : Nat) (v : Value) (w1 : World) => match i with | 0 => v = (.pointer (some ⟨gk, 0, none⟩)) | 1 => v = (.pointer (some ⟨go, 1, none⟩)) | 2 => v = (.agg #[.int .i64 p, .int .u64 sh, .int .u64 sl, .int .u64 dh, .int .u64 dl, .int .i64 sp, .int .i64 dp]) | 3 => v = (.pointer (some ⟨go, 8, none⟩)) | 4 => v = (.int .i64 now) | 5 => v = (.pointer (some ⟨go, 9, none⟩)) | 6 => v = (.int .u32 nn) | 7 => v = (.bool bv) | 8 => v = (.pointer (some ⟨gq, 0, none⟩)) | 9 => v = (.pointer (some ⟨go, 1, none⟩)) | 10 => v = (.agg #[.int .i64 p, .int .u64 sh, .int .u64 sl, .int .u64 dh, .int .u64 dl, .int .i64 sp, .int .i64 dp]) | 11 => v = (.pointer (some ⟨go, 8, none⟩)) | 12 => v = (.int .i64 now) | 13 => v = (.pointer (some ⟨go, 9, none⟩)) | 14 => v = (.int .u32 nn) | 15 => v = (.bool bv) | 16 => v = (.bool false) | _ => True) (by kernel_rfl) (by kernel_rfl) below_tr (Below.refl _ _).drew ?hJst2 (obl_list ?hObl2) ?hEnd2
        case hJst2 =>
          intro i v wx wy hi hs0 hs1 hJi
          match i, hi with
          | 0, _ => exact hJi
          | 1, _ => exact hJi
          | 2, _ => exact hJi
          | 3, _ => exact hJi
          | 4, _ => exact hJi
          | 5, _ => exact hJi
          | 6, _ => exact hJi
          | 7, _ => exact hJi
          | 8, _ => exact hJi
          | 9, _ => exact hJi
          | 10, _ => exact hJi
          | 11, _ => exact hJi
          | 12, _ => exact hJi
          | 13, _ => exact hJi
          | 14, _ => exact hJi
          | 15, _ => exact hJi
          | 16, _ => exact hJi
          | _ + 17, hi => exact absurd hi (by simp)
        case hObl2 =>
          refine ⟨?_, ?_, ?_, ?_, ?_, ?_, ?_, ?_, ?_, ?_, ?_, ?_, ?_, ?_, ?_, ?_, ?_,  trivial⟩
          · intro listed vals a wq K hD hst hj haft hun hK
            have h5 := hD.out 5 rfl rfl
            clear hD hj haft hun
            have e5 := eval_of h5
            refine step_now (v := .pointer (some ⟨gk, 0, none⟩)) (w' := wq) (wanted_free rfl) ?_ (hK _ _ (Below.refl _ _) rfl)
            clear hK
            first | (go_simp; done) | (go_simp; rfl)
          · intro listed vals a wq K hD hst hj haft hun hK
            have h9 := hD.out 9 rfl rfl
            clear hD hj haft hun
            have e9 := eval_of h9
            refine step_now (v := .pointer (some ⟨go, 1, none⟩)) (w' := wq) (wanted_free rfl) ?_ (hK _ _ (Below.refl _ _) rfl)
            clear hK
            first | (go_simp; done) | (go_simp; rfl)
          · intro listed vals a wq K hD hst hj haft hun hK
            obtain ⟨v51, h51, j51⟩ := hD.dep hj haft 1 51 rfl rfl
            replace j51 : v51 = (.pointer (some ⟨go, 1, none⟩)) := j51
            subst j51
            replace hst : Below _ _ wq := hst
            clear hD hj haft hun
            have e51 := eval_of h51
            exact step_now (v := .agg #[.int .i64 p, .int .u64 sh, .int .u64 sl, .int .u64 dh, .int .u64 dl, .int .i64 sp, .int .i64 dp]) (w' := wq) (wanted_free rfl) (rg_loadmid rfl e51 (blk_range (blk_below Bgo_52.out hst) 1 [.int .i64 p, .int .u64 sh, .int .u64 sl, .int .u64 dh, .int .u64 dl, .int .i64 sp, .int .i64 dp] rfl) Try.underlying29 rfl (by kernel_rfl)) (hK _ _ (Below.refl _ _) rfl)
          · intro listed vals a wq K hD hst hj haft hun hK
            have h9 := hD.out 9 rfl rfl
            clear hD hj haft hun
            have e9 := eval_of h9
            refine step_now (v := .pointer (some ⟨go, 8, none⟩)) (w' := wq) (wanted_free rfl) ?_ (hK _ _ (Below.refl _ _) rfl)
            clear hK
            first | (go_simp; done) | (go_simp; rfl)
          · intro listed vals a wq K hD hst hj haft hun hK
            obtain ⟨v53, h53, j53⟩ := hD.dep hj haft 3 53 rfl rfl
            replace j53 : v53 = (.pointer (some ⟨go, 8, none⟩)) := j53
            subst j53
            replace hst : Below _ _ wq := hst
            clear hD hj haft hun
            have e53 := eval_of h53
            exact step_now (v := .int .i64 now) (w' := wq) (wanted_free rfl) (rg_load rfl e53 (blk_below Bgo_52.out hst) rfl Try.underlying3 rfl) (hK _ _ (Below.refl _ _) rfl)
          · intro listed vals a wq K hD hst hj haft hun hK
            have h9 := hD.out 9 rfl rfl
            clear hD hj haft hun
            have e9 := eval_of h9
            refine step_now (v := .pointer (some ⟨go, 9, none⟩)) (w' := wq) (wanted_free rfl) ?_ (hK _ _ (Below.refl _ _) rfl)
            clear hK
            first | (go_simp; done) | (go_simp; rfl)
          · intro listed vals a wq K hD hst hj haft hun hK
            obtain ⟨v55, h55, j55⟩ := hD.dep hj haft 5 55 rfl rfl
            replace j55 : v55 = (.pointer (some ⟨go, 9, none⟩)) := j55
            subst j55
            replace hst : Below _ _ wq := hst
            clear hD hj haft hun
            have e55 := eval_of h55
            exact step_now (v := .int .u32 nn) (w' := wq) (wanted_free rfl) (rg_load rfl e55 (blk_below Bgo_52.out hst) rfl Try.underlying33 rfl) (hK _ _ (Below.refl _ _) rfl)
          · intro listed vals a wq K hD hst hj haft hun hK
            obtain ⟨v50, h50, j50⟩ := hD.dep hj haft 0 50 rfl rfl
            replace j50 : v50 = (.pointer (some ⟨gk, 0, none⟩)) := j50
            subst j50
            obtain ⟨v52, h52, j52⟩ := hD.dep hj haft 2 52 rfl rfl
            replace j52 : v52 = (.agg #[.int .i64 p, .int .u64 sh, .int .u64 sl, .int .u64 dh, .int .u64 dl, .int .i64 sp, .int .i64 dp]) := j52
            subst j52
            obtain ⟨v54, h54, j54⟩ := hD.dep hj haft 4 54 rfl rfl
            replace j54 : v54 = (.int .i64 now) := j54
            subst j54
            obtain ⟨v56, h56, j56⟩ := hD.dep hj haft 6 56 rfl rfl
            replace j56 : v56 = (.int .u32 nn) := j56
            subst j56
            replace hst : Below _ _ wq := hst
            clear hD hj haft hun
            have e50 := eval_of h50
            have e52 := eval_of h52
            have e54 := eval_of h54
            have e56 := eval_of h56
            refine step_call (f := 22) (args := #[.pointer (some ⟨gk, 0, none⟩), .agg #[.int .i64 p, .int .u64 sh, .int .u64 sl, .int .u64 dh, .int .u64 dl, .int .i64 sp, .int .i64 dp], .int .i64 now, .int .u32 nn]) (wanted_free rfl) ?_ (check1_w gk gr sa sb t0 p sh sl dh dl sp dp now nn bv (by rw [← HBV.out, Bool.false_and, Bool.false_and, Bool.or_false]) wq (Keep.below ⟨Bgk_52.out, Bgr_52.out⟩ hst)) ?_
            · clear hK; first | (go_simp; done) | (go_simp; rfl)
            · rintro e w' ⟨he, hbq⟩; exact ⟨_, he, hK _ _ hbq rfl⟩
          · intro listed vals a wq K hD hst hj haft hun hK
            have h6 := hD.out 6 rfl rfl
            clear hD hj haft hun
            have e6 := eval_of h6
            refine step_now (v := .pointer (some ⟨gq, 0, none⟩)) (w' := wq) (wanted_free rfl) ?_ (hK _ _ (Below.refl _ _) rfl)
            clear hK
            first | (go_simp; done) | (go_simp; rfl)
          · intro listed vals a wq K hD hst hj haft hun hK
            have h9 := hD.out 9 rfl rfl
            clear hD hj haft hun
            have e9 := eval_of h9
            refine step_now (v := .pointer (some ⟨go, 1, none⟩)) (w' := wq) (wanted_free rfl) ?_ (hK _ _ (Below.refl _ _) rfl)
            clear hK
            first | (go_simp; done) | (go_simp; rfl)
          · intro listed vals a wq K hD hst hj haft hun hK
            obtain ⟨v59, h59, j59⟩ := hD.dep hj haft 9 59 rfl rfl
            replace j59 : v59 = (.pointer (some ⟨go, 1, none⟩)) := j59
            subst j59
            replace hst : Below _ _ wq := hst
            clear hD hj haft hun
            have e59 := eval_of h59
            exact step_now (v := .agg #[.int .i64 p, .int .u64 sh, .int .u64 sl, .int .u64 dh, .int .u64 dl, .int .i64 sp, .int .i64 dp]) (w' := wq) (wanted_free rfl) (rg_loadmid rfl e59 (blk_range (blk_below Bgo_52.out hst) 1 [.int .i64 p, .int .u64 sh, .int .u64 sl, .int .u64 dh, .int .u64 dl, .int .i64 sp, .int .i64 dp] rfl) Try.underlying29 rfl (by kernel_rfl)) (hK _ _ (Below.refl _ _) rfl)
          · intro listed vals a wq K hD hst hj haft hun hK
            have h9 := hD.out 9 rfl rfl
            clear hD hj haft hun
            have e9 := eval_of h9
            refine step_now (v := .pointer (some ⟨go, 8, none⟩)) (w' := wq) (wanted_free rfl) ?_ (hK _ _ (Below.refl _ _) rfl)
            clear hK
            first | (go_simp; done) | (go_simp; rfl)
          · intro listed vals a wq K hD hst hj haft hun hK
            obtain ⟨v61, h61, j61⟩ := hD.dep hj haft 11 61 rfl rfl
            replace j61 : v61 = (.pointer (some ⟨go, 8, none⟩)) := j61
            subst j61
            replace hst : Below _ _ wq := hst
            clear hD hj haft hun
            have e61 := eval_of h61
            exact step_now (v := .int .i64 now) (w' := wq) (wanted_free rfl) (rg_load rfl e61 (blk_below Bgo_52.out hst) rfl Try.underlying3 rfl) (hK _ _ (Below.refl _ _) rfl)
          · intro listed vals a wq K hD hst hj haft hun hK
            have h9 := hD.out 9 rfl rfl
            clear hD hj haft hun
            have e9 := eval_of h9
            refine step_now (v := .pointer (some ⟨go, 9, none⟩)) (w' := wq) (wanted_free rfl) ?_ (hK _ _ (Below.refl _ _) rfl)
            clear hK
            first | (go_simp; done) | (go_simp; rfl)
          · intro listed vals a wq K hD hst hj haft hun hK
            obtain ⟨v63, h63, j63⟩ := hD.dep hj haft 13 63 rfl rfl
            replace j63 : v63 = (.pointer (some ⟨go, 9, none⟩)) := j63
            subst j63
            replace hst : Below _ _ wq := hst
            clear hD hj haft hun
            have e63 := eval_of h63
            exact step_now (v := .int .u32 nn) (w' := wq) (wanted_free rfl) (rg_load rfl e63 (blk_below Bgo_52.out hst) rfl Try.underlying33 rfl) (hK _ _ (Below.refl _ _) rfl)
          · intro listed vals a wq K hD hst hj haft hun hK
            obtain ⟨v58, h58, j58⟩ := hD.dep hj haft 8 58 rfl rfl
            replace j58 : v58 = (.pointer (some ⟨gq, 0, none⟩)) := j58
            subst j58
            obtain ⟨v60, h60, j60⟩ := hD.dep hj haft 10 60 rfl rfl
            replace j60 : v60 = (.agg #[.int .i64 p, .int .u64 sh, .int .u64 sl, .int .u64 dh, .int .u64 dl, .int .i64 sp, .int .i64 dp]) := j60
            subst j60
            obtain ⟨v62, h62, j62⟩ := hD.dep hj haft 12 62 rfl rfl
            replace j62 : v62 = (.int .i64 now) := j62
            subst j62
            obtain ⟨v64, h64, j64⟩ := hD.dep hj haft 14 64 rfl rfl
            replace j64 : v64 = (.int .u32 nn) := j64
            subst j64
            replace hst : Below _ _ wq := hst
            clear hD hj haft hun
            have e58 := eval_of h58
            have e60 := eval_of h60
            have e62 := eval_of h62
            have e64 := eval_of h64
            refine step_call (f := 25) (args := #[.pointer (some ⟨gq, 0, none⟩), .agg #[.int .i64 p, .int .u64 sh, .int .u64 sl, .int .u64 dh, .int .u64 dl, .int .i64 sp, .int .i64 dp], .int .i64 now, .int .u32 nn]) (wanted_free rfl) ?_ (rcheck_w gq sa sb oa ob till p sh sl dh dl sp dp now nn false bv HBV.out wq (blk_below Bgq_52.out hst)) ?_
            · clear hK; first | (go_simp; done) | (go_simp; rfl)
            · rintro e w' ⟨he, hbq⟩; exact ⟨_, he, hK _ _ hbq rfl⟩
          · intro listed vals a wq K hD hst hj haft hun hK
            obtain ⟨v57, h57, j57⟩ := hD.dep hj haft 7 57 rfl rfl
            replace j57 : v57 = (.bool bv) := j57
            subst j57
            obtain ⟨v65, h65, j65⟩ := hD.dep hj haft 15 65 rfl rfl
            replace j65 : v65 = (.bool bv) := j65
            subst j65
            clear hD hj haft hun
            have e57 := eval_of h57
            have e65 := eval_of h65
            refine step_now (v := .bool false) (w' := wq) (wanted_free rfl) ?_ (hK _ _ (Below.refl _ _) rfl)
            clear hK
            first | (go_simp; done) | (go_simp; rfl)
        intro vals wend hst hj
        have j0 : vals 0 = (.pointer (some ⟨gk, 0, none⟩)) := hj 0 (by decide)
        have j1 : vals 1 = (.pointer (some ⟨go, 1, none⟩)) := hj 1 (by decide)
        have j2 : vals 2 = (.agg #[.int .i64 p, .int .u64 sh, .int .u64 sl, .int .u64 dh, .int .u64 dl, .int .i64 sp, .int .i64 dp]) := hj 2 (by decide)
        have j3 : vals 3 = (.pointer (some ⟨go, 8, none⟩)) := hj 3 (by decide)
        have j4 : vals 4 = (.int .i64 now) := hj 4 (by decide)
        have j5 : vals 5 = (.pointer (some ⟨go, 9, none⟩)) := hj 5 (by decide)
        have j6 : vals 6 = (.int .u32 nn) := hj 6 (by decide)
        have j7 : vals 7 = (.bool bv) := hj 7 (by decide)
        have j8 : vals 8 = (.pointer (some ⟨gq, 0, none⟩)) := hj 8 (by decide)
        have j9 : vals 9 = (.pointer (some ⟨go, 1, none⟩)) := hj 9 (by decide)
        have j10 : vals 10 = (.agg #[.int .i64 p, .int .u64 sh, .int .u64 sl, .int .u64 dh, .int .u64 dl, .int .i64 sp, .int .i64 dp]) := hj 10 (by decide)
        have j11 : vals 11 = (.pointer (some ⟨go, 8, none⟩)) := hj 11 (by decide)
        have j12 : vals 12 = (.int .i64 now) := hj 12 (by decide)
        have j13 : vals 13 = (.pointer (some ⟨go, 9, none⟩)) := hj 13 (by decide)
        have j14 : vals 14 = (.int .u32 nn) := hj 14 (by decide)
        have j15 : vals 15 = (.bool bv) := hj 15 (by decide)
        have j16 : vals 16 = (.bool false) := hj 16 (by decide)
        replace hst : Below _ _ wend := hst
        clear hj
        rw [putAll_list]
        simp only [putL, Act.put, List.setIfInBounds_toArray, List.set_cons_zero, List.set_cons_succ, j0, j1, j2, j3, j4, j5, j6, j7, j8, j9, j10, j11, j12, j13, j14, j15, j16]
        clear j0 j1 j2 j3 j4 j5 j6 j7 j8 j9 j10 j11 j12 j13 j14 j15 j16
        have HB_53 := Aside0.mk (below_step HB_52.out hst)
        clear HB_52
        have Bgk_53 := Aside0.mk (blk_below Bgk_52.out hst)
        clear Bgk_52
        have Bgr_53 := Aside0.mk (blk_below Bgr_52.out hst)
        clear Bgr_52
        have Bgq_53 := Aside0.mk (blk_below Bgq_52.out hst)
        clear Bgq_52
        have Bgo_53 := Aside0.mk (blk_below Bgo_52.out hst)
        clear Bgo_52
        clear hst
        go_upto_region 26 with fail
        go_upto_region 26 with (fail)
        refine wp_region_rg (by kernel_rfl) (fun x y => Below x.heap.size x y) (fun (i : Nat) (v : Value) (w1 : World) => match i with | 0 => v = (.pointer (some ⟨gk, 0, none⟩)) | 1 => v = (.agg #[.int .u64 sa, .int .u64 sb]) | 2 => v = (.pointer (some ⟨gq, 0, none⟩)) | 3 => v = (.pointer (some ⟨gq, 0, none⟩)) | 4 => v = (.pointer (some ⟨gq, 0, none⟩)) | 5 => v = (.agg #[.int .u64 sa, .int .u64 sb]) | 6 => v = (.bool false) | _ => True) (by kernel_rfl) (by kernel_rfl) below_tr (Below.refl _ _).drew ?hJst3 (obl_list ?hObl3) ?hEnd3
        case hJst3 =>
          intro i v wx wy hi hs0 hs1 hJi
          match i, hi with
          | 0, _ => exact hJi
          | 1, _ => exact hJi
          | 2, _ => exact hJi
          | 3, _ => exact hJi
          | 4, _ => exact hJi
          | 5, _ => exact hJi
          | 6, _ => exact hJi
          | _ + 7, hi => exact absurd hi (by simp)
        case hObl3 =>
          refine ⟨?_, ?_, ?_, ?_, ?_, ?_, ?_,  trivial⟩
          · intro listed vals a wq K hD hst hj haft hun hK
            have h5 := hD.out 5 rfl rfl
            clear hD hj haft hun
            have e5 := eval_of h5
            refine step_now (v := .pointer (some ⟨gk, 0, none⟩)) (w' := wq) (wanted_free rfl) ?_ (hK _ _ (Below.refl _ _) rfl)
            clear hK
            first | (go_simp; done) | (go_simp; rfl)
          · intro listed vals a wq K hD hst hj haft hun hK
            obtain ⟨v98, h98, j98⟩ := hD.dep hj haft 0 98 rfl rfl
            replace j98 : v98 = (.pointer (some ⟨gk, 0, none⟩)) := j98
            subst j98
            replace hst : Below _ _ wq := hst
            clear hD hj haft hun
            have e98 := eval_of h98
            refine step_call (f := 27) (args := #[.pointer (some ⟨gk, 0, none⟩)]) (wanted_free rfl) ?_ (now_any gk gr 1 (by decide) sa sb #[.int .u64 sa, .int .u64 sb] rfl t0 wq (Keep.below ⟨Bgk_53.out, Bgr_53.out⟩ hst)) ?_
            · clear hK; first | (go_simp; done) | (go_simp; rfl)
            · rintro e w' ⟨he, hbq⟩; exact ⟨_, he, hK _ _ hbq rfl⟩
          · intro listed vals a wq K hD hst hj haft hun hK
            have h6 := hD.out 6 rfl rfl
            clear hD hj haft hun
            have e6 := eval_of h6
            refine step_now (v := .pointer (some ⟨gq, 0, none⟩)) (w' := wq) (wanted_free rfl) ?_ (hK _ _ (Below.refl _ _) rfl)
            clear hK
            first | (go_simp; done) | (go_simp; rfl)
          · intro listed vals a wq K hD hst hj haft hun hK
            obtain ⟨v100, h100, j100⟩ := hD.dep hj haft 2 100 rfl rfl
            replace j100 : v100 = (.pointer (some ⟨gq, 0, none⟩)) := j100
            subst j100
            clear hD hj haft hun
            have e100 := eval_of h100
            refine step_now (v := .pointer (some ⟨gq, 0, none⟩)) (w' := wq) (wanted_free rfl) ?_ (hK _ _ (Below.refl _ _) rfl)
            clear hK
            first | (go_simp; done) | (go_simp; rfl)
          · intro listed vals a wq K hD hst hj haft hun hK
            obtain ⟨v101, h101, j101⟩ := hD.dep hj haft 3 101 rfl rfl
            replace j101 : v101 = (.pointer (some ⟨gq, 0, none⟩)) := j101
            subst j101
            clear hD hj haft hun
            have e101 := eval_of h101
            refine step_now (v := .pointer (some ⟨gq, 0, none⟩)) (w' := wq) (wanted_free rfl) ?_ (hK _ _ (Below.refl _ _) rfl)
            clear hK
            first | (go_simp; done) | (go_simp; rfl)
          · intro listed vals a wq K hD hst hj haft hun hK
            obtain ⟨v102, h102, j102⟩ := hD.dep hj haft 4 102 rfl rfl
            replace j102 : v102 = (.pointer (some ⟨gq, 0, none⟩)) := j102
            subst j102
            replace hst : Below _ _ wq := hst
            clear hD hj haft hun
            have e102 := eval_of h102
            exact step_now (v := .agg #[.int .u64 sa, .int .u64 sb]) (w' := wq) (wanted_free rfl) (rg_loadmid rfl e102 (blk_range (blk_below Bgq_53.out hst) 0 [.int .u64 sa, .int .u64 sb] rfl) Try.underlying30 rfl (by kernel_rfl)) (hK _ _ (Below.refl _ _) rfl)
          · intro listed vals a wq K hD hst hj haft hun hK
            obtain ⟨v99, h99, j99⟩ := hD.dep hj haft 1 99 rfl rfl
            replace j99 : v99 = (.agg #[.int .u64 sa, .int .u64 sb]) := j99
            subst j99
            obtain ⟨v103, h103, j103⟩ := hD.dep hj haft 5 103 rfl rfl
            replace j103 : v103 = (.agg #[.int .u64 sa, .int .u64 sb]) := j103
            subst j103
            clear hD hj haft hun
            have e99 := eval_of h99
            have e103 := eval_of h103
            refine step_now (v := .bool false) (w' := wq) (wanted_free rfl) ?_ (hK _ _ (Below.refl _ _) rfl)
            clear hK
            first | (go_simp; done) | (go_simp; rfl)
        intro vals wend hst hj
        have j0 : vals 0 = (.pointer (some ⟨gk, 0, none⟩)) := hj 0 (by decide)
        have j1 : vals 1 = (.agg #[.int .u64 sa, .int .u64 sb]) := hj 1 (by decide)
        have j2 : vals 2 = (.pointer (some ⟨gq, 0, none⟩)) := hj 2 (by decide)
        have j3 : vals 3 = (.pointer (some ⟨gq, 0, none⟩)) := hj 3 (by decide)
        have j4 : vals 4 = (.pointer (some ⟨gq, 0, none⟩)) := hj 4 (by decide)
        have j5 : vals 5 = (.agg #[.int .u64 sa, .int .u64 sb]) := hj 5 (by decide)
        have j6 : vals 6 = (.bool false) := hj 6 (by decide)
        replace hst : Below _ _ wend := hst
        clear hj
        rw [putAll_list]
        simp only [putL, Act.put, List.setIfInBounds_toArray, List.set_cons_zero, List.set_cons_succ, j0, j1, j2, j3, j4, j5, j6]
        clear j0 j1 j2 j3 j4 j5 j6
        have HB_54 := Aside0.mk (below_step HB_53.out hst)
        clear HB_53
        have Bgk_54 := Aside0.mk (blk_below Bgk_53.out hst)
        clear Bgk_53
        have Bgr_54 := Aside0.mk (blk_below Bgr_53.out hst)
        clear Bgr_53
        have Bgq_54 := Aside0.mk (blk_below Bgq_53.out hst)
        clear Bgq_53
        have Bgo_54 := Aside0.mk (blk_below Bgo_53.out hst)
        clear Bgo_53
        clear hst
        go_wp2
        go_roundw
        case rel => exact ⟨k + 1, last, sa, sb, oa, ob, till, false, by have := HLT.out; omega, by go_num, rfl, ⟨⟨gr, t0, Ngrgq.out, .inl ⟨rfl, ⟨Bgk_54.out, Bgr_54.out⟩⟩⟩, Bgq_54.out⟩, HB_54⟩
        case measure => have := HLT.out; simp [intOf]; omega
      by_cases h2 : kd = 2
      · have hkd : 2 = kd := h2.symm
        clear h0 h1 h2
        obtain rfl := hkd
        obtain ⟨ntl, hntl⟩ : ∃ v : Int, IntKind.i64.wrap (now / 16 + 1) = v := ⟨_, rfl⟩
        have HNT := Aside0.mk hntl
        clear hntl
        go_upto_region 21 with fail
        go_upto_region 22 with (first | ((with_reducible refine gate_dst (N := 71) rfl ?_); refine loadmid_event rfl _ _ rfl go 10 rfl [.int .u64 ta, .int .u64 tb] _ (blk_range Bgo_52.out 10 [.int .u64 ta, .int .u64 tb] rfl) Try.underlying24 rfl (by kernel_rfl) ?_) | ((with_reducible refine gate_dst (N := 73) rfl ?_); refine load1_event rfl _ _ rfl go 8 rfl _ _ _ _ Bgo_52.out rfl Try.underlying3 rfl ?_) | (go_at_call 21; refine (rotate_any gk gr 1 (by decide) sa sb ta tb #[.int .u64 sa, .int .u64 sb] rfl t0 now ntl HNT.out _ ⟨Bgk_52.out, Bgr_52.out⟩).mono ?_; rintro e wy1 ⟨rfl, ⟨gr2, hk2⟩, hu⟩; have Bgq_y := Aside0.mk (Upd.blk hu Bgq_52.out (One.not (Ne.symm Ngkgq.out))); have Bgo_y := Aside0.mk (Upd.blk hu Bgo_52.out (One.not (Ne.symm Ngkgo.out))); have Bgk_y := Aside0.mk hk2.1; have Bgr2_y := Aside0.mk hk2.2; have HB_y := Aside0.mk (below_upd HB_52.out hu (below_size HB_52.out) (fun k hk => by cases hk; exact Lgk.out)); clear hk2 hu Bgk_52 Bgr_52 Bgq_52 Bgo_52 HB_52))
        have Ngr2gq := Aside0.mk (show gr2 ≠ gq by intro h; have h1 := Bgr2_y.out; rw [h, Bgq_y.out] at h1; simp at h1)
        go_upto_region 26 with (first | ((with_reducible refine gate_dst (N := 77) rfl ?_); refine loadmid_event rfl _ _ rfl go 10 rfl [.int .u64 ta, .int .u64 tb] _ (blk_range Bgo_y.out 10 [.int .u64 ta, .int .u64 tb] rfl) Try.underlying24 rfl (by kernel_rfl) ?_) | ((with_reducible refine gate_dst (N := 79) rfl ?_); refine load1_event rfl _ _ rfl go 8 rfl _ _ _ _ Bgo_y.out rfl Try.underlying3 rfl ?_) | (go_at_call 26; refine (rrotate_any gq sa sb oa ob till ta tb now ntl false HNT.out _ Bgq_y.out).mono ?_; rintro e wy2 ⟨rfl, hq2, hu⟩; have Bgk_z := Aside0.mk (Upd.blk hu Bgk_y.out (One.not Ngkgq.out)); have Bgr2_z := Aside0.mk (Upd.blk hu Bgr2_y.out (One.not Ngr2gq.out)); have Bgq_z := Aside0.mk hq2; have HB_z := Aside0.mk (below_upd HB_y.out hu (below_size HB_y.out) (fun k hk => by cases hk; exact Lgq.out)); clear hq2 hu Bgk_y Bgr2_y Bgq_y Bgo_y HB_y))
        go_upto_region 26 with fail
        go_upto_region 26 with (fail)
        refine wp_region_rg (by kernel_rfl) (fun x y => Below x.heap.size x y) (fun (i : Nat) (v : Value) (w1 : World) => match i with | 0 => v = (.pointer (some ⟨gk, 0, none⟩)) | 1 => v = (.agg #[.int .u64 ta, .int .u64 tb]) | 2 => v = (.pointer (some ⟨gq, 0, none⟩)) | 3 => v = (.pointer (some ⟨gq, 0, none⟩)) | 4 => v = (.pointer (some ⟨gq, 0, none⟩)) | 5 => v = (.agg #[.int .u64 ta, .int .u64 tb]) | 6 => v = (.bool false) | _ => True) (by kernel_rfl) (by kernel_rfl) below_tr (Below.refl _ _).drew ?hJst4 (obl_list ?hObl4) ?hEnd4
        case hJst4 =>
          intro i v wx wy hi hs0 hs1 hJi
          match i, hi with
          | 0, _ => exact hJi
          | 1, _ => exact hJi
          | 2, _ => exact hJi
          | 3, _ => exact hJi
          | 4, _ => exact hJi
          | 5, _ => exact hJi
          | 6, _ => exact hJi
          | _ + 7, hi => exact absurd hi (by simp)
        case hObl4 =>
          refine ⟨?_, ?_, ?_, ?_, ?_, ?_, ?_,  trivial⟩
          · intro listed vals a wq K hD hst hj haft hun hK
            have h5 := hD.out 5 rfl rfl
            clear hD hj haft hun
            have e5 := eval_of h5
            refine step_now (v := .pointer (some ⟨gk, 0, none⟩)) (w' := wq) (wanted_free rfl) ?_ (hK _ _ (Below.refl _ _) rfl)
            clear hK
            first | (go_simp; done) | (go_simp; rfl)
          · intro listed vals a wq K hD hst hj haft hun hK
            obtain ⟨v98, h98, j98⟩ := hD.dep hj haft 0 98 rfl rfl
            replace j98 : v98 = (.pointer (some ⟨gk, 0, none⟩)) := j98
            subst j98
            replace hst : Below _ _ wq := hst
            clear hD hj haft hun
            have e98 := eval_of h98
            refine step_call (f := 27) (args := #[.pointer (some ⟨gk, 0, none⟩)]) (wanted_free rfl) ?_ (now_any gk gr2 2 (by decide) ta tb #[.int .u64 ta, .int .u64 tb, .int .u64 sa, .int .u64 sb] rfl ntl wq (Keep.below ⟨Bgk_z.out, Bgr2_z.out⟩ hst)) ?_
            · clear hK; first | (go_simp; done) | (go_simp; rfl)
            · rintro e w' ⟨he, hbq⟩; exact ⟨_, he, hK _ _ hbq rfl⟩
          · intro listed vals a wq K hD hst hj haft hun hK
            have h6 := hD.out 6 rfl rfl
            clear hD hj haft hun
            have e6 := eval_of h6
            refine step_now (v := .pointer (some ⟨gq, 0, none⟩)) (w' := wq) (wanted_free rfl) ?_ (hK _ _ (Below.refl _ _) rfl)
            clear hK
            first | (go_simp; done) | (go_simp; rfl)
          · intro listed vals a wq K hD hst hj haft hun hK
            obtain ⟨v100, h100, j100⟩ := hD.dep hj haft 2 100 rfl rfl
            replace j100 : v100 = (.pointer (some ⟨gq, 0, none⟩)) := j100
            subst j100
            clear hD hj haft hun
            have e100 := eval_of h100
            refine step_now (v := .pointer (some ⟨gq, 0, none⟩)) (w' := wq) (wanted_free rfl) ?_ (hK _ _ (Below.refl _ _) rfl)
            clear hK
            first | (go_simp; done) | (go_simp; rfl)
          · intro listed vals a wq K hD hst hj haft hun hK
            obtain ⟨v101, h101, j101⟩ := hD.dep hj haft 3 101 rfl rfl
            replace j101 : v101 = (.pointer (some ⟨gq, 0, none⟩)) := j101
            subst j101
            clear hD hj haft hun
            have e101 := eval_of h101
            refine step_now (v := .pointer (some ⟨gq, 0, none⟩)) (w' := wq) (wanted_free rfl) ?_ (hK _ _ (Below.refl _ _) rfl)
            clear hK
            first | (go_simp; done) | (go_simp; rfl)
          · intro listed vals a wq K hD hst hj haft hun hK
            obtain ⟨v102, h102, j102⟩ := hD.dep hj haft 4 102 rfl rfl
            replace j102 : v102 = (.pointer (some ⟨gq, 0, none⟩)) := j102
            subst j102
            replace hst : Below _ _ wq := hst
            clear hD hj haft hun
            have e102 := eval_of h102
            exact step_now (v := .agg #[.int .u64 ta, .int .u64 tb]) (w' := wq) (wanted_free rfl) (rg_loadmid rfl e102 (blk_range (blk_below Bgq_z.out hst) 0 [.int .u64 ta, .int .u64 tb] rfl) Try.underlying30 rfl (by kernel_rfl)) (hK _ _ (Below.refl _ _) rfl)
          · intro listed vals a wq K hD hst hj haft hun hK
            obtain ⟨v99, h99, j99⟩ := hD.dep hj haft 1 99 rfl rfl
            replace j99 : v99 = (.agg #[.int .u64 ta, .int .u64 tb]) := j99
            subst j99
            obtain ⟨v103, h103, j103⟩ := hD.dep hj haft 5 103 rfl rfl
            replace j103 : v103 = (.agg #[.int .u64 ta, .int .u64 tb]) := j103
            subst j103
            clear hD hj haft hun
            have e99 := eval_of h99
            have e103 := eval_of h103
            refine step_now (v := .bool false) (w' := wq) (wanted_free rfl) ?_ (hK _ _ (Below.refl _ _) rfl)
            clear hK
            first | (go_simp; done) | (go_simp; rfl)
        intro vals wend hst hj
        have j0 : vals 0 = (.pointer (some ⟨gk, 0, none⟩)) := hj 0 (by decide)
        have j1 : vals 1 = (.agg #[.int .u64 ta, .int .u64 tb]) := hj 1 (by decide)
        have j2 : vals 2 = (.pointer (some ⟨gq, 0, none⟩)) := hj 2 (by decide)
        have j3 : vals 3 = (.pointer (some ⟨gq, 0, none⟩)) := hj 3 (by decide)
        have j4 : vals 4 = (.pointer (some ⟨gq, 0, none⟩)) := hj 4 (by decide)
        have j5 : vals 5 = (.agg #[.int .u64 ta, .int .u64 tb]) := hj 5 (by decide)
        have j6 : vals 6 = (.bool false) := hj 6 (by decide)
        replace hst : Below _ _ wend := hst
        clear hj
        rw [putAll_list]
        simp only [putL, Act.put, List.setIfInBounds_toArray, List.set_cons_zero, List.set_cons_succ, j0, j1, j2, j3, j4, j5, j6]
        clear j0 j1 j2 j3 j4 j5 j6
        have HB_53 := Aside0.mk (below_step HB_z.out hst)
        clear HB_z
        have Bgk_53 := Aside0.mk (blk_below Bgk_z.out hst)
        clear Bgk_z
        have Bgr2_53 := Aside0.mk (blk_below Bgr2_z.out hst)
        clear Bgr2_z
        have Bgq_53 := Aside0.mk (blk_below Bgq_z.out hst)
        clear Bgq_z
        clear hst
        go_wp2
        go_roundw
        case rel => exact ⟨k + 1, last, ta, tb, sa, sb, ntl, true, by have := HLT.out; omega, by go_num, rfl, ⟨⟨gr2, ntl, Ngr2gq.out, .inr ⟨rfl, rfl, ⟨Bgk_53.out, Bgr2_53.out⟩⟩⟩, Bgq_53.out⟩, HB_53⟩
        case measure => have := HLT.out; simp [intOf]; omega
      by_cases h3 : kd = 3
      · have hkd : 3 = kd := h3.symm
        clear h0 h1 h2 h3
        obtain rfl := hkd
        obtain ⟨bv, hbv⟩ : ∃ b : Bool, (((ck sa sb p sh sl dh dl sp dp (now / 16) == last) || (ck sa sb p sh sl dh dl sp dp (IntKind.i64.wrap (now / 16 - 1)) == last)) || ((false && decide (now / 16 ≤ till)) && ((ck oa ob p sh sl dh dl sp dp (now / 16) == last) || (ck oa ob p sh sl dh dl sp dp (IntKind.i64.wrap (now / 16 - 1)) == last)))) = b := ⟨_, rfl⟩
        have HBV := Aside0.mk hbv
        clear hbv
        go_upto_region 24 with fail
        go_upto_region 24 with (fail)
        refine wp_region_rg (by kernel_rfl) (fun x y => Below x.heap.size x y) (fun (i : Nat) (v : Value) (w1 : World) => match i with | 0 => v = (.pointer (some ⟨gk, 0, none⟩)) | 1 => v = (.pointer (some ⟨go, 1, none⟩)) | 2 => v = (.agg #[.int .i64 p, .int .u64 sh, .int .u64 sl, .int .u64 dh, .int .u64 dl, .int .i64 sp, .int .i64 dp]) | 3 => v = (.pointer (some ⟨go, 8, none⟩)) | 4 => v = (.int .i64 now) | 5 => v = (.int .u32 last) | 6 => v = (.bool bv) | 7 => v = (.pointer (some ⟨gq, 0, none⟩)) | 8 => v = (.pointer (some ⟨go, 1, none⟩)) | 9 => v = (.agg #[.int .i64 p, .int .u64 sh, .int .u64 sl, .int .u64 dh, .int .u64 dl, .int .i64 sp, .int .i64 dp]) | 10 => v = (.pointer (some ⟨go, 8, none⟩)) | 11 => v = (.int .i64 now) | 12 => v = (.int .u32 last) | 13 => v = (.bool bv) | 14 => v = (.bool false) | _ => True) (by kernel_rfl) (by kernel_rfl) below_tr (Below.refl _ _).drew ?hJst5 (obl_list ?hObl5) ?hEnd5
        case hJst5 =>
          intro i v wx wy hi hs0 hs1 hJi
          match i, hi with
          | 0, _ => exact hJi
          | 1, _ => exact hJi
          | 2, _ => exact hJi
          | 3, _ => exact hJi
          | 4, _ => exact hJi
          | 5, _ => exact hJi
          | 6, _ => exact hJi
          | 7, _ => exact hJi
          | 8, _ => exact hJi
          | 9, _ => exact hJi
          | 10, _ => exact hJi
          | 11, _ => exact hJi
          | 12, _ => exact hJi
          | 13, _ => exact hJi
          | 14, _ => exact hJi
          | _ + 15, hi => exact absurd hi (by simp)
        case hObl5 =>
          refine ⟨?_, ?_, ?_, ?_, ?_, ?_, ?_, ?_, ?_, ?_, ?_, ?_, ?_, ?_, ?_,  trivial⟩
          · intro listed vals a wq K hD hst hj haft hun hK
            have h5 := hD.out 5 rfl rfl
            clear hD hj haft hun
            have e5 := eval_of h5
            refine step_now (v := .pointer (some ⟨gk, 0, none⟩)) (w' := wq) (wanted_free rfl) ?_ (hK _ _ (Below.refl _ _) rfl)
            clear hK
            first | (go_simp; done) | (go_simp; rfl)
          · intro listed vals a wq K hD hst hj haft hun hK
            have h9 := hD.out 9 rfl rfl
            clear hD hj haft hun
            have e9 := eval_of h9
            refine step_now (v := .pointer (some ⟨go, 1, none⟩)) (w' := wq) (wanted_free rfl) ?_ (hK _ _ (Below.refl _ _) rfl)
            clear hK
            first | (go_simp; done) | (go_simp; rfl)
          · intro listed vals a wq K hD hst hj haft hun hK
            obtain ⟨v84, h84, j84⟩ := hD.dep hj haft 1 84 rfl rfl
            replace j84 : v84 = (.pointer (some ⟨go, 1, none⟩)) := j84
            subst j84
            replace hst : Below _ _ wq := hst
            clear hD hj haft hun
            have e84 := eval_of h84
            exact step_now (v := .agg #[.int .i64 p, .int .u64 sh, .int .u64 sl, .int .u64 dh, .int .u64 dl, .int .i64 sp, .int .i64 dp]) (w' := wq) (wanted_free rfl) (rg_loadmid rfl e84 (blk_range (blk_below Bgo_52.out hst) 1 [.int .i64 p, .int .u64 sh, .int .u64 sl, .int .u64 dh, .int .u64 dl, .int .i64 sp, .int .i64 dp] rfl) Try.underlying29 rfl (by kernel_rfl)) (hK _ _ (Below.refl _ _) rfl)
          · intro listed vals a wq K hD hst hj haft hun hK
            have h9 := hD.out 9 rfl rfl
            clear hD hj haft hun
            have e9 := eval_of h9
            refine step_now (v := .pointer (some ⟨go, 8, none⟩)) (w' := wq) (wanted_free rfl) ?_ (hK _ _ (Below.refl _ _) rfl)
            clear hK
            first | (go_simp; done) | (go_simp; rfl)
          · intro listed vals a wq K hD hst hj haft hun hK
            obtain ⟨v86, h86, j86⟩ := hD.dep hj haft 3 86 rfl rfl
            replace j86 : v86 = (.pointer (some ⟨go, 8, none⟩)) := j86
            subst j86
            replace hst : Below _ _ wq := hst
            clear hD hj haft hun
            have e86 := eval_of h86
            exact step_now (v := .int .i64 now) (w' := wq) (wanted_free rfl) (rg_load rfl e86 (blk_below Bgo_52.out hst) rfl Try.underlying3 rfl) (hK _ _ (Below.refl _ _) rfl)
          · intro listed vals a wq K hD hst hj haft hun hK
            have h7 := hD.out 7 rfl rfl
            clear hD hj haft hun
            have e7 := eval_of h7
            refine step_now (v := .int .u32 last) (w' := wq) (wanted_free rfl) ?_ (hK _ _ (Below.refl _ _) rfl)
            clear hK
            first | (go_simp; done) | (go_simp; rfl) | (go_simp; (try simp only [IntKind.wrap_u32]); omega)
          · intro listed vals a wq K hD hst hj haft hun hK
            obtain ⟨v83, h83, j83⟩ := hD.dep hj haft 0 83 rfl rfl
            replace j83 : v83 = (.pointer (some ⟨gk, 0, none⟩)) := j83
            subst j83
            obtain ⟨v85, h85, j85⟩ := hD.dep hj haft 2 85 rfl rfl
            replace j85 : v85 = (.agg #[.int .i64 p, .int .u64 sh, .int .u64 sl, .int .u64 dh, .int .u64 dl, .int .i64 sp, .int .i64 dp]) := j85
            subst j85
            obtain ⟨v87, h87, j87⟩ := hD.dep hj haft 4 87 rfl rfl
            replace j87 : v87 = (.int .i64 now) := j87
            subst j87
            obtain ⟨v88, h88, j88⟩ := hD.dep hj haft 5 88 rfl rfl
            replace j88 : v88 = (.int .u32 last) := j88
            subst j88
            replace hst : Below _ _ wq := hst
            clear hD hj haft hun
            have e83 := eval_of h83
            have e85 := eval_of h85
            have e87 := eval_of h87
            have e88 := eval_of h88
            refine step_call (f := 22) (args := #[.pointer (some ⟨gk, 0, none⟩), .agg #[.int .i64 p, .int .u64 sh, .int .u64 sl, .int .u64 dh, .int .u64 dl, .int .i64 sp, .int .i64 dp], .int .i64 now, .int .u32 last]) (wanted_free rfl) ?_ (check1_w gk gr sa sb t0 p sh sl dh dl sp dp now last bv (by rw [← HBV.out, Bool.false_and, Bool.false_and, Bool.or_false]) wq (Keep.below ⟨Bgk_52.out, Bgr_52.out⟩ hst)) ?_
            · clear hK; first | (go_simp; done) | (go_simp; rfl)
            · rintro e w' ⟨he, hbq⟩; exact ⟨_, he, hK _ _ hbq rfl⟩
          · intro listed vals a wq K hD hst hj haft hun hK
            have h6 := hD.out 6 rfl rfl
            clear hD hj haft hun
            have e6 := eval_of h6
            refine step_now (v := .pointer (some ⟨gq, 0, none⟩)) (w' := wq) (wanted_free rfl) ?_ (hK _ _ (Below.refl _ _) rfl)
            clear hK
            first | (go_simp; done) | (go_simp; rfl)
          · intro listed vals a wq K hD hst hj haft hun hK
            have h9 := hD.out 9 rfl rfl
            clear hD hj haft hun
            have e9 := eval_of h9
            refine step_now (v := .pointer (some ⟨go, 1, none⟩)) (w' := wq) (wanted_free rfl) ?_ (hK _ _ (Below.refl _ _) rfl)
            clear hK
            first | (go_simp; done) | (go_simp; rfl)
          · intro listed vals a wq K hD hst hj haft hun hK
            obtain ⟨v91, h91, j91⟩ := hD.dep hj haft 8 91 rfl rfl
            replace j91 : v91 = (.pointer (some ⟨go, 1, none⟩)) := j91
            subst j91
            replace hst : Below _ _ wq := hst
            clear hD hj haft hun
            have e91 := eval_of h91
            exact step_now (v := .agg #[.int .i64 p, .int .u64 sh, .int .u64 sl, .int .u64 dh, .int .u64 dl, .int .i64 sp, .int .i64 dp]) (w' := wq) (wanted_free rfl) (rg_loadmid rfl e91 (blk_range (blk_below Bgo_52.out hst) 1 [.int .i64 p, .int .u64 sh, .int .u64 sl, .int .u64 dh, .int .u64 dl, .int .i64 sp, .int .i64 dp] rfl) Try.underlying29 rfl (by kernel_rfl)) (hK _ _ (Below.refl _ _) rfl)
          · intro listed vals a wq K hD hst hj haft hun hK
            have h9 := hD.out 9 rfl rfl
            clear hD hj haft hun
            have e9 := eval_of h9
            refine step_now (v := .pointer (some ⟨go, 8, none⟩)) (w' := wq) (wanted_free rfl) ?_ (hK _ _ (Below.refl _ _) rfl)
            clear hK
            first | (go_simp; done) | (go_simp; rfl)
          · intro listed vals a wq K hD hst hj haft hun hK
            obtain ⟨v93, h93, j93⟩ := hD.dep hj haft 10 93 rfl rfl
            replace j93 : v93 = (.pointer (some ⟨go, 8, none⟩)) := j93
            subst j93
            replace hst : Below _ _ wq := hst
            clear hD hj haft hun
            have e93 := eval_of h93
            exact step_now (v := .int .i64 now) (w' := wq) (wanted_free rfl) (rg_load rfl e93 (blk_below Bgo_52.out hst) rfl Try.underlying3 rfl) (hK _ _ (Below.refl _ _) rfl)
          · intro listed vals a wq K hD hst hj haft hun hK
            have h7 := hD.out 7 rfl rfl
            clear hD hj haft hun
            have e7 := eval_of h7
            refine step_now (v := .int .u32 last) (w' := wq) (wanted_free rfl) ?_ (hK _ _ (Below.refl _ _) rfl)
            clear hK
            first | (go_simp; done) | (go_simp; rfl) | (go_simp; (try simp only [IntKind.wrap_u32]); omega)
          · intro listed vals a wq K hD hst hj haft hun hK
            obtain ⟨v90, h90, j90⟩ := hD.dep hj haft 7 90 rfl rfl
            replace j90 : v90 = (.pointer (some ⟨gq, 0, none⟩)) := j90
            subst j90
            obtain ⟨v92, h92, j92⟩ := hD.dep hj haft 9 92 rfl rfl
            replace j92 : v92 = (.agg #[.int .i64 p, .int .u64 sh, .int .u64 sl, .int .u64 dh, .int .u64 dl, .int .i64 sp, .int .i64 dp]) := j92
            subst j92
            obtain ⟨v94, h94, j94⟩ := hD.dep hj haft 11 94 rfl rfl
            replace j94 : v94 = (.int .i64 now) := j94
            subst j94
            obtain ⟨v95, h95, j95⟩ := hD.dep hj haft 12 95 rfl rfl
            replace j95 : v95 = (.int .u32 last) := j95
            subst j95
            replace hst : Below _ _ wq := hst
            clear hD hj haft hun
            have e90 := eval_of h90
            have e92 := eval_of h92
            have e94 := eval_of h94
            have e95 := eval_of h95
            refine step_call (f := 25) (args := #[.pointer (some ⟨gq, 0, none⟩), .agg #[.int .i64 p, .int .u64 sh, .int .u64 sl, .int .u64 dh, .int .u64 dl, .int .i64 sp, .int .i64 dp], .int .i64 now, .int .u32 last]) (wanted_free rfl) ?_ (rcheck_w gq sa sb oa ob till p sh sl dh dl sp dp now last false bv HBV.out wq (blk_below Bgq_52.out hst)) ?_
            · clear hK; first | (go_simp; done) | (go_simp; rfl)
            · rintro e w' ⟨he, hbq⟩; exact ⟨_, he, hK _ _ hbq rfl⟩
          · intro listed vals a wq K hD hst hj haft hun hK
            obtain ⟨v89, h89, j89⟩ := hD.dep hj haft 6 89 rfl rfl
            replace j89 : v89 = (.bool bv) := j89
            subst j89
            obtain ⟨v96, h96, j96⟩ := hD.dep hj haft 13 96 rfl rfl
            replace j96 : v96 = (.bool bv) := j96
            subst j96
            clear hD hj haft hun
            have e89 := eval_of h89
            have e96 := eval_of h96
            refine step_now (v := .bool false) (w' := wq) (wanted_free rfl) ?_ (hK _ _ (Below.refl _ _) rfl)
            clear hK
            first | (go_simp; done) | (go_simp; rfl)
        intro vals wend hst hj
        have j0 : vals 0 = (.pointer (some ⟨gk, 0, none⟩)) := hj 0 (by decide)
        have j1 : vals 1 = (.pointer (some ⟨go, 1, none⟩)) := hj 1 (by decide)
        have j2 : vals 2 = (.agg #[.int .i64 p, .int .u64 sh, .int .u64 sl, .int .u64 dh, .int .u64 dl, .int .i64 sp, .int .i64 dp]) := hj 2 (by decide)
        have j3 : vals 3 = (.pointer (some ⟨go, 8, none⟩)) := hj 3 (by decide)
        have j4 : vals 4 = (.int .i64 now) := hj 4 (by decide)
        have j5 : vals 5 = (.int .u32 last) := hj 5 (by decide)
        have j6 : vals 6 = (.bool bv) := hj 6 (by decide)
        have j7 : vals 7 = (.pointer (some ⟨gq, 0, none⟩)) := hj 7 (by decide)
        have j8 : vals 8 = (.pointer (some ⟨go, 1, none⟩)) := hj 8 (by decide)
        have j9 : vals 9 = (.agg #[.int .i64 p, .int .u64 sh, .int .u64 sl, .int .u64 dh, .int .u64 dl, .int .i64 sp, .int .i64 dp]) := hj 9 (by decide)
        have j10 : vals 10 = (.pointer (some ⟨go, 8, none⟩)) := hj 10 (by decide)
        have j11 : vals 11 = (.int .i64 now) := hj 11 (by decide)
        have j12 : vals 12 = (.int .u32 last) := hj 12 (by decide)
        have j13 : vals 13 = (.bool bv) := hj 13 (by decide)
        have j14 : vals 14 = (.bool false) := hj 14 (by decide)
        replace hst : Below _ _ wend := hst
        clear hj
        rw [putAll_list]
        simp only [putL, Act.put, List.setIfInBounds_toArray, List.set_cons_zero, List.set_cons_succ, j0, j1, j2, j3, j4, j5, j6, j7, j8, j9, j10, j11, j12, j13, j14]
        clear j0 j1 j2 j3 j4 j5 j6 j7 j8 j9 j10 j11 j12 j13 j14
        have HB_53 := Aside0.mk (below_step HB_52.out hst)
        clear HB_52
        have Bgk_53 := Aside0.mk (blk_below Bgk_52.out hst)
        clear Bgk_52
        have Bgr_53 := Aside0.mk (blk_below Bgr_52.out hst)
        clear Bgr_52
        have Bgq_53 := Aside0.mk (blk_below Bgq_52.out hst)
        clear Bgq_52
        have Bgo_53 := Aside0.mk (blk_below Bgo_52.out hst)
        clear Bgo_52
        clear hst
        go_upto_region 26 with fail
        go_upto_region 26 with (fail)
        refine wp_region_rg (by kernel_rfl) (fun x y => Below x.heap.size x y) (fun (i : Nat) (v : Value) (w1 : World) => match i with | 0 => v = (.pointer (some ⟨gk, 0, none⟩)) | 1 => v = (.agg #[.int .u64 sa, .int .u64 sb]) | 2 => v = (.pointer (some ⟨gq, 0, none⟩)) | 3 => v = (.pointer (some ⟨gq, 0, none⟩)) | 4 => v = (.pointer (some ⟨gq, 0, none⟩)) | 5 => v = (.agg #[.int .u64 sa, .int .u64 sb]) | 6 => v = (.bool false) | _ => True) (by kernel_rfl) (by kernel_rfl) below_tr (Below.refl _ _).drew ?hJst6 (obl_list ?hObl6) ?hEnd6
        case hJst6 =>
          intro i v wx wy hi hs0 hs1 hJi
          match i, hi with
          | 0, _ => exact hJi
          | 1, _ => exact hJi
          | 2, _ => exact hJi
          | 3, _ => exact hJi
          | 4, _ => exact hJi
          | 5, _ => exact hJi
          | 6, _ => exact hJi
          | _ + 7, hi => exact absurd hi (by simp)
        case hObl6 =>
          refine ⟨?_, ?_, ?_, ?_, ?_, ?_, ?_,  trivial⟩
          · intro listed vals a wq K hD hst hj haft hun hK
            have h5 := hD.out 5 rfl rfl
            clear hD hj haft hun
            have e5 := eval_of h5
            refine step_now (v := .pointer (some ⟨gk, 0, none⟩)) (w' := wq) (wanted_free rfl) ?_ (hK _ _ (Below.refl _ _) rfl)
            clear hK
            first | (go_simp; done) | (go_simp; rfl)
          · intro listed vals a wq K hD hst hj haft hun hK
            obtain ⟨v98, h98, j98⟩ := hD.dep hj haft 0 98 rfl rfl
            replace j98 : v98 = (.pointer (some ⟨gk, 0, none⟩)) := j98
            subst j98
            replace hst : Below _ _ wq := hst
            clear hD hj haft hun
            have e98 := eval_of h98
            refine step_call (f := 27) (args := #[.pointer (some ⟨gk, 0, none⟩)]) (wanted_free rfl) ?_ (now_any gk gr 1 (by decide) sa sb #[.int .u64 sa, .int .u64 sb] rfl t0 wq (Keep.below ⟨Bgk_53.out, Bgr_53.out⟩ hst)) ?_
            · clear hK; first | (go_simp; done) | (go_simp; rfl)
            · rintro e w' ⟨he, hbq⟩; exact ⟨_, he, hK _ _ hbq rfl⟩
          · intro listed vals a wq K hD hst hj haft hun hK
            have h6 := hD.out 6 rfl rfl
            clear hD hj haft hun
            have e6 := eval_of h6
            refine step_now (v := .pointer (some ⟨gq, 0, none⟩)) (w' := wq) (wanted_free rfl) ?_ (hK _ _ (Below.refl _ _) rfl)
            clear hK
            first | (go_simp; done) | (go_simp; rfl)
          · intro listed vals a wq K hD hst hj haft hun hK
            obtain ⟨v100, h100, j100⟩ := hD.dep hj haft 2 100 rfl rfl
            replace j100 : v100 = (.pointer (some ⟨gq, 0, none⟩)) := j100
            subst j100
            clear hD hj haft hun
            have e100 := eval_of h100
            refine step_now (v := .pointer (some ⟨gq, 0, none⟩)) (w' := wq) (wanted_free rfl) ?_ (hK _ _ (Below.refl _ _) rfl)
            clear hK
            first | (go_simp; done) | (go_simp; rfl)
          · intro listed vals a wq K hD hst hj haft hun hK
            obtain ⟨v101, h101, j101⟩ := hD.dep hj haft 3 101 rfl rfl
            replace j101 : v101 = (.pointer (some ⟨gq, 0, none⟩)) := j101
            subst j101
            clear hD hj haft hun
            have e101 := eval_of h101
            refine step_now (v := .pointer (some ⟨gq, 0, none⟩)) (w' := wq) (wanted_free rfl) ?_ (hK _ _ (Below.refl _ _) rfl)
            clear hK
            first | (go_simp; done) | (go_simp; rfl)
          · intro listed vals a wq K hD hst hj haft hun hK
            obtain ⟨v102, h102, j102⟩ := hD.dep hj haft 4 102 rfl rfl
            replace j102 : v102 = (.pointer (some ⟨gq, 0, none⟩)) := j102
            subst j102
            replace hst : Below _ _ wq := hst
            clear hD hj haft hun
            have e102 := eval_of h102
            exact step_now (v := .agg #[.int .u64 sa, .int .u64 sb]) (w' := wq) (wanted_free rfl) (rg_loadmid rfl e102 (blk_range (blk_below Bgq_53.out hst) 0 [.int .u64 sa, .int .u64 sb] rfl) Try.underlying30 rfl (by kernel_rfl)) (hK _ _ (Below.refl _ _) rfl)
          · intro listed vals a wq K hD hst hj haft hun hK
            obtain ⟨v99, h99, j99⟩ := hD.dep hj haft 1 99 rfl rfl
            replace j99 : v99 = (.agg #[.int .u64 sa, .int .u64 sb]) := j99
            subst j99
            obtain ⟨v103, h103, j103⟩ := hD.dep hj haft 5 103 rfl rfl
            replace j103 : v103 = (.agg #[.int .u64 sa, .int .u64 sb]) := j103
            subst j103
            clear hD hj haft hun
            have e99 := eval_of h99
            have e103 := eval_of h103
            refine step_now (v := .bool false) (w' := wq) (wanted_free rfl) ?_ (hK _ _ (Below.refl _ _) rfl)
            clear hK
            first | (go_simp; done) | (go_simp; rfl)
        intro vals wend hst hj
        have j0 : vals 0 = (.pointer (some ⟨gk, 0, none⟩)) := hj 0 (by decide)
        have j1 : vals 1 = (.agg #[.int .u64 sa, .int .u64 sb]) := hj 1 (by decide)
        have j2 : vals 2 = (.pointer (some ⟨gq, 0, none⟩)) := hj 2 (by decide)
        have j3 : vals 3 = (.pointer (some ⟨gq, 0, none⟩)) := hj 3 (by decide)
        have j4 : vals 4 = (.pointer (some ⟨gq, 0, none⟩)) := hj 4 (by decide)
        have j5 : vals 5 = (.agg #[.int .u64 sa, .int .u64 sb]) := hj 5 (by decide)
        have j6 : vals 6 = (.bool false) := hj 6 (by decide)
        replace hst : Below _ _ wend := hst
        clear hj
        rw [putAll_list]
        simp only [putL, Act.put, List.setIfInBounds_toArray, List.set_cons_zero, List.set_cons_succ, j0, j1, j2, j3, j4, j5, j6]
        clear j0 j1 j2 j3 j4 j5 j6
        have HB_54 := Aside0.mk (below_step HB_53.out hst)
        clear HB_53
        have Bgk_54 := Aside0.mk (blk_below Bgk_53.out hst)
        clear Bgk_53
        have Bgr_54 := Aside0.mk (blk_below Bgr_53.out hst)
        clear Bgr_53
        have Bgq_54 := Aside0.mk (blk_below Bgq_53.out hst)
        clear Bgq_53
        have Bgo_54 := Aside0.mk (blk_below Bgo_53.out hst)
        clear Bgo_53
        clear hst
        go_wp2
        go_roundw
        case rel => exact ⟨k + 1, last, sa, sb, oa, ob, till, false, by have := HLT.out; omega, by go_num, rfl, ⟨⟨gr, t0, Ngrgq.out, .inl ⟨rfl, ⟨Bgk_54.out, Bgr_54.out⟩⟩⟩, Bgq_54.out⟩, HB_54⟩
        case measure => have := HLT.out; simp [intOf]; omega
      have hk_0 : (kd == 0) = false := beq_eq_false_iff_ne.2 h0
      have hk_1 : (kd == 1) = false := beq_eq_false_iff_ne.2 h1
      have hk_2 : (kd == 2) = false := beq_eq_false_iff_ne.2 h2
      have hk_3 : (kd == 3) = false := beq_eq_false_iff_ne.2 h3
      clear h0 h1 h2 h3
      go_upto_region 26 with fail
      clear hk_0 hk_1 hk_2 hk_3
      go_upto_region 26 with fail
      go_upto_region 26 with (fail)
      refine wp_region_rg (by kernel_rfl) (fun x y => Below x.heap.size x y) (fun (i : Nat) (v : Value) (w1 : World) => match i with | 0 => v = (.pointer (some ⟨gk, 0, none⟩)) | 1 => v = (.agg #[.int .u64 sa, .int .u64 sb]) | 2 => v = (.pointer (some ⟨gq, 0, none⟩)) | 3 => v = (.pointer (some ⟨gq, 0, none⟩)) | 4 => v = (.pointer (some ⟨gq, 0, none⟩)) | 5 => v = (.agg #[.int .u64 sa, .int .u64 sb]) | 6 => v = (.bool false) | _ => True) (by kernel_rfl) (by kernel_rfl) below_tr (Below.refl _ _).drew ?hJst7 (obl_list ?hObl7) ?hEnd7
      case hJst7 =>
        intro i v wx wy hi hs0 hs1 hJi
        match i, hi with
        | 0, _ => exact hJi
        | 1, _ => exact hJi
        | 2, _ => exact hJi
        | 3, _ => exact hJi
        | 4, _ => exact hJi
        | 5, _ => exact hJi
        | 6, _ => exact hJi
        | _ + 7, hi => exact absurd hi (by simp)
      case hObl7 =>
        refine ⟨?_, ?_, ?_, ?_, ?_, ?_, ?_,  trivial⟩
        · intro listed vals a wq K hD hst hj haft hun hK
          have h5 := hD.out 5 rfl rfl
          clear hD hj haft hun
          have e5 := eval_of h5
          refine step_now (v := .pointer (some ⟨gk, 0, none⟩)) (w' := wq) (wanted_free rfl) ?_ (hK _ _ (Below.refl _ _) rfl)
          clear hK
          first | (go_simp; done) | (go_simp; rfl)
        · intro listed vals a wq K hD hst hj haft hun hK
          obtain ⟨v98, h98, j98⟩ := hD.dep hj haft 0 98 rfl rfl
          replace j98 : v98 = (.pointer (some ⟨gk, 0, none⟩)) := j98
          subst j98
          replace hst : Below _ _ wq := hst
          clear hD hj haft hun
          have e98 := eval_of h98
          refine step_call (f := 27) (args := #[.pointer (some ⟨gk, 0, none⟩)]) (wanted_free rfl) ?_ (now_any gk gr 1 (by decide) sa sb #[.int .u64 sa, .int .u64 sb] rfl t0 wq (Keep.below ⟨Bgk_52.out, Bgr_52.out⟩ hst)) ?_
          · clear hK; first | (go_simp; done) | (go_simp; rfl)
          · rintro e w' ⟨he, hbq⟩; exact ⟨_, he, hK _ _ hbq rfl⟩
        · intro listed vals a wq K hD hst hj haft hun hK
          have h6 := hD.out 6 rfl rfl
          clear hD hj haft hun
          have e6 := eval_of h6
          refine step_now (v := .pointer (some ⟨gq, 0, none⟩)) (w' := wq) (wanted_free rfl) ?_ (hK _ _ (Below.refl _ _) rfl)
          clear hK
          first | (go_simp; done) | (go_simp; rfl)
        · intro listed vals a wq K hD hst hj haft hun hK
          obtain ⟨v100, h100, j100⟩ := hD.dep hj haft 2 100 rfl rfl
          replace j100 : v100 = (.pointer (some ⟨gq, 0, none⟩)) := j100
          subst j100
          clear hD hj haft hun
          have e100 := eval_of h100
          refine step_now (v := .pointer (some ⟨gq, 0, none⟩)) (w' := wq) (wanted_free rfl) ?_ (hK _ _ (Below.refl _ _) rfl)
          clear hK
          first | (go_simp; done) | (go_simp; rfl)
        · intro listed vals a wq K hD hst hj haft hun hK
          obtain ⟨v101, h101, j101⟩ := hD.dep hj haft 3 101 rfl rfl
          replace j101 : v101 = (.pointer (some ⟨gq, 0, none⟩)) := j101
          subst j101
          clear hD hj haft hun
          have e101 := eval_of h101
          refine step_now (v := .pointer (some ⟨gq, 0, none⟩)) (w' := wq) (wanted_free rfl) ?_ (hK _ _ (Below.refl _ _) rfl)
          clear hK
          first | (go_simp; done) | (go_simp; rfl)
        · intro listed vals a wq K hD hst hj haft hun hK
          obtain ⟨v102, h102, j102⟩ := hD.dep hj haft 4 102 rfl rfl
          replace j102 : v102 = (.pointer (some ⟨gq, 0, none⟩)) := j102
          subst j102
          replace hst : Below _ _ wq := hst
          clear hD hj haft hun
          have e102 := eval_of h102
          exact step_now (v := .agg #[.int .u64 sa, .int .u64 sb]) (w' := wq) (wanted_free rfl) (rg_loadmid rfl e102 (blk_range (blk_below Bgq_52.out hst) 0 [.int .u64 sa, .int .u64 sb] rfl) Try.underlying30 rfl (by kernel_rfl)) (hK _ _ (Below.refl _ _) rfl)
        · intro listed vals a wq K hD hst hj haft hun hK
          obtain ⟨v99, h99, j99⟩ := hD.dep hj haft 1 99 rfl rfl
          replace j99 : v99 = (.agg #[.int .u64 sa, .int .u64 sb]) := j99
          subst j99
          obtain ⟨v103, h103, j103⟩ := hD.dep hj haft 5 103 rfl rfl
          replace j103 : v103 = (.agg #[.int .u64 sa, .int .u64 sb]) := j103
          subst j103
          clear hD hj haft hun
          have e99 := eval_of h99
          have e103 := eval_of h103
          refine step_now (v := .bool false) (w' := wq) (wanted_free rfl) ?_ (hK _ _ (Below.refl _ _) rfl)
          clear hK
          first | (go_simp; done) | (go_simp; rfl)
      intro vals wend hst hj
      have j0 : vals 0 = (.pointer (some ⟨gk, 0, none⟩)) := hj 0 (by decide)
      have j1 : vals 1 = (.agg #[.int .u64 sa, .int .u64 sb]) := hj 1 (by decide)
      have j2 : vals 2 = (.pointer (some ⟨gq, 0, none⟩)) := hj 2 (by decide)
      have j3 : vals 3 = (.pointer (some ⟨gq, 0, none⟩)) := hj 3 (by decide)
      have j4 : vals 4 = (.pointer (some ⟨gq, 0, none⟩)) := hj 4 (by decide)
      have j5 : vals 5 = (.agg #[.int .u64 sa, .int .u64 sb]) := hj 5 (by decide)
      have j6 : vals 6 = (.bool false) := hj 6 (by decide)
      replace hst : Below _ _ wend := hst
      clear hj
      rw [putAll_list]
      simp only [putL, Act.put, List.setIfInBounds_toArray, List.set_cons_zero, List.set_cons_succ, j0, j1, j2, j3, j4, j5, j6]
      clear j0 j1 j2 j3 j4 j5 j6
      have HB_53 := Aside0.mk (below_step HB_52.out hst)
      clear HB_52
      have Bgk_53 := Aside0.mk (blk_below Bgk_52.out hst)
      clear Bgk_52
      have Bgr_53 := Aside0.mk (blk_below Bgr_52.out hst)
      clear Bgr_52
      have Bgq_53 := Aside0.mk (blk_below Bgq_52.out hst)
      clear Bgq_52
      have Bgo_53 := Aside0.mk (blk_below Bgo_52.out hst)
      clear Bgo_52
      clear hst
      go_wp2
      go_roundw
      case rel => exact ⟨k + 1, last, sa, sb, oa, ob, till, false, by have := HLT.out; omega, by go_num, rfl, ⟨⟨gr, t0, Ngrgq.out, .inl ⟨rfl, ⟨Bgk_53.out, Bgr_53.out⟩⟩⟩, Bgq_53.out⟩, HB_53⟩
      case measure => have := HLT.out; simp [intOf]; omega
    · have BK := Aside0.mk hkeep.1
      have BR := Aside0.mk hkeep.2
      clear hkeep
      go_upto_region 12 with (first | ((with_reducible refine gate_dst (N := 29) rfl ?_); refine loadany_event rfl _ _ rfl (ad.add (k * 12)) rfl [.int .i64 kd, .int .i64 p, .int .u64 sh, .int .u64 sl, .int .u64 dh, .int .u64 dl, .int .i64 sp, .int .i64 dp, .int .i64 now, .int .u32 nn, .int .u64 ta, .int .u64 tb] _ (HCE.out) Try.underlying65 rfl (by kernel_rfl) ?_) | ((with_reducible refine gate_dst (N := 9) rfl ?_); refine box_event ?hg (N := 9) ?hd (cs := #[.int .i64 0, .int .i64 0, .int .u64 0, .int .u64 0, .int .u64 0, .int .u64 0, .int .i64 0, .int .i64 0, .int .i64 0, .int .u32 0, .int .u64 0, .int .u64 0]) (t := 65) ?hr ?_; (case hd => rfl); (case hg => rfl); (case hr => first | (go_simp; done) | (go_simp; rfl)); intro go hgg wx51 hbox hb; have Ngkgo := Aside0.mk (show gk ≠ go by rw [hgg]; exact Nat.ne_of_lt (blk_lt BK.out)); have Ngrgo := Aside0.mk (show gr ≠ go by rw [hgg]; exact Nat.ne_of_lt (blk_lt BR.out)); have Ngqgo := Aside0.mk (show gq ≠ go by rw [hgg]; exact Nat.ne_of_lt (blk_lt BQ.out)); have Lgo := Aside0.mk (show w.heap.size ≤ go by rw [hgg]; exact below_size HB.out); have HB_51 := Aside0.mk (below_step HB.out hb); clear HB; have Bgk_51 := Aside0.mk (blk_below BK.out hb); clear BK; have Bgr_51 := Aside0.mk (blk_below BR.out hb); clear BR; have Bgq_51 := Aside0.mk (blk_below BQ.out hb); clear BQ; have Bgo_51 := Aside0.mk hbox; clear hbox hb hgg) | ((with_reducible refine gate_store (t := 65) (p := 9) rfl ?_); refine store_event rfl 65 _ _ rfl go _ rfl rfl _ _ Bgo_51.out (by kernel_rfl) rfl rfl ?_; intro wx52 hst hu; have HB_52 := Aside0.mk (below_upd HB_51.out hu (below_size HB_51.out) (fun k hk => by cases hk; exact Lgo.out)); clear HB_51; have Bgk_52 := Aside0.mk (Upd.blk hu Bgk_51.out (One.not Ngkgo.out)); clear Bgk_51; have Bgr_52 := Aside0.mk (Upd.blk hu Bgr_51.out (One.not Ngrgo.out)); clear Bgr_51; have Bgq_52 := Aside0.mk (Upd.blk hu Bgq_51.out (One.not Ngqgo.out)); clear Bgq_51; have Bgo_52 := Aside0.mk hst; clear hst hu Bgo_51))
      clear hlt
      go_upto_region 13 with (first | ((with_reducible refine gate_dst (N := 31) rfl ?_); refine load1_event rfl _ _ rfl go 0 rfl _ _ _ _ Bgo_52.out rfl Try.underlying3 rfl ?_))
      obtain ⟨kv, hkv⟩ : ∃ v : Int, ck sa sb p sh sl dh dl sp dp (now / 16) = v := ⟨_, rfl⟩
      have HKV := Aside0.mk hkv
      clear hkv
      by_cases h0 : kd = 0
      · have hkd : 0 = kd := h0.symm
        clear h0
        obtain rfl := hkd
        go_upto_region 14 with fail
        go_upto_region 15 with (first | ((with_reducible refine gate_dst (N := 36) rfl ?_); refine loadmid_event rfl _ _ rfl go 1 rfl [.int .i64 p, .int .u64 sh, .int .u64 sl, .int .u64 dh, .int .u64 dl, .int .i64 sp, .int .i64 dp] _ (blk_range Bgo_52.out 1 [.int .i64 p, .int .u64 sh, .int .u64 sl, .int .u64 dh, .int .u64 dl, .int .i64 sp, .int .i64 dp] rfl) Try.underlying29 rfl (by kernel_rfl) ?_) | ((with_reducible refine gate_dst (N := 38) rfl ?_); refine load1_event rfl _ _ rfl go 8 rfl _ _ _ _ Bgo_52.out rfl Try.underlying3 rfl ?_) | (go_at_call 23; refine (make_any gk gr 2 (by decide) sa sb #[.int .u64 sa, .int .u64 sb, .int .u64 oa, .int .u64 ob] rfl till p sh sl dh dl sp dp now kv HKV.out _ ⟨Bgk_52.out, Bgr_52.out⟩).mono ?_; rintro e wx53 ⟨rfl, hb⟩; have HB_53 := Aside0.mk (below_step HB_52.out hb); clear HB_52; have Bgk_53 := Aside0.mk (blk_below Bgk_52.out hb); clear Bgk_52; have Bgr_53 := Aside0.mk (blk_below Bgr_52.out hb); clear Bgr_52; have Bgq_53 := Aside0.mk (blk_below Bgq_52.out hb); clear Bgq_52; have Bgo_53 := Aside0.mk (blk_below Bgo_52.out hb); clear Bgo_52; clear hb))
        go_upto_region 26 with (first | ((with_reducible refine gate_dst (N := 43) rfl ?_); refine loadmid_event rfl _ _ rfl go 1 rfl [.int .i64 p, .int .u64 sh, .int .u64 sl, .int .u64 dh, .int .u64 dl, .int .i64 sp, .int .i64 dp] _ (blk_range Bgo_53.out 1 [.int .i64 p, .int .u64 sh, .int .u64 sl, .int .u64 dh, .int .u64 dl, .int .i64 sp, .int .i64 dp] rfl) Try.underlying29 rfl (by kernel_rfl) ?_) | ((with_reducible refine gate_dst (N := 45) rfl ?_); refine load1_event rfl _ _ rfl go 8 rfl _ _ _ _ Bgo_53.out rfl Try.underlying3 rfl ?_) | (go_at_call 24; refine (rmake_any gq sa sb oa ob till p sh sl dh dl sp dp now kv true HKV.out _ Bgq_53.out).mono ?_; rintro e wx54 ⟨rfl, hb⟩; have HB_54 := Aside0.mk (below_step HB_53.out hb); clear HB_53; have Bgk_54 := Aside0.mk (blk_below Bgk_53.out hb); clear Bgk_53; have Bgr_54 := Aside0.mk (blk_below Bgr_53.out hb); clear Bgr_53; have Bgq_54 := Aside0.mk (blk_below Bgq_53.out hb); clear Bgq_53; have Bgo_54 := Aside0.mk (blk_below Bgo_53.out hb); clear Bgo_53; clear hb))
        go_upto_region 26 with (fail)
        refine wp_region_rg (by kernel_rfl) (fun x y => Below x.heap.size x y) (fun (i : Nat) (v : Value) (w1 : World) => match i with | 0 => v = (.pointer (some ⟨gk, 0, none⟩)) | 1 => v = (.agg #[.int .u64 sa, .int .u64 sb]) | 2 => v = (.pointer (some ⟨gq, 0, none⟩)) | 3 => v = (.pointer (some ⟨gq, 0, none⟩)) | 4 => v = (.pointer (some ⟨gq, 0, none⟩)) | 5 => v = (.agg #[.int .u64 sa, .int .u64 sb]) | 6 => v = (.bool false) | _ => True) (by kernel_rfl) (by kernel_rfl) below_tr (Below.refl _ _).drew ?hJst8 (obl_list ?hObl8) ?hEnd8
        case hJst8 =>
          intro i v wx wy hi hs0 hs1 hJi
          match i, hi with
          | 0, _ => exact hJi
          | 1, _ => exact hJi
          | 2, _ => exact hJi
          | 3, _ => exact hJi
          | 4, _ => exact hJi
          | 5, _ => exact hJi
          | 6, _ => exact hJi
          | _ + 7, hi => exact absurd hi (by simp)
        case hObl8 =>
          refine ⟨?_, ?_, ?_, ?_, ?_, ?_, ?_,  trivial⟩
          · intro listed vals a wq K hD hst hj haft hun hK
            have h5 := hD.out 5 rfl rfl
            clear hD hj haft hun
            have e5 := eval_of h5
            refine step_now (v := .pointer (some ⟨gk, 0, none⟩)) (w' := wq) (wanted_free rfl) ?_ (hK _ _ (Below.refl _ _) rfl)
            clear hK
            first | (go_simp; done) | (go_simp; rfl)
          · intro listed vals a wq K hD hst hj haft hun hK
            obtain ⟨v98, h98, j98⟩ := hD.dep hj haft 0 98 rfl rfl
            replace j98 : v98 = (.pointer (some ⟨gk, 0, none⟩)) := j98
            subst j98
            replace hst : Below _ _ wq := hst
            clear hD hj haft hun
            have e98 := eval_of h98
            refine step_call (f := 27) (args := #[.pointer (some ⟨gk, 0, none⟩)]) (wanted_free rfl) ?_ (now_any gk gr 2 (by decide) sa sb #[.int .u64 sa, .int .u64 sb, .int .u64 oa, .int .u64 ob] rfl till wq (Keep.below ⟨Bgk_54.out, Bgr_54.out⟩ hst)) ?_
            · clear hK; first | (go_simp; done) | (go_simp; rfl)
            · rintro e w' ⟨he, hbq⟩; exact ⟨_, he, hK _ _ hbq rfl⟩
          · intro listed vals a wq K hD hst hj haft hun hK
            have h6 := hD.out 6 rfl rfl
            clear hD hj haft hun
            have e6 := eval_of h6
            refine step_now (v := .pointer (some ⟨gq, 0, none⟩)) (w' := wq) (wanted_free rfl) ?_ (hK _ _ (Below.refl _ _) rfl)
            clear hK
            first | (go_simp; done) | (go_simp; rfl)
          · intro listed vals a wq K hD hst hj haft hun hK
            obtain ⟨v100, h100, j100⟩ := hD.dep hj haft 2 100 rfl rfl
            replace j100 : v100 = (.pointer (some ⟨gq, 0, none⟩)) := j100
            subst j100
            clear hD hj haft hun
            have e100 := eval_of h100
            refine step_now (v := .pointer (some ⟨gq, 0, none⟩)) (w' := wq) (wanted_free rfl) ?_ (hK _ _ (Below.refl _ _) rfl)
            clear hK
            first | (go_simp; done) | (go_simp; rfl)
          · intro listed vals a wq K hD hst hj haft hun hK
            obtain ⟨v101, h101, j101⟩ := hD.dep hj haft 3 101 rfl rfl
            replace j101 : v101 = (.pointer (some ⟨gq, 0, none⟩)) := j101
            subst j101
            clear hD hj haft hun
            have e101 := eval_of h101
            refine step_now (v := .pointer (some ⟨gq, 0, none⟩)) (w' := wq) (wanted_free rfl) ?_ (hK _ _ (Below.refl _ _) rfl)
            clear hK
            first | (go_simp; done) | (go_simp; rfl)
          · intro listed vals a wq K hD hst hj haft hun hK
            obtain ⟨v102, h102, j102⟩ := hD.dep hj haft 4 102 rfl rfl
            replace j102 : v102 = (.pointer (some ⟨gq, 0, none⟩)) := j102
            subst j102
            replace hst : Below _ _ wq := hst
            clear hD hj haft hun
            have e102 := eval_of h102
            exact step_now (v := .agg #[.int .u64 sa, .int .u64 sb]) (w' := wq) (wanted_free rfl) (rg_loadmid rfl e102 (blk_range (blk_below Bgq_54.out hst) 0 [.int .u64 sa, .int .u64 sb] rfl) Try.underlying30 rfl (by kernel_rfl)) (hK _ _ (Below.refl _ _) rfl)
          · intro listed vals a wq K hD hst hj haft hun hK
            obtain ⟨v99, h99, j99⟩ := hD.dep hj haft 1 99 rfl rfl
            replace j99 : v99 = (.agg #[.int .u64 sa, .int .u64 sb]) := j99
            subst j99
            obtain ⟨v103, h103, j103⟩ := hD.dep hj haft 5 103 rfl rfl
            replace j103 : v103 = (.agg #[.int .u64 sa, .int .u64 sb]) := j103
            subst j103
            clear hD hj haft hun
            have e99 := eval_of h99
            have e103 := eval_of h103
            refine step_now (v := .bool false) (w' := wq) (wanted_free rfl) ?_ (hK _ _ (Below.refl _ _) rfl)
            clear hK
            first | (go_simp; done) | (go_simp; rfl)
        intro vals wend hst hj
        have j0 : vals 0 = (.pointer (some ⟨gk, 0, none⟩)) := hj 0 (by decide)
        have j1 : vals 1 = (.agg #[.int .u64 sa, .int .u64 sb]) := hj 1 (by decide)
        have j2 : vals 2 = (.pointer (some ⟨gq, 0, none⟩)) := hj 2 (by decide)
        have j3 : vals 3 = (.pointer (some ⟨gq, 0, none⟩)) := hj 3 (by decide)
        have j4 : vals 4 = (.pointer (some ⟨gq, 0, none⟩)) := hj 4 (by decide)
        have j5 : vals 5 = (.agg #[.int .u64 sa, .int .u64 sb]) := hj 5 (by decide)
        have j6 : vals 6 = (.bool false) := hj 6 (by decide)
        replace hst : Below _ _ wend := hst
        clear hj
        rw [putAll_list]
        simp only [putL, Act.put, List.setIfInBounds_toArray, List.set_cons_zero, List.set_cons_succ, j0, j1, j2, j3, j4, j5, j6]
        clear j0 j1 j2 j3 j4 j5 j6
        have HB_55 := Aside0.mk (below_step HB_54.out hst)
        clear HB_54
        have Bgk_55 := Aside0.mk (blk_below Bgk_54.out hst)
        clear Bgk_54
        have Bgr_55 := Aside0.mk (blk_below Bgr_54.out hst)
        clear Bgr_54
        have Bgq_55 := Aside0.mk (blk_below Bgq_54.out hst)
        clear Bgq_54
        have Bgo_55 := Aside0.mk (blk_below Bgo_54.out hst)
        clear Bgo_54
        clear hst
        go_wp2
        go_roundw
        case rel => exact ⟨k + 1, kv, sa, sb, oa, ob, till, true, by have := HLT.out; omega, by go_num, rfl, ⟨⟨gr, till, Ngrgq.out, .inr ⟨rfl, rfl, ⟨Bgk_55.out, Bgr_55.out⟩⟩⟩, Bgq_55.out⟩, HB_55⟩
        case measure => have := HLT.out; simp [intOf]; omega
      by_cases h1 : kd = 1
      · have hkd : 1 = kd := h1.symm
        clear h0 h1
        obtain rfl := hkd
        obtain ⟨bv, hbv⟩ : ∃ b : Bool, (((ck sa sb p sh sl dh dl sp dp (now / 16) == nn) || (ck sa sb p sh sl dh dl sp dp (IntKind.i64.wrap (now / 16 - 1)) == nn)) || ((true && decide (now / 16 ≤ till)) && ((ck oa ob p sh sl dh dl sp dp (now / 16) == nn) || (ck oa ob p sh sl dh dl sp dp (IntKind.i64.wrap (now / 16 - 1)) == nn)))) = b := ⟨_, rfl⟩
        have HBV := Aside0.mk hbv
        clear hbv
        go_upto_region 18 with fail
        go_upto_region 18 with (fail)
        refine wp_region_rg (by kernel_rfl) (fun x y => Below x.heap.size x y) (fun (i : Nat) (v : Value) (w1 : World) => match i with | 0 => v = (.pointer (some ⟨gk, 0, none⟩)) | 1 => v = (.pointer (some ⟨go, 1, none⟩)) | 2 => v = (.agg #[.int .i64 p, .int .u64 sh, .int .u64 sl, .int .u64 dh, .int .u64 dl, .int .i64 sp, .int .i64 dp]) | 3 => v = (.pointer (some ⟨go, 8, none⟩)) | 4 => v = (.int .i64 now) | 5 => v = (.pointer (some ⟨go, 9, none⟩)) | 6 => v = (.int .u32 nn) | 7 => v = (.bool bv) | 8 => v = (.pointer (some ⟨gq, 0, none⟩)) | 9 => v = (.pointer (some ⟨go, 1, none⟩)) | 10 => v = (.agg #[.int .i64 p, .int .u64 sh, .int .u64 sl, .int .u64 dh, .int .u64 dl, .int .i64 sp, .int .i64 dp]) | 11 => v = (.pointer (some ⟨go, 8, none⟩)) | 12 => v = (.int .i64 now) | 13 => v = (.pointer (some ⟨go, 9, none⟩)) | 14 => v = (.int .u32 nn) | 15 => v = (.bool bv) | 16 => v = (.bool false) | _ => True) (by kernel_rfl) (by kernel_rfl) below_tr (Below.refl _ _).drew ?hJst9 (obl_list ?hObl9) ?hEnd9
        case hJst9 =>
          intro i v wx wy hi hs0 hs1 hJi
          match i, hi with
          | 0, _ => exact hJi
          | 1, _ => exact hJi
          | 2, _ => exact hJi
          | 3, _ => exact hJi
          | 4, _ => exact hJi
          | 5, _ => exact hJi
          | 6, _ => exact hJi
          | 7, _ => exact hJi
          | 8, _ => exact hJi
          | 9, _ => exact hJi
          | 10, _ => exact hJi
          | 11, _ => exact hJi
          | 12, _ => exact hJi
          | 13, _ => exact hJi
          | 14, _ => exact hJi
          | 15, _ => exact hJi
          | 16, _ => exact hJi
          | _ + 17, hi => exact absurd hi (by simp)
        case hObl9 =>
          refine ⟨?_, ?_, ?_, ?_, ?_, ?_, ?_, ?_, ?_, ?_, ?_, ?_, ?_, ?_, ?_, ?_, ?_,  trivial⟩
          · intro listed vals a wq K hD hst hj haft hun hK
            have h5 := hD.out 5 rfl rfl
            clear hD hj haft hun
            have e5 := eval_of h5
            refine step_now (v := .pointer (some ⟨gk, 0, none⟩)) (w' := wq) (wanted_free rfl) ?_ (hK _ _ (Below.refl _ _) rfl)
            clear hK
            first | (go_simp; done) | (go_simp; rfl)
          · intro listed vals a wq K hD hst hj haft hun hK
            have h9 := hD.out 9 rfl rfl
            clear hD hj haft hun
            have e9 := eval_of h9
            refine step_now (v := .pointer (some ⟨go, 1, none⟩)) (w' := wq) (wanted_free rfl) ?_ (hK _ _ (Below.refl _ _) rfl)
            clear hK
            first | (go_simp; done) | (go_simp; rfl)
          · intro listed vals a wq K hD hst hj haft hun hK
            obtain ⟨v51, h51, j51⟩ := hD.dep hj haft 1 51 rfl rfl
            replace j51 : v51 = (.pointer (some ⟨go, 1, none⟩)) := j51
            subst j51
            replace hst : Below _ _ wq := hst
            clear hD hj haft hun
            have e51 := eval_of h51
            exact step_now (v := .agg #[.int .i64 p, .int .u64 sh, .int .u64 sl, .int .u64 dh, .int .u64 dl, .int .i64 sp, .int .i64 dp]) (w' := wq) (wanted_free rfl) (rg_loadmid rfl e51 (blk_range (blk_below Bgo_52.out hst) 1 [.int .i64 p, .int .u64 sh, .int .u64 sl, .int .u64 dh, .int .u64 dl, .int .i64 sp, .int .i64 dp] rfl) Try.underlying29 rfl (by kernel_rfl)) (hK _ _ (Below.refl _ _) rfl)
          · intro listed vals a wq K hD hst hj haft hun hK
            have h9 := hD.out 9 rfl rfl
            clear hD hj haft hun
            have e9 := eval_of h9
            refine step_now (v := .pointer (some ⟨go, 8, none⟩)) (w' := wq) (wanted_free rfl) ?_ (hK _ _ (Below.refl _ _) rfl)
            clear hK
            first | (go_simp; done) | (go_simp; rfl)
          · intro listed vals a wq K hD hst hj haft hun hK
            obtain ⟨v53, h53, j53⟩ := hD.dep hj haft 3 53 rfl rfl
            replace j53 : v53 = (.pointer (some ⟨go, 8, none⟩)) := j53
            subst j53
            replace hst : Below _ _ wq := hst
            clear hD hj haft hun
            have e53 := eval_of h53
            exact step_now (v := .int .i64 now) (w' := wq) (wanted_free rfl) (rg_load rfl e53 (blk_below Bgo_52.out hst) rfl Try.underlying3 rfl) (hK _ _ (Below.refl _ _) rfl)
          · intro listed vals a wq K hD hst hj haft hun hK
            have h9 := hD.out 9 rfl rfl
            clear hD hj haft hun
            have e9 := eval_of h9
            refine step_now (v := .pointer (some ⟨go, 9, none⟩)) (w' := wq) (wanted_free rfl) ?_ (hK _ _ (Below.refl _ _) rfl)
            clear hK
            first | (go_simp; done) | (go_simp; rfl)
          · intro listed vals a wq K hD hst hj haft hun hK
            obtain ⟨v55, h55, j55⟩ := hD.dep hj haft 5 55 rfl rfl
            replace j55 : v55 = (.pointer (some ⟨go, 9, none⟩)) := j55
            subst j55
            replace hst : Below _ _ wq := hst
            clear hD hj haft hun
            have e55 := eval_of h55
            exact step_now (v := .int .u32 nn) (w' := wq) (wanted_free rfl) (rg_load rfl e55 (blk_below Bgo_52.out hst) rfl Try.underlying33 rfl) (hK _ _ (Below.refl _ _) rfl)
          · intro listed vals a wq K hD hst hj haft hun hK
            obtain ⟨v50, h50, j50⟩ := hD.dep hj haft 0 50 rfl rfl
            replace j50 : v50 = (.pointer (some ⟨gk, 0, none⟩)) := j50
            subst j50
            obtain ⟨v52, h52, j52⟩ := hD.dep hj haft 2 52 rfl rfl
            replace j52 : v52 = (.agg #[.int .i64 p, .int .u64 sh, .int .u64 sl, .int .u64 dh, .int .u64 dl, .int .i64 sp, .int .i64 dp]) := j52
            subst j52
            obtain ⟨v54, h54, j54⟩ := hD.dep hj haft 4 54 rfl rfl
            replace j54 : v54 = (.int .i64 now) := j54
            subst j54
            obtain ⟨v56, h56, j56⟩ := hD.dep hj haft 6 56 rfl rfl
            replace j56 : v56 = (.int .u32 nn) := j56
            subst j56
            replace hst : Below _ _ wq := hst
            clear hD hj haft hun
            have e50 := eval_of h50
            have e52 := eval_of h52
            have e54 := eval_of h54
            have e56 := eval_of h56
            refine step_call (f := 22) (args := #[.pointer (some ⟨gk, 0, none⟩), .agg #[.int .i64 p, .int .u64 sh, .int .u64 sl, .int .u64 dh, .int .u64 dl, .int .i64 sp, .int .i64 dp], .int .i64 now, .int .u32 nn]) (wanted_free rfl) ?_ (check2_w gk gr sa sb oa ob till p sh sl dh dl sp dp now nn bv (by rw [← HBV.out, le_not, Bool.true_and]) wq (Keep.below ⟨Bgk_52.out, Bgr_52.out⟩ hst)) ?_
            · clear hK; first | (go_simp; done) | (go_simp; rfl)
            · rintro e w' ⟨he, hbq⟩; exact ⟨_, he, hK _ _ hbq rfl⟩
          · intro listed vals a wq K hD hst hj haft hun hK
            have h6 := hD.out 6 rfl rfl
            clear hD hj haft hun
            have e6 := eval_of h6
            refine step_now (v := .pointer (some ⟨gq, 0, none⟩)) (w' := wq) (wanted_free rfl) ?_ (hK _ _ (Below.refl _ _) rfl)
            clear hK
            first | (go_simp; done) | (go_simp; rfl)
          · intro listed vals a wq K hD hst hj haft hun hK
            have h9 := hD.out 9 rfl rfl
            clear hD hj haft hun
            have e9 := eval_of h9
            refine step_now (v := .pointer (some ⟨go, 1, none⟩)) (w' := wq) (wanted_free rfl) ?_ (hK _ _ (Below.refl _ _) rfl)
            clear hK
            first | (go_simp; done) | (go_simp; rfl)
          · intro listed vals a wq K hD hst hj haft hun hK
            obtain ⟨v59, h59, j59⟩ := hD.dep hj haft 9 59 rfl rfl
            replace j59 : v59 = (.pointer (some ⟨go, 1, none⟩)) := j59
            subst j59
            replace hst : Below _ _ wq := hst
            clear hD hj haft hun
            have e59 := eval_of h59
            exact step_now (v := .agg #[.int .i64 p, .int .u64 sh, .int .u64 sl, .int .u64 dh, .int .u64 dl, .int .i64 sp, .int .i64 dp]) (w' := wq) (wanted_free rfl) (rg_loadmid rfl e59 (blk_range (blk_below Bgo_52.out hst) 1 [.int .i64 p, .int .u64 sh, .int .u64 sl, .int .u64 dh, .int .u64 dl, .int .i64 sp, .int .i64 dp] rfl) Try.underlying29 rfl (by kernel_rfl)) (hK _ _ (Below.refl _ _) rfl)
          · intro listed vals a wq K hD hst hj haft hun hK
            have h9 := hD.out 9 rfl rfl
            clear hD hj haft hun
            have e9 := eval_of h9
            refine step_now (v := .pointer (some ⟨go, 8, none⟩)) (w' := wq) (wanted_free rfl) ?_ (hK _ _ (Below.refl _ _) rfl)
            clear hK
            first | (go_simp; done) | (go_simp; rfl)
          · intro listed vals a wq K hD hst hj haft hun hK
            obtain ⟨v61, h61, j61⟩ := hD.dep hj haft 11 61 rfl rfl
            replace j61 : v61 = (.pointer (some ⟨go, 8, none⟩)) := j61
            subst j61
            replace hst : Below _ _ wq := hst
            clear hD hj haft hun
            have e61 := eval_of h61
            exact step_now (v := .int .i64 now) (w' := wq) (wanted_free rfl) (rg_load rfl e61 (blk_below Bgo_52.out hst) rfl Try.underlying3 rfl) (hK _ _ (Below.refl _ _) rfl)
          · intro listed vals a wq K hD hst hj haft hun hK
            have h9 := hD.out 9 rfl rfl
            clear hD hj haft hun
            have e9 := eval_of h9
            refine step_now (v := .pointer (some ⟨go, 9, none⟩)) (w' := wq) (wanted_free rfl) ?_ (hK _ _ (Below.refl _ _) rfl)
            clear hK
            first | (go_simp; done) | (go_simp; rfl)
          · intro listed vals a wq K hD hst hj haft hun hK
            obtain ⟨v63, h63, j63⟩ := hD.dep hj haft 13 63 rfl rfl
            replace j63 : v63 = (.pointer (some ⟨go, 9, none⟩)) := j63
            subst j63
            replace hst : Below _ _ wq := hst
            clear hD hj haft hun
            have e63 := eval_of h63
            exact step_now (v := .int .u32 nn) (w' := wq) (wanted_free rfl) (rg_load rfl e63 (blk_below Bgo_52.out hst) rfl Try.underlying33 rfl) (hK _ _ (Below.refl _ _) rfl)
          · intro listed vals a wq K hD hst hj haft hun hK
            obtain ⟨v58, h58, j58⟩ := hD.dep hj haft 8 58 rfl rfl
            replace j58 : v58 = (.pointer (some ⟨gq, 0, none⟩)) := j58
            subst j58
            obtain ⟨v60, h60, j60⟩ := hD.dep hj haft 10 60 rfl rfl
            replace j60 : v60 = (.agg #[.int .i64 p, .int .u64 sh, .int .u64 sl, .int .u64 dh, .int .u64 dl, .int .i64 sp, .int .i64 dp]) := j60
            subst j60
            obtain ⟨v62, h62, j62⟩ := hD.dep hj haft 12 62 rfl rfl
            replace j62 : v62 = (.int .i64 now) := j62
            subst j62
            obtain ⟨v64, h64, j64⟩ := hD.dep hj haft 14 64 rfl rfl
            replace j64 : v64 = (.int .u32 nn) := j64
            subst j64
            replace hst : Below _ _ wq := hst
            clear hD hj haft hun
            have e58 := eval_of h58
            have e60 := eval_of h60
            have e62 := eval_of h62
            have e64 := eval_of h64
            refine step_call (f := 25) (args := #[.pointer (some ⟨gq, 0, none⟩), .agg #[.int .i64 p, .int .u64 sh, .int .u64 sl, .int .u64 dh, .int .u64 dl, .int .i64 sp, .int .i64 dp], .int .i64 now, .int .u32 nn]) (wanted_free rfl) ?_ (rcheck_w gq sa sb oa ob till p sh sl dh dl sp dp now nn true bv HBV.out wq (blk_below Bgq_52.out hst)) ?_
            · clear hK; first | (go_simp; done) | (go_simp; rfl)
            · rintro e w' ⟨he, hbq⟩; exact ⟨_, he, hK _ _ hbq rfl⟩
          · intro listed vals a wq K hD hst hj haft hun hK
            obtain ⟨v57, h57, j57⟩ := hD.dep hj haft 7 57 rfl rfl
            replace j57 : v57 = (.bool bv) := j57
            subst j57
            obtain ⟨v65, h65, j65⟩ := hD.dep hj haft 15 65 rfl rfl
            replace j65 : v65 = (.bool bv) := j65
            subst j65
            clear hD hj haft hun
            have e57 := eval_of h57
            have e65 := eval_of h65
            refine step_now (v := .bool false) (w' := wq) (wanted_free rfl) ?_ (hK _ _ (Below.refl _ _) rfl)
            clear hK
            first | (go_simp; done) | (go_simp; rfl)
        intro vals wend hst hj
        have j0 : vals 0 = (.pointer (some ⟨gk, 0, none⟩)) := hj 0 (by decide)
        have j1 : vals 1 = (.pointer (some ⟨go, 1, none⟩)) := hj 1 (by decide)
        have j2 : vals 2 = (.agg #[.int .i64 p, .int .u64 sh, .int .u64 sl, .int .u64 dh, .int .u64 dl, .int .i64 sp, .int .i64 dp]) := hj 2 (by decide)
        have j3 : vals 3 = (.pointer (some ⟨go, 8, none⟩)) := hj 3 (by decide)
        have j4 : vals 4 = (.int .i64 now) := hj 4 (by decide)
        have j5 : vals 5 = (.pointer (some ⟨go, 9, none⟩)) := hj 5 (by decide)
        have j6 : vals 6 = (.int .u32 nn) := hj 6 (by decide)
        have j7 : vals 7 = (.bool bv) := hj 7 (by decide)
        have j8 : vals 8 = (.pointer (some ⟨gq, 0, none⟩)) := hj 8 (by decide)
        have j9 : vals 9 = (.pointer (some ⟨go, 1, none⟩)) := hj 9 (by decide)
        have j10 : vals 10 = (.agg #[.int .i64 p, .int .u64 sh, .int .u64 sl, .int .u64 dh, .int .u64 dl, .int .i64 sp, .int .i64 dp]) := hj 10 (by decide)
        have j11 : vals 11 = (.pointer (some ⟨go, 8, none⟩)) := hj 11 (by decide)
        have j12 : vals 12 = (.int .i64 now) := hj 12 (by decide)
        have j13 : vals 13 = (.pointer (some ⟨go, 9, none⟩)) := hj 13 (by decide)
        have j14 : vals 14 = (.int .u32 nn) := hj 14 (by decide)
        have j15 : vals 15 = (.bool bv) := hj 15 (by decide)
        have j16 : vals 16 = (.bool false) := hj 16 (by decide)
        replace hst : Below _ _ wend := hst
        clear hj
        rw [putAll_list]
        simp only [putL, Act.put, List.setIfInBounds_toArray, List.set_cons_zero, List.set_cons_succ, j0, j1, j2, j3, j4, j5, j6, j7, j8, j9, j10, j11, j12, j13, j14, j15, j16]
        clear j0 j1 j2 j3 j4 j5 j6 j7 j8 j9 j10 j11 j12 j13 j14 j15 j16
        have HB_53 := Aside0.mk (below_step HB_52.out hst)
        clear HB_52
        have Bgk_53 := Aside0.mk (blk_below Bgk_52.out hst)
        clear Bgk_52
        have Bgr_53 := Aside0.mk (blk_below Bgr_52.out hst)
        clear Bgr_52
        have Bgq_53 := Aside0.mk (blk_below Bgq_52.out hst)
        clear Bgq_52
        have Bgo_53 := Aside0.mk (blk_below Bgo_52.out hst)
        clear Bgo_52
        clear hst
        go_upto_region 26 with fail
        go_upto_region 26 with (fail)
        refine wp_region_rg (by kernel_rfl) (fun x y => Below x.heap.size x y) (fun (i : Nat) (v : Value) (w1 : World) => match i with | 0 => v = (.pointer (some ⟨gk, 0, none⟩)) | 1 => v = (.agg #[.int .u64 sa, .int .u64 sb]) | 2 => v = (.pointer (some ⟨gq, 0, none⟩)) | 3 => v = (.pointer (some ⟨gq, 0, none⟩)) | 4 => v = (.pointer (some ⟨gq, 0, none⟩)) | 5 => v = (.agg #[.int .u64 sa, .int .u64 sb]) | 6 => v = (.bool false) | _ => True) (by kernel_rfl) (by kernel_rfl) below_tr (Below.refl _ _).drew ?hJst10 (obl_list ?hObl10) ?hEnd10
        case hJst10 =>
          intro i v wx wy hi hs0 hs1 hJi
          match i, hi with
          | 0, _ => exact hJi
          | 1, _ => exact hJi
          | 2, _ => exact hJi
          | 3, _ => exact hJi
          | 4, _ => exact hJi
          | 5, _ => exact hJi
          | 6, _ => exact hJi
          | _ + 7, hi => exact absurd hi (by simp)
        case hObl10 =>
          refine ⟨?_, ?_, ?_, ?_, ?_, ?_, ?_,  trivial⟩
          · intro listed vals a wq K hD hst hj haft hun hK
            have h5 := hD.out 5 rfl rfl
            clear hD hj haft hun
            have e5 := eval_of h5
            refine step_now (v := .pointer (some ⟨gk, 0, none⟩)) (w' := wq) (wanted_free rfl) ?_ (hK _ _ (Below.refl _ _) rfl)
            clear hK
            first | (go_simp; done) | (go_simp; rfl)
          · intro listed vals a wq K hD hst hj haft hun hK
            obtain ⟨v98, h98, j98⟩ := hD.dep hj haft 0 98 rfl rfl
            replace j98 : v98 = (.pointer (some ⟨gk, 0, none⟩)) := j98
            subst j98
            replace hst : Below _ _ wq := hst
            clear hD hj haft hun
            have e98 := eval_of h98
            refine step_call (f := 27) (args := #[.pointer (some ⟨gk, 0, none⟩)]) (wanted_free rfl) ?_ (now_any gk gr 2 (by decide) sa sb #[.int .u64 sa, .int .u64 sb, .int .u64 oa, .int .u64 ob] rfl till wq (Keep.below ⟨Bgk_53.out, Bgr_53.out⟩ hst)) ?_
            · clear hK; first | (go_simp; done) | (go_simp; rfl)
            · rintro e w' ⟨he, hbq⟩; exact ⟨_, he, hK _ _ hbq rfl⟩
          · intro listed vals a wq K hD hst hj haft hun hK
            have h6 := hD.out 6 rfl rfl
            clear hD hj haft hun
            have e6 := eval_of h6
            refine step_now (v := .pointer (some ⟨gq, 0, none⟩)) (w' := wq) (wanted_free rfl) ?_ (hK _ _ (Below.refl _ _) rfl)
            clear hK
            first | (go_simp; done) | (go_simp; rfl)
          · intro listed vals a wq K hD hst hj haft hun hK
            obtain ⟨v100, h100, j100⟩ := hD.dep hj haft 2 100 rfl rfl
            replace j100 : v100 = (.pointer (some ⟨gq, 0, none⟩)) := j100
            subst j100
            clear hD hj haft hun
            have e100 := eval_of h100
            refine step_now (v := .pointer (some ⟨gq, 0, none⟩)) (w' := wq) (wanted_free rfl) ?_ (hK _ _ (Below.refl _ _) rfl)
            clear hK
            first | (go_simp; done) | (go_simp; rfl)
          · intro listed vals a wq K hD hst hj haft hun hK
            obtain ⟨v101, h101, j101⟩ := hD.dep hj haft 3 101 rfl rfl
            replace j101 : v101 = (.pointer (some ⟨gq, 0, none⟩)) := j101
            subst j101
            clear hD hj haft hun
            have e101 := eval_of h101
            refine step_now (v := .pointer (some ⟨gq, 0, none⟩)) (w' := wq) (wanted_free rfl) ?_ (hK _ _ (Below.refl _ _) rfl)
            clear hK
            first | (go_simp; done) | (go_simp; rfl)
          · intro listed vals a wq K hD hst hj haft hun hK
            obtain ⟨v102, h102, j102⟩ := hD.dep hj haft 4 102 rfl rfl
            replace j102 : v102 = (.pointer (some ⟨gq, 0, none⟩)) := j102
            subst j102
            replace hst : Below _ _ wq := hst
            clear hD hj haft hun
            have e102 := eval_of h102
            exact step_now (v := .agg #[.int .u64 sa, .int .u64 sb]) (w' := wq) (wanted_free rfl) (rg_loadmid rfl e102 (blk_range (blk_below Bgq_53.out hst) 0 [.int .u64 sa, .int .u64 sb] rfl) Try.underlying30 rfl (by kernel_rfl)) (hK _ _ (Below.refl _ _) rfl)
          · intro listed vals a wq K hD hst hj haft hun hK
            obtain ⟨v99, h99, j99⟩ := hD.dep hj haft 1 99 rfl rfl
            replace j99 : v99 = (.agg #[.int .u64 sa, .int .u64 sb]) := j99
            subst j99
            obtain ⟨v103, h103, j103⟩ := hD.dep hj haft 5 103 rfl rfl
            replace j103 : v103 = (.agg #[.int .u64 sa, .int .u64 sb]) := j103
            subst j103
            clear hD hj haft hun
            have e99 := eval_of h99
            have e103 := eval_of h103
            refine step_now (v := .bool false) (w' := wq) (wanted_free rfl) ?_ (hK _ _ (Below.refl _ _) rfl)
            clear hK
            first | (go_simp; done) | (go_simp; rfl)
        intro vals wend hst hj
        have j0 : vals 0 = (.pointer (some ⟨gk, 0, none⟩)) := hj 0 (by decide)
        have j1 : vals 1 = (.agg #[.int .u64 sa, .int .u64 sb]) := hj 1 (by decide)
        have j2 : vals 2 = (.pointer (some ⟨gq, 0, none⟩)) := hj 2 (by decide)
        have j3 : vals 3 = (.pointer (some ⟨gq, 0, none⟩)) := hj 3 (by decide)
        have j4 : vals 4 = (.pointer (some ⟨gq, 0, none⟩)) := hj 4 (by decide)
        have j5 : vals 5 = (.agg #[.int .u64 sa, .int .u64 sb]) := hj 5 (by decide)
        have j6 : vals 6 = (.bool false) := hj 6 (by decide)
        replace hst : Below _ _ wend := hst
        clear hj
        rw [putAll_list]
        simp only [putL, Act.put, List.setIfInBounds_toArray, List.set_cons_zero, List.set_cons_succ, j0, j1, j2, j3, j4, j5, j6]
        clear j0 j1 j2 j3 j4 j5 j6
        have HB_54 := Aside0.mk (below_step HB_53.out hst)
        clear HB_53
        have Bgk_54 := Aside0.mk (blk_below Bgk_53.out hst)
        clear Bgk_53
        have Bgr_54 := Aside0.mk (blk_below Bgr_53.out hst)
        clear Bgr_53
        have Bgq_54 := Aside0.mk (blk_below Bgq_53.out hst)
        clear Bgq_53
        have Bgo_54 := Aside0.mk (blk_below Bgo_53.out hst)
        clear Bgo_53
        clear hst
        go_wp2
        go_roundw
        case rel => exact ⟨k + 1, last, sa, sb, oa, ob, till, true, by have := HLT.out; omega, by go_num, rfl, ⟨⟨gr, till, Ngrgq.out, .inr ⟨rfl, rfl, ⟨Bgk_54.out, Bgr_54.out⟩⟩⟩, Bgq_54.out⟩, HB_54⟩
        case measure => have := HLT.out; simp [intOf]; omega
      by_cases h2 : kd = 2
      · have hkd : 2 = kd := h2.symm
        clear h0 h1 h2
        obtain rfl := hkd
        obtain ⟨ntl, hntl⟩ : ∃ v : Int, IntKind.i64.wrap (now / 16 + 1) = v := ⟨_, rfl⟩
        have HNT := Aside0.mk hntl
        clear hntl
        go_upto_region 21 with fail
        go_upto_region 22 with (first | ((with_reducible refine gate_dst (N := 71) rfl ?_); refine loadmid_event rfl _ _ rfl go 10 rfl [.int .u64 ta, .int .u64 tb] _ (blk_range Bgo_52.out 10 [.int .u64 ta, .int .u64 tb] rfl) Try.underlying24 rfl (by kernel_rfl) ?_) | ((with_reducible refine gate_dst (N := 73) rfl ?_); refine load1_event rfl _ _ rfl go 8 rfl _ _ _ _ Bgo_52.out rfl Try.underlying3 rfl ?_) | (go_at_call 21; refine (rotate_any gk gr 2 (by decide) sa sb ta tb #[.int .u64 sa, .int .u64 sb, .int .u64 oa, .int .u64 ob] rfl till now ntl HNT.out _ ⟨Bgk_52.out, Bgr_52.out⟩).mono ?_; rintro e wy1 ⟨rfl, ⟨gr2, hk2⟩, hu⟩; have Bgq_y := Aside0.mk (Upd.blk hu Bgq_52.out (One.not (Ne.symm Ngkgq.out))); have Bgo_y := Aside0.mk (Upd.blk hu Bgo_52.out (One.not (Ne.symm Ngkgo.out))); have Bgk_y := Aside0.mk hk2.1; have Bgr2_y := Aside0.mk hk2.2; have HB_y := Aside0.mk (below_upd HB_52.out hu (below_size HB_52.out) (fun k hk => by cases hk; exact Lgk.out)); clear hk2 hu Bgk_52 Bgr_52 Bgq_52 Bgo_52 HB_52))
        have Ngr2gq := Aside0.mk (show gr2 ≠ gq by intro h; have h1 := Bgr2_y.out; rw [h, Bgq_y.out] at h1; simp at h1)
        go_upto_region 26 with (first | ((with_reducible refine gate_dst (N := 77) rfl ?_); refine loadmid_event rfl _ _ rfl go 10 rfl [.int .u64 ta, .int .u64 tb] _ (blk_range Bgo_y.out 10 [.int .u64 ta, .int .u64 tb] rfl) Try.underlying24 rfl (by kernel_rfl) ?_) | ((with_reducible refine gate_dst (N := 79) rfl ?_); refine load1_event rfl _ _ rfl go 8 rfl _ _ _ _ Bgo_y.out rfl Try.underlying3 rfl ?_) | (go_at_call 26; refine (rrotate_any gq sa sb oa ob till ta tb now ntl true HNT.out _ Bgq_y.out).mono ?_; rintro e wy2 ⟨rfl, hq2, hu⟩; have Bgk_z := Aside0.mk (Upd.blk hu Bgk_y.out (One.not Ngkgq.out)); have Bgr2_z := Aside0.mk (Upd.blk hu Bgr2_y.out (One.not Ngr2gq.out)); have Bgq_z := Aside0.mk hq2; have HB_z := Aside0.mk (below_upd HB_y.out hu (below_size HB_y.out) (fun k hk => by cases hk; exact Lgq.out)); clear hq2 hu Bgk_y Bgr2_y Bgq_y Bgo_y HB_y))
        go_upto_region 26 with fail
        go_upto_region 26 with (fail)
        refine wp_region_rg (by kernel_rfl) (fun x y => Below x.heap.size x y) (fun (i : Nat) (v : Value) (w1 : World) => match i with | 0 => v = (.pointer (some ⟨gk, 0, none⟩)) | 1 => v = (.agg #[.int .u64 ta, .int .u64 tb]) | 2 => v = (.pointer (some ⟨gq, 0, none⟩)) | 3 => v = (.pointer (some ⟨gq, 0, none⟩)) | 4 => v = (.pointer (some ⟨gq, 0, none⟩)) | 5 => v = (.agg #[.int .u64 ta, .int .u64 tb]) | 6 => v = (.bool false) | _ => True) (by kernel_rfl) (by kernel_rfl) below_tr (Below.refl _ _).drew ?hJst11 (obl_list ?hObl11) ?hEnd11
        case hJst11 =>
          intro i v wx wy hi hs0 hs1 hJi
          match i, hi with
          | 0, _ => exact hJi
          | 1, _ => exact hJi
          | 2, _ => exact hJi
          | 3, _ => exact hJi
          | 4, _ => exact hJi
          | 5, _ => exact hJi
          | 6, _ => exact hJi
          | _ + 7, hi => exact absurd hi (by simp)
        case hObl11 =>
          refine ⟨?_, ?_, ?_, ?_, ?_, ?_, ?_,  trivial⟩
          · intro listed vals a wq K hD hst hj haft hun hK
            have h5 := hD.out 5 rfl rfl
            clear hD hj haft hun
            have e5 := eval_of h5
            refine step_now (v := .pointer (some ⟨gk, 0, none⟩)) (w' := wq) (wanted_free rfl) ?_ (hK _ _ (Below.refl _ _) rfl)
            clear hK
            first | (go_simp; done) | (go_simp; rfl)
          · intro listed vals a wq K hD hst hj haft hun hK
            obtain ⟨v98, h98, j98⟩ := hD.dep hj haft 0 98 rfl rfl
            replace j98 : v98 = (.pointer (some ⟨gk, 0, none⟩)) := j98
            subst j98
            replace hst : Below _ _ wq := hst
            clear hD hj haft hun
            have e98 := eval_of h98
            refine step_call (f := 27) (args := #[.pointer (some ⟨gk, 0, none⟩)]) (wanted_free rfl) ?_ (now_any gk gr2 2 (by decide) ta tb #[.int .u64 ta, .int .u64 tb, .int .u64 sa, .int .u64 sb] rfl ntl wq (Keep.below ⟨Bgk_z.out, Bgr2_z.out⟩ hst)) ?_
            · clear hK; first | (go_simp; done) | (go_simp; rfl)
            · rintro e w' ⟨he, hbq⟩; exact ⟨_, he, hK _ _ hbq rfl⟩
          · intro listed vals a wq K hD hst hj haft hun hK
            have h6 := hD.out 6 rfl rfl
            clear hD hj haft hun
            have e6 := eval_of h6
            refine step_now (v := .pointer (some ⟨gq, 0, none⟩)) (w' := wq) (wanted_free rfl) ?_ (hK _ _ (Below.refl _ _) rfl)
            clear hK
            first | (go_simp; done) | (go_simp; rfl)
          · intro listed vals a wq K hD hst hj haft hun hK
            obtain ⟨v100, h100, j100⟩ := hD.dep hj haft 2 100 rfl rfl
            replace j100 : v100 = (.pointer (some ⟨gq, 0, none⟩)) := j100
            subst j100
            clear hD hj haft hun
            have e100 := eval_of h100
            refine step_now (v := .pointer (some ⟨gq, 0, none⟩)) (w' := wq) (wanted_free rfl) ?_ (hK _ _ (Below.refl _ _) rfl)
            clear hK
            first | (go_simp; done) | (go_simp; rfl)
          · intro listed vals a wq K hD hst hj haft hun hK
            obtain ⟨v101, h101, j101⟩ := hD.dep hj haft 3 101 rfl rfl
            replace j101 : v101 = (.pointer (some ⟨gq, 0, none⟩)) := j101
            subst j101
            clear hD hj haft hun
            have e101 := eval_of h101
            refine step_now (v := .pointer (some ⟨gq, 0, none⟩)) (w' := wq) (wanted_free rfl) ?_ (hK _ _ (Below.refl _ _) rfl)
            clear hK
            first | (go_simp; done) | (go_simp; rfl)
          · intro listed vals a wq K hD hst hj haft hun hK
            obtain ⟨v102, h102, j102⟩ := hD.dep hj haft 4 102 rfl rfl
            replace j102 : v102 = (.pointer (some ⟨gq, 0, none⟩)) := j102
            subst j102
            replace hst : Below _ _ wq := hst
            clear hD hj haft hun
            have e102 := eval_of h102
            exact step_now (v := .agg #[.int .u64 ta, .int .u64 tb]) (w' := wq) (wanted_free rfl) (rg_loadmid rfl e102 (blk_range (blk_below Bgq_z.out hst) 0 [.int .u64 ta, .int .u64 tb] rfl) Try.underlying30 rfl (by kernel_rfl)) (hK _ _ (Below.refl _ _) rfl)
          · intro listed vals a wq K hD hst hj haft hun hK
            obtain ⟨v99, h99, j99⟩ := hD.dep hj haft 1 99 rfl rfl
            replace j99 : v99 = (.agg #[.int .u64 ta, .int .u64 tb]) := j99
            subst j99
            obtain ⟨v103, h103, j103⟩ := hD.dep hj haft 5 103 rfl rfl
            replace j103 : v103 = (.agg #[.int .u64 ta, .int .u64 tb]) := j103
            subst j103
            clear hD hj haft hun
            have e99 := eval_of h99
            have e103 := eval_of h103
            refine step_now (v := .bool false) (w' := wq) (wanted_free rfl) ?_ (hK _ _ (Below.refl _ _) rfl)
            clear hK
            first | (go_simp; done) | (go_simp; rfl)
        intro vals wend hst hj
        have j0 : vals 0 = (.pointer (some ⟨gk, 0, none⟩)) := hj 0 (by decide)
        have j1 : vals 1 = (.agg #[.int .u64 ta, .int .u64 tb]) := hj 1 (by decide)
        have j2 : vals 2 = (.pointer (some ⟨gq, 0, none⟩)) := hj 2 (by decide)
        have j3 : vals 3 = (.pointer (some ⟨gq, 0, none⟩)) := hj 3 (by decide)
        have j4 : vals 4 = (.pointer (some ⟨gq, 0, none⟩)) := hj 4 (by decide)
        have j5 : vals 5 = (.agg #[.int .u64 ta, .int .u64 tb]) := hj 5 (by decide)
        have j6 : vals 6 = (.bool false) := hj 6 (by decide)
        replace hst : Below _ _ wend := hst
        clear hj
        rw [putAll_list]
        simp only [putL, Act.put, List.setIfInBounds_toArray, List.set_cons_zero, List.set_cons_succ, j0, j1, j2, j3, j4, j5, j6]
        clear j0 j1 j2 j3 j4 j5 j6
        have HB_53 := Aside0.mk (below_step HB_z.out hst)
        clear HB_z
        have Bgk_53 := Aside0.mk (blk_below Bgk_z.out hst)
        clear Bgk_z
        have Bgr2_53 := Aside0.mk (blk_below Bgr2_z.out hst)
        clear Bgr2_z
        have Bgq_53 := Aside0.mk (blk_below Bgq_z.out hst)
        clear Bgq_z
        clear hst
        go_wp2
        go_roundw
        case rel => exact ⟨k + 1, last, ta, tb, sa, sb, ntl, true, by have := HLT.out; omega, by go_num, rfl, ⟨⟨gr2, ntl, Ngr2gq.out, .inr ⟨rfl, rfl, ⟨Bgk_53.out, Bgr2_53.out⟩⟩⟩, Bgq_53.out⟩, HB_53⟩
        case measure => have := HLT.out; simp [intOf]; omega
      by_cases h3 : kd = 3
      · have hkd : 3 = kd := h3.symm
        clear h0 h1 h2 h3
        obtain rfl := hkd
        obtain ⟨bv, hbv⟩ : ∃ b : Bool, (((ck sa sb p sh sl dh dl sp dp (now / 16) == last) || (ck sa sb p sh sl dh dl sp dp (IntKind.i64.wrap (now / 16 - 1)) == last)) || ((true && decide (now / 16 ≤ till)) && ((ck oa ob p sh sl dh dl sp dp (now / 16) == last) || (ck oa ob p sh sl dh dl sp dp (IntKind.i64.wrap (now / 16 - 1)) == last)))) = b := ⟨_, rfl⟩
        have HBV := Aside0.mk hbv
        clear hbv
        go_upto_region 24 with fail
        go_upto_region 24 with (fail)
        refine wp_region_rg (by kernel_rfl) (fun x y => Below x.heap.size x y) (fun (i : Nat) (v : Value) (w1 : World) => match i with | 0 => v = (.pointer (some ⟨gk, 0, none⟩)) | 1 => v = (.pointer (some ⟨go, 1, none⟩)) | 2 => v = (.agg #[.int .i64 p, .int .u64 sh, .int .u64 sl, .int .u64 dh, .int .u64 dl, .int .i64 sp, .int .i64 dp]) | 3 => v = (.pointer (some ⟨go, 8, none⟩)) | 4 => v = (.int .i64 now) | 5 => v = (.int .u32 last) | 6 => v = (.bool bv) | 7 => v = (.pointer (some ⟨gq, 0, none⟩)) | 8 => v = (.pointer (some ⟨go, 1, none⟩)) | 9 => v = (.agg #[.int .i64 p, .int .u64 sh, .int .u64 sl, .int .u64 dh, .int .u64 dl, .int .i64 sp, .int .i64 dp]) | 10 => v = (.pointer (some ⟨go, 8, none⟩)) | 11 => v = (.int .i64 now) | 12 => v = (.int .u32 last) | 13 => v = (.bool bv) | 14 => v = (.bool false) | _ => True) (by kernel_rfl) (by kernel_rfl) below_tr (Below.refl _ _).drew ?hJst12 (obl_list ?hObl12) ?hEnd12
        case hJst12 =>
          intro i v wx wy hi hs0 hs1 hJi
          match i, hi with
          | 0, _ => exact hJi
          | 1, _ => exact hJi
          | 2, _ => exact hJi
          | 3, _ => exact hJi
          | 4, _ => exact hJi
          | 5, _ => exact hJi
          | 6, _ => exact hJi
          | 7, _ => exact hJi
          | 8, _ => exact hJi
          | 9, _ => exact hJi
          | 10, _ => exact hJi
          | 11, _ => exact hJi
          | 12, _ => exact hJi
          | 13, _ => exact hJi
          | 14, _ => exact hJi
          | _ + 15, hi => exact absurd hi (by simp)
        case hObl12 =>
          refine ⟨?_, ?_, ?_, ?_, ?_, ?_, ?_, ?_, ?_, ?_, ?_, ?_, ?_, ?_, ?_,  trivial⟩
          · intro listed vals a wq K hD hst hj haft hun hK
            have h5 := hD.out 5 rfl rfl
            clear hD hj haft hun
            have e5 := eval_of h5
            refine step_now (v := .pointer (some ⟨gk, 0, none⟩)) (w' := wq) (wanted_free rfl) ?_ (hK _ _ (Below.refl _ _) rfl)
            clear hK
            first | (go_simp; done) | (go_simp; rfl)
          · intro listed vals a wq K hD hst hj haft hun hK
            have h9 := hD.out 9 rfl rfl
            clear hD hj haft hun
            have e9 := eval_of h9
            refine step_now (v := .pointer (some ⟨go, 1, none⟩)) (w' := wq) (wanted_free rfl) ?_ (hK _ _ (Below.refl _ _) rfl)
            clear hK
            first | (go_simp; done) | (go_simp; rfl)
          · intro listed vals a wq K hD hst hj haft hun hK
            obtain ⟨v84, h84, j84⟩ := hD.dep hj haft 1 84 rfl rfl
            replace j84 : v84 = (.pointer (some ⟨go, 1, none⟩)) := j84
            subst j84
            replace hst : Below _ _ wq := hst
            clear hD hj haft hun
            have e84 := eval_of h84
            exact step_now (v := .agg #[.int .i64 p, .int .u64 sh, .int .u64 sl, .int .u64 dh, .int .u64 dl, .int .i64 sp, .int .i64 dp]) (w' := wq) (wanted_free rfl) (rg_loadmid rfl e84 (blk_range (blk_below Bgo_52.out hst) 1 [.int .i64 p, .int .u64 sh, .int .u64 sl, .int .u64 dh, .int .u64 dl, .int .i64 sp, .int .i64 dp] rfl) Try.underlying29 rfl (by kernel_rfl)) (hK _ _ (Below.refl _ _) rfl)
          · intro listed vals a wq K hD hst hj haft hun hK
            have h9 := hD.out 9 rfl rfl
            clear hD hj haft hun
            have e9 := eval_of h9
            refine step_now (v := .pointer (some ⟨go, 8, none⟩)) (w' := wq) (wanted_free rfl) ?_ (hK _ _ (Below.refl _ _) rfl)
            clear hK
            first | (go_simp; done) | (go_simp; rfl)
          · intro listed vals a wq K hD hst hj haft hun hK
            obtain ⟨v86, h86, j86⟩ := hD.dep hj haft 3 86 rfl rfl
            replace j86 : v86 = (.pointer (some ⟨go, 8, none⟩)) := j86
            subst j86
            replace hst : Below _ _ wq := hst
            clear hD hj haft hun
            have e86 := eval_of h86
            exact step_now (v := .int .i64 now) (w' := wq) (wanted_free rfl) (rg_load rfl e86 (blk_below Bgo_52.out hst) rfl Try.underlying3 rfl) (hK _ _ (Below.refl _ _) rfl)
          · intro listed vals a wq K hD hst hj haft hun hK
            have h7 := hD.out 7 rfl rfl
            clear hD hj haft hun
            have e7 := eval_of h7
            refine step_now (v := .int .u32 last) (w' := wq) (wanted_free rfl) ?_ (hK _ _ (Below.refl _ _) rfl)
            clear hK
            first | (go_simp; done) | (go_simp; rfl) | (go_simp; (try simp only [IntKind.wrap_u32]); omega)
          · intro listed vals a wq K hD hst hj haft hun hK
            obtain ⟨v83, h83, j83⟩ := hD.dep hj haft 0 83 rfl rfl
            replace j83 : v83 = (.pointer (some ⟨gk, 0, none⟩)) := j83
            subst j83
            obtain ⟨v85, h85, j85⟩ := hD.dep hj haft 2 85 rfl rfl
            replace j85 : v85 = (.agg #[.int .i64 p, .int .u64 sh, .int .u64 sl, .int .u64 dh, .int .u64 dl, .int .i64 sp, .int .i64 dp]) := j85
            subst j85
            obtain ⟨v87, h87, j87⟩ := hD.dep hj haft 4 87 rfl rfl
            replace j87 : v87 = (.int .i64 now) := j87
            subst j87
            obtain ⟨v88, h88, j88⟩ := hD.dep hj haft 5 88 rfl rfl
            replace j88 : v88 = (.int .u32 last) := j88
            subst j88
            replace hst : Below _ _ wq := hst
            clear hD hj haft hun
            have e83 := eval_of h83
            have e85 := eval_of h85
            have e87 := eval_of h87
            have e88 := eval_of h88
            refine step_call (f := 22) (args := #[.pointer (some ⟨gk, 0, none⟩), .agg #[.int .i64 p, .int .u64 sh, .int .u64 sl, .int .u64 dh, .int .u64 dl, .int .i64 sp, .int .i64 dp], .int .i64 now, .int .u32 last]) (wanted_free rfl) ?_ (check2_w gk gr sa sb oa ob till p sh sl dh dl sp dp now last bv (by rw [← HBV.out, le_not, Bool.true_and]) wq (Keep.below ⟨Bgk_52.out, Bgr_52.out⟩ hst)) ?_
            · clear hK; first | (go_simp; done) | (go_simp; rfl)
            · rintro e w' ⟨he, hbq⟩; exact ⟨_, he, hK _ _ hbq rfl⟩
          · intro listed vals a wq K hD hst hj haft hun hK
            have h6 := hD.out 6 rfl rfl
            clear hD hj haft hun
            have e6 := eval_of h6
            refine step_now (v := .pointer (some ⟨gq, 0, none⟩)) (w' := wq) (wanted_free rfl) ?_ (hK _ _ (Below.refl _ _) rfl)
            clear hK
            first | (go_simp; done) | (go_simp; rfl)
          · intro listed vals a wq K hD hst hj haft hun hK
            have h9 := hD.out 9 rfl rfl
            clear hD hj haft hun
            have e9 := eval_of h9
            refine step_now (v := .pointer (some ⟨go, 1, none⟩)) (w' := wq) (wanted_free rfl) ?_ (hK _ _ (Below.refl _ _) rfl)
            clear hK
            first | (go_simp; done) | (go_simp; rfl)
          · intro listed vals a wq K hD hst hj haft hun hK
            obtain ⟨v91, h91, j91⟩ := hD.dep hj haft 8 91 rfl rfl
            replace j91 : v91 = (.pointer (some ⟨go, 1, none⟩)) := j91
            subst j91
            replace hst : Below _ _ wq := hst
            clear hD hj haft hun
            have e91 := eval_of h91
            exact step_now (v := .agg #[.int .i64 p, .int .u64 sh, .int .u64 sl, .int .u64 dh, .int .u64 dl, .int .i64 sp, .int .i64 dp]) (w' := wq) (wanted_free rfl) (rg_loadmid rfl e91 (blk_range (blk_below Bgo_52.out hst) 1 [.int .i64 p, .int .u64 sh, .int .u64 sl, .int .u64 dh, .int .u64 dl, .int .i64 sp, .int .i64 dp] rfl) Try.underlying29 rfl (by kernel_rfl)) (hK _ _ (Below.refl _ _) rfl)
          · intro listed vals a wq K hD hst hj haft hun hK
            have h9 := hD.out 9 rfl rfl
            clear hD hj haft hun
            have e9 := eval_of h9
            refine step_now (v := .pointer (some ⟨go, 8, none⟩)) (w' := wq) (wanted_free rfl) ?_ (hK _ _ (Below.refl _ _) rfl)
            clear hK
            first | (go_simp; done) | (go_simp; rfl)
          · intro listed vals a wq K hD hst hj haft hun hK
            obtain ⟨v93, h93, j93⟩ := hD.dep hj haft 10 93 rfl rfl
            replace j93 : v93 = (.pointer (some ⟨go, 8, none⟩)) := j93
            subst j93
            replace hst : Below _ _ wq := hst
            clear hD hj haft hun
            have e93 := eval_of h93
            exact step_now (v := .int .i64 now) (w' := wq) (wanted_free rfl) (rg_load rfl e93 (blk_below Bgo_52.out hst) rfl Try.underlying3 rfl) (hK _ _ (Below.refl _ _) rfl)
          · intro listed vals a wq K hD hst hj haft hun hK
            have h7 := hD.out 7 rfl rfl
            clear hD hj haft hun
            have e7 := eval_of h7
            refine step_now (v := .int .u32 last) (w' := wq) (wanted_free rfl) ?_ (hK _ _ (Below.refl _ _) rfl)
            clear hK
            first | (go_simp; done) | (go_simp; rfl) | (go_simp; (try simp only [IntKind.wrap_u32]); omega)
          · intro listed vals a wq K hD hst hj haft hun hK
            obtain ⟨v90, h90, j90⟩ := hD.dep hj haft 7 90 rfl rfl
            replace j90 : v90 = (.pointer (some ⟨gq, 0, none⟩)) := j90
            subst j90
            obtain ⟨v92, h92, j92⟩ := hD.dep hj haft 9 92 rfl rfl
            replace j92 : v92 = (.agg #[.int .i64 p, .int .u64 sh, .int .u64 sl, .int .u64 dh, .int .u64 dl, .int .i64 sp, .int .i64 dp]) := j92
            subst j92
            obtain ⟨v94, h94, j94⟩ := hD.dep hj haft 11 94 rfl rfl
            replace j94 : v94 = (.int .i64 now) := j94
            subst j94
            obtain ⟨v95, h95, j95⟩ := hD.dep hj haft 12 95 rfl rfl
            replace j95 : v95 = (.int .u32 last) := j95
            subst j95
            replace hst : Below _ _ wq := hst
            clear hD hj haft hun
            have e90 := eval_of h90
            have e92 := eval_of h92
            have e94 := eval_of h94
            have e95 := eval_of h95
            refine step_call (f := 25) (args := #[.pointer (some ⟨gq, 0, none⟩), .agg #[.int .i64 p, .int .u64 sh, .int .u64 sl, .int .u64 dh, .int .u64 dl, .int .i64 sp, .int .i64 dp], .int .i64 now, .int .u32 last]) (wanted_free rfl) ?_ (rcheck_w gq sa sb oa ob till p sh sl dh dl sp dp now last true bv HBV.out wq (blk_below Bgq_52.out hst)) ?_
            · clear hK; first | (go_simp; done) | (go_simp; rfl)
            · rintro e w' ⟨he, hbq⟩; exact ⟨_, he, hK _ _ hbq rfl⟩
          · intro listed vals a wq K hD hst hj haft hun hK
            obtain ⟨v89, h89, j89⟩ := hD.dep hj haft 6 89 rfl rfl
            replace j89 : v89 = (.bool bv) := j89
            subst j89
            obtain ⟨v96, h96, j96⟩ := hD.dep hj haft 13 96 rfl rfl
            replace j96 : v96 = (.bool bv) := j96
            subst j96
            clear hD hj haft hun
            have e89 := eval_of h89
            have e96 := eval_of h96
            refine step_now (v := .bool false) (w' := wq) (wanted_free rfl) ?_ (hK _ _ (Below.refl _ _) rfl)
            clear hK
            first | (go_simp; done) | (go_simp; rfl)
        intro vals wend hst hj
        have j0 : vals 0 = (.pointer (some ⟨gk, 0, none⟩)) := hj 0 (by decide)
        have j1 : vals 1 = (.pointer (some ⟨go, 1, none⟩)) := hj 1 (by decide)
        have j2 : vals 2 = (.agg #[.int .i64 p, .int .u64 sh, .int .u64 sl, .int .u64 dh, .int .u64 dl, .int .i64 sp, .int .i64 dp]) := hj 2 (by decide)
        have j3 : vals 3 = (.pointer (some ⟨go, 8, none⟩)) := hj 3 (by decide)
        have j4 : vals 4 = (.int .i64 now) := hj 4 (by decide)
        have j5 : vals 5 = (.int .u32 last) := hj 5 (by decide)
        have j6 : vals 6 = (.bool bv) := hj 6 (by decide)
        have j7 : vals 7 = (.pointer (some ⟨gq, 0, none⟩)) := hj 7 (by decide)
        have j8 : vals 8 = (.pointer (some ⟨go, 1, none⟩)) := hj 8 (by decide)
        have j9 : vals 9 = (.agg #[.int .i64 p, .int .u64 sh, .int .u64 sl, .int .u64 dh, .int .u64 dl, .int .i64 sp, .int .i64 dp]) := hj 9 (by decide)
        have j10 : vals 10 = (.pointer (some ⟨go, 8, none⟩)) := hj 10 (by decide)
        have j11 : vals 11 = (.int .i64 now) := hj 11 (by decide)
        have j12 : vals 12 = (.int .u32 last) := hj 12 (by decide)
        have j13 : vals 13 = (.bool bv) := hj 13 (by decide)
        have j14 : vals 14 = (.bool false) := hj 14 (by decide)
        replace hst : Below _ _ wend := hst
        clear hj
        rw [putAll_list]
        simp only [putL, Act.put, List.setIfInBounds_toArray, List.set_cons_zero, List.set_cons_succ, j0, j1, j2, j3, j4, j5, j6, j7, j8, j9, j10, j11, j12, j13, j14]
        clear j0 j1 j2 j3 j4 j5 j6 j7 j8 j9 j10 j11 j12 j13 j14
        have HB_53 := Aside0.mk (below_step HB_52.out hst)
        clear HB_52
        have Bgk_53 := Aside0.mk (blk_below Bgk_52.out hst)
        clear Bgk_52
        have Bgr_53 := Aside0.mk (blk_below Bgr_52.out hst)
        clear Bgr_52
        have Bgq_53 := Aside0.mk (blk_below Bgq_52.out hst)
        clear Bgq_52
        have Bgo_53 := Aside0.mk (blk_below Bgo_52.out hst)
        clear Bgo_52
        clear hst
        go_upto_region 26 with fail
        go_upto_region 26 with (fail)
        refine wp_region_rg (by kernel_rfl) (fun x y => Below x.heap.size x y) (fun (i : Nat) (v : Value) (w1 : World) => match i with | 0 => v = (.pointer (some ⟨gk, 0, none⟩)) | 1 => v = (.agg #[.int .u64 sa, .int .u64 sb]) | 2 => v = (.pointer (some ⟨gq, 0, none⟩)) | 3 => v = (.pointer (some ⟨gq, 0, none⟩)) | 4 => v = (.pointer (some ⟨gq, 0, none⟩)) | 5 => v = (.agg #[.int .u64 sa, .int .u64 sb]) | 6 => v = (.bool false) | _ => True) (by kernel_rfl) (by kernel_rfl) below_tr (Below.refl _ _).drew ?hJst13 (obl_list ?hObl13) ?hEnd13
        case hJst13 =>
          intro i v wx wy hi hs0 hs1 hJi
          match i, hi with
          | 0, _ => exact hJi
          | 1, _ => exact hJi
          | 2, _ => exact hJi
          | 3, _ => exact hJi
          | 4, _ => exact hJi
          | 5, _ => exact hJi
          | 6, _ => exact hJi
          | _ + 7, hi => exact absurd hi (by simp)
        case hObl13 =>
          refine ⟨?_, ?_, ?_, ?_, ?_, ?_, ?_,  trivial⟩
          · intro listed vals a wq K hD hst hj haft hun hK
            have h5 := hD.out 5 rfl rfl
            clear hD hj haft hun
            have e5 := eval_of h5
            refine step_now (v := .pointer (some ⟨gk, 0, none⟩)) (w' := wq) (wanted_free rfl) ?_ (hK _ _ (Below.refl _ _) rfl)
            clear hK
            first | (go_simp; done) | (go_simp; rfl)
          · intro listed vals a wq K hD hst hj haft hun hK
            obtain ⟨v98, h98, j98⟩ := hD.dep hj haft 0 98 rfl rfl
            replace j98 : v98 = (.pointer (some ⟨gk, 0, none⟩)) := j98
            subst j98
            replace hst : Below _ _ wq := hst
            clear hD hj haft hun
            have e98 := eval_of h98
            refine step_call (f := 27) (args := #[.pointer (some ⟨gk, 0, none⟩)]) (wanted_free rfl) ?_ (now_any gk gr 2 (by decide) sa sb #[.int .u64 sa, .int .u64 sb, .int .u64 oa, .int .u64 ob] rfl till wq (Keep.below ⟨Bgk_53.out, Bgr_53.out⟩ hst)) ?_
            · clear hK; first | (go_simp; done) | (go_simp; rfl)
            · rintro e w' ⟨he, hbq⟩; exact ⟨_, he, hK _ _ hbq rfl⟩
          · intro listed vals a wq K hD hst hj haft hun hK
            have h6 := hD.out 6 rfl rfl
            clear hD hj haft hun
            have e6 := eval_of h6
            refine step_now (v := .pointer (some ⟨gq, 0, none⟩)) (w' := wq) (wanted_free rfl) ?_ (hK _ _ (Below.refl _ _) rfl)
            clear hK
            first | (go_simp; done) | (go_simp; rfl)
          · intro listed vals a wq K hD hst hj haft hun hK
            obtain ⟨v100, h100, j100⟩ := hD.dep hj haft 2 100 rfl rfl
            replace j100 : v100 = (.pointer (some ⟨gq, 0, none⟩)) := j100
            subst j100
            clear hD hj haft hun
            have e100 := eval_of h100
            refine step_now (v := .pointer (some ⟨gq, 0, none⟩)) (w' := wq) (wanted_free rfl) ?_ (hK _ _ (Below.refl _ _) rfl)
            clear hK
            first | (go_simp; done) | (go_simp; rfl)
          · intro listed vals a wq K hD hst hj haft hun hK
            obtain ⟨v101, h101, j101⟩ := hD.dep hj haft 3 101 rfl rfl
            replace j101 : v101 = (.pointer (some ⟨gq, 0, none⟩)) := j101
            subst j101
            clear hD hj haft hun
            have e101 := eval_of h101
            refine step_now (v := .pointer (some ⟨gq, 0, none⟩)) (w' := wq) (wanted_free rfl) ?_ (hK _ _ (Below.refl _ _) rfl)
            clear hK
            first | (go_simp; done) | (go_simp; rfl)
          · intro listed vals a wq K hD hst hj haft hun hK
            obtain ⟨v102, h102, j102⟩ := hD.dep hj haft 4 102 rfl rfl
            replace j102 : v102 = (.pointer (some ⟨gq, 0, none⟩)) := j102
            subst j102
            replace hst : Below _ _ wq := hst
            clear hD hj haft hun
            have e102 := eval_of h102
            exact step_now (v := .agg #[.int .u64 sa, .int .u64 sb]) (w' := wq) (wanted_free rfl) (rg_loadmid rfl e102 (blk_range (blk_below Bgq_53.out hst) 0 [.int .u64 sa, .int .u64 sb] rfl) Try.underlying30 rfl (by kernel_rfl)) (hK _ _ (Below.refl _ _) rfl)
          · intro listed vals a wq K hD hst hj haft hun hK
            obtain ⟨v99, h99, j99⟩ := hD.dep hj haft 1 99 rfl rfl
            replace j99 : v99 = (.agg #[.int .u64 sa, .int .u64 sb]) := j99
            subst j99
            obtain ⟨v103, h103, j103⟩ := hD.dep hj haft 5 103 rfl rfl
            replace j103 : v103 = (.agg #[.int .u64 sa, .int .u64 sb]) := j103
            subst j103
            clear hD hj haft hun
            have e99 := eval_of h99
            have e103 := eval_of h103
            refine step_now (v := .bool false) (w' := wq) (wanted_free rfl) ?_ (hK _ _ (Below.refl _ _) rfl)
            clear hK
            first | (go_simp; done) | (go_simp; rfl)
        intro vals wend hst hj
        have j0 : vals 0 = (.pointer (some ⟨gk, 0, none⟩)) := hj 0 (by decide)
        have j1 : vals 1 = (.agg #[.int .u64 sa, .int .u64 sb]) := hj 1 (by decide)
        have j2 : vals 2 = (.pointer (some ⟨gq, 0, none⟩)) := hj 2 (by decide)
        have j3 : vals 3 = (.pointer (some ⟨gq, 0, none⟩)) := hj 3 (by decide)
        have j4 : vals 4 = (.pointer (some ⟨gq, 0, none⟩)) := hj 4 (by decide)
        have j5 : vals 5 = (.agg #[.int .u64 sa, .int .u64 sb]) := hj 5 (by decide)
        have j6 : vals 6 = (.bool false) := hj 6 (by decide)
        replace hst : Below _ _ wend := hst
        clear hj
        rw [putAll_list]
        simp only [putL, Act.put, List.setIfInBounds_toArray, List.set_cons_zero, List.set_cons_succ, j0, j1, j2, j3, j4, j5, j6]
        clear j0 j1 j2 j3 j4 j5 j6
        have HB_54 := Aside0.mk (below_step HB_53.out hst)
        clear HB_53
        have Bgk_54 := Aside0.mk (blk_below Bgk_53.out hst)
        clear Bgk_53
        have Bgr_54 := Aside0.mk (blk_below Bgr_53.out hst)
        clear Bgr_53
        have Bgq_54 := Aside0.mk (blk_below Bgq_53.out hst)
        clear Bgq_53
        have Bgo_54 := Aside0.mk (blk_below Bgo_53.out hst)
        clear Bgo_53
        clear hst
        go_wp2
        go_roundw
        case rel => exact ⟨k + 1, last, sa, sb, oa, ob, till, true, by have := HLT.out; omega, by go_num, rfl, ⟨⟨gr, till, Ngrgq.out, .inr ⟨rfl, rfl, ⟨Bgk_54.out, Bgr_54.out⟩⟩⟩, Bgq_54.out⟩, HB_54⟩
        case measure => have := HLT.out; simp [intOf]; omega
      have hk_0 : (kd == 0) = false := beq_eq_false_iff_ne.2 h0
      have hk_1 : (kd == 1) = false := beq_eq_false_iff_ne.2 h1
      have hk_2 : (kd == 2) = false := beq_eq_false_iff_ne.2 h2
      have hk_3 : (kd == 3) = false := beq_eq_false_iff_ne.2 h3
      clear h0 h1 h2 h3
      go_upto_region 26 with fail
      clear hk_0 hk_1 hk_2 hk_3
      go_upto_region 26 with fail
      go_upto_region 26 with (fail)
      refine wp_region_rg (by kernel_rfl) (fun x y => Below x.heap.size x y) (fun (i : Nat) (v : Value) (w1 : World) => match i with | 0 => v = (.pointer (some ⟨gk, 0, none⟩)) | 1 => v = (.agg #[.int .u64 sa, .int .u64 sb]) | 2 => v = (.pointer (some ⟨gq, 0, none⟩)) | 3 => v = (.pointer (some ⟨gq, 0, none⟩)) | 4 => v = (.pointer (some ⟨gq, 0, none⟩)) | 5 => v = (.agg #[.int .u64 sa, .int .u64 sb]) | 6 => v = (.bool false) | _ => True) (by kernel_rfl) (by kernel_rfl) below_tr (Below.refl _ _).drew ?hJst14 (obl_list ?hObl14) ?hEnd14
      case hJst14 =>
        intro i v wx wy hi hs0 hs1 hJi
        match i, hi with
        | 0, _ => exact hJi
        | 1, _ => exact hJi
        | 2, _ => exact hJi
        | 3, _ => exact hJi
        | 4, _ => exact hJi
        | 5, _ => exact hJi
        | 6, _ => exact hJi
        | _ + 7, hi => exact absurd hi (by simp)
      case hObl14 =>
        refine ⟨?_, ?_, ?_, ?_, ?_, ?_, ?_,  trivial⟩
        · intro listed vals a wq K hD hst hj haft hun hK
          have h5 := hD.out 5 rfl rfl
          clear hD hj haft hun
          have e5 := eval_of h5
          refine step_now (v := .pointer (some ⟨gk, 0, none⟩)) (w' := wq) (wanted_free rfl) ?_ (hK _ _ (Below.refl _ _) rfl)
          clear hK
          first | (go_simp; done) | (go_simp; rfl)
        · intro listed vals a wq K hD hst hj haft hun hK
          obtain ⟨v98, h98, j98⟩ := hD.dep hj haft 0 98 rfl rfl
          replace j98 : v98 = (.pointer (some ⟨gk, 0, none⟩)) := j98
          subst j98
          replace hst : Below _ _ wq := hst
          clear hD hj haft hun
          have e98 := eval_of h98
          refine step_call (f := 27) (args := #[.pointer (some ⟨gk, 0, none⟩)]) (wanted_free rfl) ?_ (now_any gk gr 2 (by decide) sa sb #[.int .u64 sa, .int .u64 sb, .int .u64 oa, .int .u64 ob] rfl till wq (Keep.below ⟨Bgk_52.out, Bgr_52.out⟩ hst)) ?_
          · clear hK; first | (go_simp; done) | (go_simp; rfl)
          · rintro e w' ⟨he, hbq⟩; exact ⟨_, he, hK _ _ hbq rfl⟩
        · intro listed vals a wq K hD hst hj haft hun hK
          have h6 := hD.out 6 rfl rfl
          clear hD hj haft hun
          have e6 := eval_of h6
          refine step_now (v := .pointer (some ⟨gq, 0, none⟩)) (w' := wq) (wanted_free rfl) ?_ (hK _ _ (Below.refl _ _) rfl)
          clear hK
          first | (go_simp; done) | (go_simp; rfl)
        · intro listed vals a wq K hD hst hj haft hun hK
          obtain ⟨v100, h100, j100⟩ := hD.dep hj haft 2 100 rfl rfl
          replace j100 : v100 = (.pointer (some ⟨gq, 0, none⟩)) := j100
          subst j100
          clear hD hj haft hun
          have e100 := eval_of h100
          refine step_now (v := .pointer (some ⟨gq, 0, none⟩)) (w' := wq) (wanted_free rfl) ?_ (hK _ _ (Below.refl _ _) rfl)
          clear hK
          first | (go_simp; done) | (go_simp; rfl)
        · intro listed vals a wq K hD hst hj haft hun hK
          obtain ⟨v101, h101, j101⟩ := hD.dep hj haft 3 101 rfl rfl
          replace j101 : v101 = (.pointer (some ⟨gq, 0, none⟩)) := j101
          subst j101
          clear hD hj haft hun
          have e101 := eval_of h101
          refine step_now (v := .pointer (some ⟨gq, 0, none⟩)) (w' := wq) (wanted_free rfl) ?_ (hK _ _ (Below.refl _ _) rfl)
          clear hK
          first | (go_simp; done) | (go_simp; rfl)
        · intro listed vals a wq K hD hst hj haft hun hK
          obtain ⟨v102, h102, j102⟩ := hD.dep hj haft 4 102 rfl rfl
          replace j102 : v102 = (.pointer (some ⟨gq, 0, none⟩)) := j102
          subst j102
          replace hst : Below _ _ wq := hst
          clear hD hj haft hun
          have e102 := eval_of h102
          exact step_now (v := .agg #[.int .u64 sa, .int .u64 sb]) (w' := wq) (wanted_free rfl) (rg_loadmid rfl e102 (blk_range (blk_below Bgq_52.out hst) 0 [.int .u64 sa, .int .u64 sb] rfl) Try.underlying30 rfl (by kernel_rfl)) (hK _ _ (Below.refl _ _) rfl)
        · intro listed vals a wq K hD hst hj haft hun hK
          obtain ⟨v99, h99, j99⟩ := hD.dep hj haft 1 99 rfl rfl
          replace j99 : v99 = (.agg #[.int .u64 sa, .int .u64 sb]) := j99
          subst j99
          obtain ⟨v103, h103, j103⟩ := hD.dep hj haft 5 103 rfl rfl
          replace j103 : v103 = (.agg #[.int .u64 sa, .int .u64 sb]) := j103
          subst j103
          clear hD hj haft hun
          have e99 := eval_of h99
          have e103 := eval_of h103
          refine step_now (v := .bool false) (w' := wq) (wanted_free rfl) ?_ (hK _ _ (Below.refl _ _) rfl)
          clear hK
          first | (go_simp; done) | (go_simp; rfl)
      intro vals wend hst hj
      have j0 : vals 0 = (.pointer (some ⟨gk, 0, none⟩)) := hj 0 (by decide)
      have j1 : vals 1 = (.agg #[.int .u64 sa, .int .u64 sb]) := hj 1 (by decide)
      have j2 : vals 2 = (.pointer (some ⟨gq, 0, none⟩)) := hj 2 (by decide)
      have j3 : vals 3 = (.pointer (some ⟨gq, 0, none⟩)) := hj 3 (by decide)
      have j4 : vals 4 = (.pointer (some ⟨gq, 0, none⟩)) := hj 4 (by decide)
      have j5 : vals 5 = (.agg #[.int .u64 sa, .int .u64 sb]) := hj 5 (by decide)
      have j6 : vals 6 = (.bool false) := hj 6 (by decide)
      replace hst : Below _ _ wend := hst
      clear hj
      rw [putAll_list]
      simp only [putL, Act.put, List.setIfInBounds_toArray, List.set_cons_zero, List.set_cons_succ, j0, j1, j2, j3, j4, j5, j6]
      clear j0 j1 j2 j3 j4 j5 j6
      have HB_53 := Aside0.mk (below_step HB_52.out hst)
      clear HB_52
      have Bgk_53 := Aside0.mk (blk_below Bgk_52.out hst)
      clear Bgk_52
      have Bgr_53 := Aside0.mk (blk_below Bgr_52.out hst)
      clear Bgr_52
      have Bgq_53 := Aside0.mk (blk_below Bgq_52.out hst)
      clear Bgq_52
      have Bgo_53 := Aside0.mk (blk_below Bgo_52.out hst)
      clear Bgo_52
      clear hst
      go_wp2
      go_roundw
      case rel => exact ⟨k + 1, last, sa, sb, oa, ob, till, true, by have := HLT.out; omega, by go_num, rfl, ⟨⟨gr, till, Ngrgq.out, .inr ⟨rfl, rfl, ⟨Bgk_53.out, Bgr_53.out⟩⟩⟩, Bgq_53.out⟩, HB_53⟩
      case measure => have := HLT.out; simp [intOf]; omega
theorem walk_row (za zb : Int) (A : Option Addr) (c : Nat) (l : List Stp) (w : World) (_ : True) (hl : ScriptC w A c l) :
    Calls Try.prog 6 #[.agg #[.int .u64 za, .int .u64 zb], .slice A l.length c] w fun e w' => e = .returned (.bool true) ∧ Below w.heap.size w w' := walk za zb A c l w hl
end Go.Proofs.Ytainkpgplmkiaaa.CookieScriptWalk
