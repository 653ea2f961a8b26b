/- cookie's Hash: its contract. No condition but the length. -/
import Derived.Test.YtainkpgplmkiaaaCookLow
namespace Go.Proofs.Ytainkpgplmkiaaa.CookHash
open Go Go.RowKit Go.Proofs.YtainkpgplmkiaaaW.PrintWords Go.Proofs.YtainkpgplmkiaaaW.PrintLast Go.Proofs.YtainkpgplmkiaaaW.PrintMore Go.Proofs.Ytainkpgplmkiaaa.MWorld Go.Proofs.Ytainkpgplmkiaaa.Ev Go.Proofs.Ytainkpgplmkiaaa.Rg Go.Proofs.Ytainkpgplmkiaaa.Cook Go.Proofs.Ytainkpgplmkiaaa.HashDef Go.Proofs.Ytainkpgplmkiaaa.CookLow
set_option linter.unusedVariables false
set_option linter.unusedSimpArgs false
theorem round4w (v u : V4) (h : rnd (rnd (rnd (rnd v))) = u) (w : World) : Calls Try.prog 34 #[v.val, .int .i64 4] w fun e w' => e = .returned u.val ∧ Below w.heap.size w w' := by
  subst h; exact round4 v w
theorem take_w (v u : V4) (m : Int) (h : tk v m = u) (w : World) : Calls Try.prog 32 #[v.val, .int .u64 m] w fun e w' => e = .returned u.val ∧ Below w.heap.size w w' := by
  subst h; exact take_any v m w
theorem low_w (A : Option Addr) (c : Nat) (l : List Int) (m : Int) (n : Nat) (h : lowm l = m) (hn : l.length = n) (w : World) (hr : ReadsInt w .u8 A l.length l) (hc : l.length ≤ c) (hl : l.length < 1099511627776) : Calls Try.prog 33 #[.slice A n c] w fun e w' => e = .returned (.int .u64 m) ∧ Below w.heap.size w w' := by
  subst h hn; exact low_any A c l w hr hc hl
theorem inf8 : ∃ i, Try.prog.info? 5 = some i ∧ i.size = 1 := by
  have h : (Try.prog.info? 5).map (·.size) = some 1 := by kernel_rfl
  exact Option.map_eq_some_iff.1 h
set_option maxRecDepth 100000 in
set_option maxHeartbeats 8000000 in
theorem hash_any (sa sb : Int) (A : Option Addr) (c : Nat) (l : List Int) (w : World) (hr : ReadsInt w .u8 A l.length l) (hc : l.length ≤ c) (hl : l.length < 1099511627776) :
    Calls Try.prog 11 #[.agg #[.int .u64 sa, .int .u64 sb], .slice A l.length c] w fun e w' => e = .returned (.int .u64 (hsh sa sb l)) ∧ Below w.heap.size w w' := by
  have HR := Aside0.mk hr
  have HC := Aside0.mk hc
  have HL := Aside0.mk hl
  clear hr hc hl
  obtain ⟨x0, hx0⟩ : ∃ x : Int, bits .xor .u64 sa 8317987319222330741 = x := ⟨_, rfl⟩
  obtain ⟨x1, hx1⟩ : ∃ x : Int, bits .xor .u64 sb 7237128888997146477 = x := ⟨_, rfl⟩
  obtain ⟨x2, hx2⟩ : ∃ x : Int, bits .xor .u64 sa 7816392313619706465 = x := ⟨_, rfl⟩
  obtain ⟨x3, hx3⟩ : ∃ x : Int, bits .xor .u64 sb 8387220255154660723 = x := ⟨_, rfl⟩
  have hsm : ∀ en, hsh1 ⟨x0, x1, x2, x3⟩ l en = hsh1 ⟨bits .xor .u64 sa 8317987319222330741, bits .xor .u64 sb 7237128888997146477, bits .xor .u64 sa 7816392313619706465, bits .xor .u64 sb 8387220255154660723⟩ l en := fun en => by rw [hx0, hx1, hx2, hx3]
  have HSM := Aside0.mk hsm
  clear hsm
  go_enter Try.func11, Try.ntmps11
  go_upto_region 2 with (first | ((with_reducible refine gate_dst (N := 2) rfl ?_); refine box_event ?hg (N := 2) ?hd (cs := #[.int .u64 sa, .int .u64 sb]) (t := 24) ?hr ?_; (case hd => rfl); (case hg => rfl); (case hr => first | (go_simp; done) | (go_simp; rfl)); intro g2 hgg wx1 hbox hb; have Lg2 := Aside0.mk (show w.heap.size ≤ g2 by rw [hgg]; exact Nat.le_refl _); have HB_1 := Aside0.mk (hb); have Bg2_1 := Aside0.mk hbox; clear hbox hb hgg) | ((with_reducible refine gate_dst (N := 8) rfl ?_); refine load1_event rfl _ _ rfl g2 0 rfl _ _ _ _ Bg2_1.out rfl Try.underlying22 rfl ?_) | ((with_reducible refine gate_dst (N := 11) rfl ?_); refine load1_event rfl _ _ rfl g2 1 rfl _ _ _ _ Bg2_1.out rfl Try.underlying22 rfl ?_) | ((with_reducible refine gate_dst (N := 14) rfl ?_); refine load1_event rfl _ _ rfl g2 0 rfl _ _ _ _ Bg2_1.out rfl Try.underlying22 rfl ?_) | ((with_reducible refine gate_dst (N := 17) rfl ?_); refine load1_event rfl _ _ rfl g2 1 rfl _ _ _ _ Bg2_1.out rfl Try.underlying22 rfl ?_) | ((with_reducible refine gate_dst (N := 5) rfl ?_); refine box_event ?hg (N := 5) ?hd (cs := #[.int .u64 0, .int .u64 0, .int .u64 0, .int .u64 0]) (t := 82) ?hr ?_; (case hd => rfl); (case hg => rfl); (case hr => first | (go_simp; done) | (go_simp; rfl)); intro g5 hgg wx2 hbox hb; have Ng2g5 := Aside0.mk (show g2 ≠ g5 by rw [hgg]; exact Nat.ne_of_lt (blk_lt Bg2_1.out)); have Lg5 := Aside0.mk (show w.heap.size ≤ g5 by rw [hgg]; exact below_size HB_1.out); have HB_2 := Aside0.mk (below_step HB_1.out hb); clear HB_1; have Bg2_2 := Aside0.mk (blk_below Bg2_1.out hb); clear Bg2_1; have Bg5_2 := Aside0.mk hbox; clear hbox hb hgg) | ((with_reducible refine gate_store (t := 82) (p := 5) rfl ?_); refine store_event rfl 82 _ _ rfl g5 _ rfl rfl _ _ Bg5_2.out (by kernel_rfl) rfl rfl ?_; intro wx3 hst hu; have HB_3 := Aside0.mk (below_upd HB_2.out hu (below_size HB_2.out) (fun k hk => by cases hk; exact Lg5.out)); clear HB_2; have Bg2_3 := Aside0.mk (Upd.blk hu Bg2_2.out (One.not Ng2g5.out)); clear Bg2_2; have Bg5_3 := Aside0.mk hst; clear hst hu Bg5_2))
  go_upto_region 3 with (fail)
  clear hx0 hx1 hx2 hx3
  generalize hen : (IntKind.u64.wrap (IntKind.u64.wrap (l.length : Int) * 72057594037927936)) = en
  have HEN := Aside0.mk hen
  clear hen
  have HC0 : Aside0 (∃ va vb vc vd : Int, chunks ⟨x0, x1, x2, x3⟩ l 0 = ⟨va, vb, vc, vd⟩ ∧ wx3.heap[g5]? = some (.cells #[.int .u64 va, .int .u64 vb, .int .u64 vc, .int .u64 vd] 82 (0, 0))) := ⟨_, _, _, _, rfl, Bg5_3.out⟩
  go_loopw [1] (fun b wr => ∃ (k : Nat) (A' : Option Addr) (c' : Nat) (r : List Int), 8 * k ≤ l.length ∧ b = .slice A' r.length c' ∧ Aside0 (r = l.drop (8 * k) ∧ r.length ≤ c' ∧ ReadsInt w .u8 A' r.length r) ∧ Aside0 (∃ va vb vc vd : Int, chunks ⟨x0, x1, x2, x3⟩ l k = ⟨va, vb, vc, vd⟩ ∧ wr.heap[g5]? = some (.cells #[.int .u64 va, .int .u64 vb, .int .u64 vc, .int .u64 vd] 82 (0, 0))) ∧ Aside0 (Below w.heap.size w wr)) (fun b _ => match b with | .slice _ n _ => n | _ => 0)
  case atStart => exact ⟨0, A, c, l, by omega, rfl, ⟨by simp, HC.out, HR.out⟩, HC0, HB_3⟩
  case round =>
    clear HC0 Bg5_3 HB_3 HR HC
    obtain ⟨k, A', c', r, hk, rfl, HRR, HCC, HB⟩ := hrel
    obtain ⟨va, vb, vc, vd, hch, hblk⟩ := HCC.out
    have HCH := Aside0.mk hch
    have BG5 := Aside0.mk hblk
    clear HCC hch hblk
    have hrl : r.length = l.length - 8 * k := by rw [HRR.out.1, List.length_drop]
    by_cases h8 : 8 ≤ r.length
    case neg =>
      have hdn : ¬ (8 : Int) ≤ (r.length : Int) := by omega
      have hkl : k = l.length / 8 := by omega
      obtain ⟨lo, hlo⟩ : ∃ x : Int, lowm r = x := ⟨_, rfl⟩
      obtain ⟨mm, hmm⟩ : ∃ x : Int, bits .or .u64 lo en = x := ⟨_, rfl⟩
      obtain ⟨⟨ta, tb, tc, td⟩, htk⟩ : ∃ u : V4, tk ⟨va, vb, vc, vd⟩ mm = u := ⟨_, rfl⟩
      obtain ⟨tx, htx⟩ : ∃ x : Int, bits .xor .u64 tc 255 = x := ⟨_, rfl⟩
      obtain ⟨⟨ra, rb, rc, rd'⟩, hrd⟩ : ∃ u : V4, rnd (rnd (rnd (rnd ⟨ta, tb, tx, td⟩))) = u := ⟨_, rfl⟩
      have hfin : hsh sa sb l = bits .xor .u64 (bits .xor .u64 (bits .xor .u64 ra rb) rc) rd' := by
        unfold hsh
        rw [← HSM.out]
        unfold hsh1
        simp only [← hkl, HCH.out, ← HRR.out.1, hlo, HEN.out, hmm, htk, htx, hrd]
      have HFIN := Aside0.mk hfin
      have HLO := Aside0.mk hlo
      have HTK := Aside0.mk htk
      have HRD := Aside0.mk hrd
      have hlr : r.length < 1099511627776 := by have := HL.out; omega
      have HLR := Aside0.mk hlr
      clear hfin hlo htk hrd hkl hk hrl h8 hlr
      go_upto_region 6 with fail
      go_upto_region 6 with (fail)
      refine wp_region_rg_list 6 (by kernel_rfl) (fun x y => Below x.heap.size x y) (fun (i : Nat) (v : Value) (w1 : World) => match i with | 0 => v = (.agg #[.int .u64 va, .int .u64 vb, .int .u64 vc, .int .u64 vd]) | 1 => v = (.slice A' r.length c') | 2 => v = (.int .u64 lo) | 3 => v = (.int .u64 en) | 4 => v = (.int .u64 mm) | 5 => v = (.agg #[.int .u64 ta, .int .u64 tb, .int .u64 tc, .int .u64 td]) | _ => True) (by kernel_rfl) (by kernel_rfl) (by kernel_rfl) (by kernel_rfl) below_tr (Below.refl _ _).drew ?hJst1 ?hObl1 ?hEnd1
      case hJst1 =>
        intro i v wx wy hi hs0 hs1 hJi
        match i, hi with
        | 0, _ => exact hJi
        | 1, _ => exact hJi
        | 2, _ => exact hJi
        | 3, _ => exact hJi
        | 4, _ => exact hJi
        | 5, _ => exact hJi
        | _ + 6, hi => exact absurd hi (by simp)
      case hObl1 =>
        refine ⟨?_, ?_, ?_, ?_, ?_, ?_,  trivial⟩
        · intro listed vals a wq K hD hst hj haft hun hK
          have h5 := hD.out 5 rfl rfl
          replace hst : Below _ _ wq := hst
          clear hD hj haft hun
          have e5 := eval_of h5
          exact step_now (v := .agg #[.int .u64 va, .int .u64 vb, .int .u64 vc, .int .u64 vd]) (w' := wq) (wanted_free rfl) (rg_loadall rfl e5 (blk_below BG5.out hst) Try.underlying82 rfl (by kernel_rfl)) (hK _ _ (Below.refl _ _) rfl)
        · intro listed vals a wq K hD hst hj haft hun hK
          have h1 := hD.out 1 rfl rfl
          clear hD hj haft hun
          have e1 := eval_of h1
          refine step_now (v := .slice A' r.length c') (w' := wq) (wanted_free rfl) ?_ (hK _ _ (Below.refl _ _) rfl)
          clear hK
          first | (go_simp; done) | (go_simp; rfl)
        · intro listed vals a wq K hD hst hj haft hun hK
          obtain ⟨v35, h35, j35⟩ := hD.dep hj haft 1 35 rfl rfl
          replace j35 : v35 = (.slice A' r.length c') := j35
          subst j35
          replace hst : Below _ _ wq := hst
          clear hD hj haft hun
          have e35 := eval_of h35
          refine step_call (f := 33) (args := #[.slice A' r.length c']) (wanted_free rfl) ?_ (low_w A' c' r lo _ HLO.out rfl wq (HRR.out.2.2.below (below_step HB.out hst)) HRR.out.2.1 HLR.out) ?_
          · clear hK; first | (go_simp; done) | (go_simp; rfl)
          · rintro e w' ⟨rfl, hbq⟩; exact ⟨_, rfl, hK _ _ hbq rfl⟩
        · intro listed vals a wq K hD hst hj haft hun hK
          have h6 := hD.out 6 rfl rfl
          clear hD hj haft hun
          have e6 := eval_of h6
          refine step_now (v := .int .u64 en) (w' := wq) (wanted_free rfl) ?_ (hK _ _ (Below.refl _ _) rfl)
          clear hK
          first | (go_simp; done) | (go_simp; rfl) | (go_simp; (try simp only [IntKind.wrap_u32]); omega)
        · intro listed vals a wq K hD hst hj haft hun hK
          obtain ⟨v36, h36, j36⟩ := hD.dep hj haft 2 36 rfl rfl
          replace j36 : v36 = (.int .u64 lo) := j36
          subst j36
          obtain ⟨v37, h37, j37⟩ := hD.dep hj haft 3 37 rfl rfl
          replace j37 : v37 = (.int .u64 en) := j37
          subst j37
          clear hD hj haft hun
          have e36 := eval_of h36
          have e37 := eval_of h37
          refine step_now (v := .int .u64 mm) (w' := wq) (wanted_free rfl) ?_ (hK _ _ (Below.refl _ _) rfl)
          clear hK
          first | (go_simp; done) | (go_simp; rfl) | (go_simp; (try simp only [IntKind.wrap_u32]); omega)
        · intro listed vals a wq K hD hst hj haft hun hK
          obtain ⟨v34, h34, j34⟩ := hD.dep hj haft 0 34 rfl rfl
          replace j34 : v34 = (.agg #[.int .u64 va, .int .u64 vb, .int .u64 vc, .int .u64 vd]) := j34
          subst j34
          obtain ⟨v38, h38, j38⟩ := hD.dep hj haft 4 38 rfl rfl
          replace j38 : v38 = (.int .u64 mm) := j38
          subst j38
          clear hD hj haft hun
          have e34 := eval_of h34
          have e38 := eval_of h38
          refine step_call (f := 32) (args := #[.agg #[.int .u64 va, .int .u64 vb, .int .u64 vc, .int .u64 vd], .int .u64 mm]) (wanted_free rfl) ?_ (take_w ⟨va, vb, vc, vd⟩ ⟨ta, tb, tc, td⟩ mm HTK.out wq) ?_
          · clear hK; first | (go_simp; done) | (go_simp; rfl)
          · rintro e w' ⟨rfl, hbq⟩; exact ⟨_, rfl, hK _ _ hbq rfl⟩
      intro vals wend hst hj
      have j0 : vals 0 = (.agg #[.int .u64 va, .int .u64 vb, .int .u64 vc, .int .u64 vd]) := hj 0 (by decide)
      have j1 : vals 1 = (.slice A' r.length c') := hj 1 (by decide)
      have j2 : vals 2 = (.int .u64 lo) := hj 2 (by decide)
      have j3 : vals 3 = (.int .u64 en) := hj 3 (by decide)
      have j4 : vals 4 = (.int .u64 mm) := hj 4 (by decide)
      have j5 : vals 5 = (.agg #[.int .u64 ta, .int .u64 tb, .int .u64 tc, .int .u64 td]) := hj 5 (by decide)
      replace hst : Below _ _ wend := hst
      clear hj
      simp only [List.take_succ_cons, List.take_zero, List.drop_succ_cons, List.drop_zero, putL, Act.put, List.setIfInBounds_toArray, List.set_cons_zero, List.set_cons_succ, j0, j1, j2, j3, j4, j5]
      clear j0 j1 j2 j3 j4 j5
      have HB_51 := Aside0.mk (below_step HB.out hst)
      clear HB
      have Bg5_51 := Aside0.mk (blk_below BG5.out hst)
      clear BG5
      clear hst
      go_upto_region 7 with (first | ((with_reducible refine gate_store (t := 82) (p := 5) rfl ?_); refine store_event rfl 82 _ _ rfl g5 _ rfl rfl _ _ Bg5_51.out (by kernel_rfl) rfl rfl ?_; intro wx52 hst hu; have HB_52 := Aside0.mk (below_upd HB_51.out hu (below_size HB_51.out) (fun k hk => by cases hk; exact Lg5.out)); clear HB_51; have Bg5_52 := Aside0.mk hst; clear hst hu Bg5_51))
      go_upto_region 8 with (first | ((with_reducible refine gate_dst (N := 41) rfl ?_); refine load1_event rfl _ _ rfl g5 2 rfl _ _ _ _ Bg5_52.out rfl Try.underlying22 rfl ?_) | ((with_reducible refine gate_store (t := 22) (p := 43) rfl ?_); refine store1_event rfl _ _ _ rfl g5 2 rfl (.int .u64 tx) _ ?hy _ _ #[.int .u64 ta, .int .u64 tb, .int .u64 tx, .int .u64 td] Bg5_52.out rfl (by kernel_rfl) rfl rfl rfl ?_; (case hy => first | (with_reducible rfl) | rfl | (refine congrArg (Value.int _) ?_; omega)); intro wx53 hst hu; have HB_53 := Aside0.mk (below_upd HB_52.out hu (below_size HB_52.out) (fun k hk => by cases hk; exact Lg5.out)); clear HB_52; have Bg5_53 := Aside0.mk hst; clear hst hu Bg5_52))
      go_upto_region 9 with (first | ((with_reducible refine gate_dst (N := 44) rfl ?_); refine load_event rfl 82 _ rfl g5 rfl _ _ _ Bg5_53.out Try.underlying82 rfl (by kernel_rfl) ?_) | (go_at_call 34; refine (round4w ⟨ta, tb, tx, td⟩ ⟨ra, rb, rc, rd'⟩ HRD.out _).mono ?_; rintro e wx54 ⟨rfl, hb⟩; have HB_54 := Aside0.mk (below_step HB_53.out hb); clear HB_53; have Bg5_54 := Aside0.mk (blk_below Bg5_53.out hb); clear Bg5_53; clear hb) | ((with_reducible refine gate_store (t := 82) (p := 5) rfl ?_); refine store_event rfl 82 _ _ rfl g5 _ rfl rfl _ _ Bg5_54.out (by kernel_rfl) rfl rfl ?_; intro wx55 hst hu; have HB_55 := Aside0.mk (below_upd HB_54.out hu (below_size HB_54.out) (fun k hk => by cases hk; exact Lg5.out)); clear HB_54; have Bg5_55 := Aside0.mk hst; clear hst hu Bg5_54))
      go_wp2_with (first | ((with_reducible refine gate_dst (N := 47) rfl ?_); refine load1_event rfl _ _ rfl g5 0 rfl _ _ _ _ Bg5_55.out rfl Try.underlying22 rfl ?_) | ((with_reducible refine gate_dst (N := 49) rfl ?_); refine load1_event rfl _ _ rfl g5 1 rfl _ _ _ _ Bg5_55.out rfl Try.underlying22 rfl ?_) | ((with_reducible refine gate_dst (N := 52) rfl ?_); refine load1_event rfl _ _ rfl g5 2 rfl _ _ _ _ Bg5_55.out rfl Try.underlying22 rfl ?_) | ((with_reducible refine gate_dst (N := 55) rfl ?_); refine load1_event rfl _ _ rfl g5 3 rfl _ _ _ _ Bg5_55.out rfl Try.underlying22 rfl ?_))
      go_ret
      exact ⟨by rw [HFIN.out]; rfl, HB_55.out⟩
    have hup : (8 : Int) ≤ (r.length : Int) := by omega
    obtain ⟨lo, hlo⟩ : ∃ x : Int, lowm (r.take 8) = x := ⟨_, rfl⟩
    obtain ⟨⟨ta, tb, tc, td⟩, htk⟩ : ∃ u : V4, tk ⟨va, vb, vc, vd⟩ lo = u := ⟨_, rfl⟩
    have HNX : Aside0 (chunks ⟨x0, x1, x2, x3⟩ l (k + 1) = ⟨ta, tb, tc, td⟩) := ⟨by rw [chunks, HCH.out, ← HRR.out.1, hlo, htk]⟩
    have HLO := Aside0.mk hlo
    have HTK := Aside0.mk htk
    have HT8 := Aside0.mk (show (r.take 8).length = 8 by rw [List.length_take]; omega)
    obtain ⟨i8, hi8, hz8⟩ := inf8
    have hsl := (print_take_int (k := .u8) (P := Try.prog) 25 5 Try.underlying25 hi8 hz8 A' c' r 8 (by decide) (by omega) HRR.out.2.1)
    have hd2 := ReadsInt.drop_ HRR.out.2.2 8 h8 HRR.out.2.1
    have HRT := Aside0.mk (hsl.2.1 w HRR.out.2.2)
    have HRD : Aside0 (ReadsInt w .u8 (if c' = 8 then A' else Option.map (fun x => (⟨x.block, x.off + 8, none⟩ : Addr)) A') (r.length - 8) (r.drop 8)) := ⟨by simpa [Addr.add] using hd2⟩
    have hs1 := hsl.1
    rw [show (8 : Int).toNat = 8 from rfl, HT8.out] at hs1
    have H8 := Aside0.mk h8
    have HK := Aside0.mk hk
    have HRL := Aside0.mk hrl
    clear hlo htk hk hrl h8 hsl hd2 hi8 hz8
    go_upto_region 5 with fail
    go_upto_region 5 with (fail)
    refine wp_region_rg_list 5 (by kernel_rfl) (fun x y => Below x.heap.size x y) (fun (i : Nat) (v : Value) (w1 : World) => match i with | 0 => v = (.agg #[.int .u64 va, .int .u64 vb, .int .u64 vc, .int .u64 vd]) | 1 => v = (.slice A' r.length c') | 2 => v = (.slice A' 8 c') | 3 => v = (.int .u64 lo) | 4 => v = (.agg #[.int .u64 ta, .int .u64 tb, .int .u64 tc, .int .u64 td]) | _ => True) (by kernel_rfl) (by kernel_rfl) (by kernel_rfl) (by kernel_rfl) below_tr (Below.refl _ _).drew ?hJst2 ?hObl2 ?hEnd2
    case hJst2 =>
      intro i v wx wy hi hs0 hs1 hJi
      match i, hi with
      | 0, _ => exact hJi
      | 1, _ => exact hJi
      | 2, _ => exact hJi
      | 3, _ => exact hJi
      | 4, _ => exact hJi
      | _ + 5, hi => exact absurd hi (by simp)
    case hObl2 =>
      refine ⟨?_, ?_, ?_, ?_, ?_,  trivial⟩
      · intro listed vals a wq K hD hst hj haft hun hK
        have h5 := hD.out 5 rfl rfl
        replace hst : Below _ _ wq := hst
        clear hD hj haft hun
        have e5 := eval_of h5
        exact step_now (v := .agg #[.int .u64 va, .int .u64 vb, .int .u64 vc, .int .u64 vd]) (w' := wq) (wanted_free rfl) (rg_loadall rfl e5 (blk_below BG5.out hst) Try.underlying82 rfl (by kernel_rfl)) (hK _ _ (Below.refl _ _) rfl)
      · intro listed vals a wq K hD hst hj haft hun hK
        have h1 := hD.out 1 rfl rfl
        clear hD hj haft hun
        have e1 := eval_of h1
        refine step_now (v := .slice A' r.length c') (w' := wq) (wanted_free rfl) ?_ (hK _ _ (Below.refl _ _) rfl)
        clear hK
        first | (go_simp; done) | (go_simp; rfl)
      · intro listed vals a wq K hD hst hj haft hun hK
        obtain ⟨v30, h30, j30⟩ := hD.dep hj haft 1 30 rfl rfl
        replace j30 : v30 = (.slice A' r.length c') := j30
        subst j30
        clear hD hj haft hun
        have e30 := eval_of h30
        refine step_now (v := .slice A' 8 c') (w' := wq) (wanted_free rfl) ?_ (hK _ _ (Below.refl _ _) rfl)
        clear hK
        first | (go_simp; done) | (go_simp; rfl)
      · intro listed vals a wq K hD hst hj haft hun hK
        obtain ⟨v31, h31, j31⟩ := hD.dep hj haft 2 31 rfl rfl
        replace j31 : v31 = (.slice A' 8 c') := j31
        subst j31
        replace hst : Below _ _ wq := hst
        clear hD hj haft hun
        have e31 := eval_of h31
        refine step_call (f := 33) (args := #[.slice A' 8 c']) (wanted_free rfl) ?_ (low_w A' c' (r.take 8) lo 8 HLO.out HT8.out wq (HRT.out.below (below_step HB.out hst)) (by rw [HT8.out]; have := H8.out; have := HRR.out.2.1; omega) (by rw [HT8.out]; decide)) ?_
        · clear hK; first | (go_simp; done) | (go_simp; rfl)
        · rintro e w' ⟨rfl, hbq⟩; exact ⟨_, rfl, hK _ _ hbq rfl⟩
      · intro listed vals a wq K hD hst hj haft hun hK
        obtain ⟨v29, h29, j29⟩ := hD.dep hj haft 0 29 rfl rfl
        replace j29 : v29 = (.agg #[.int .u64 va, .int .u64 vb, .int .u64 vc, .int .u64 vd]) := j29
        subst j29
        obtain ⟨v32, h32, j32⟩ := hD.dep hj haft 3 32 rfl rfl
        replace j32 : v32 = (.int .u64 lo) := j32
        subst j32
        clear hD hj haft hun
        have e29 := eval_of h29
        have e32 := eval_of h32
        refine step_call (f := 32) (args := #[.agg #[.int .u64 va, .int .u64 vb, .int .u64 vc, .int .u64 vd], .int .u64 lo]) (wanted_free rfl) ?_ (take_w ⟨va, vb, vc, vd⟩ ⟨ta, tb, tc, td⟩ lo HTK.out wq) ?_
        · clear hK; first | (go_simp; done) | (go_simp; rfl)
        · rintro e w' ⟨rfl, hbq⟩; exact ⟨_, rfl, hK _ _ hbq rfl⟩
    intro vals wend hst hj
    have j0 : vals 0 = (.agg #[.int .u64 va, .int .u64 vb, .int .u64 vc, .int .u64 vd]) := hj 0 (by decide)
    have j1 : vals 1 = (.slice A' r.length c') := hj 1 (by decide)
    have j2 : vals 2 = (.slice A' 8 c') := hj 2 (by decide)
    have j3 : vals 3 = (.int .u64 lo) := hj 3 (by decide)
    have j4 : vals 4 = (.agg #[.int .u64 ta, .int .u64 tb, .int .u64 tc, .int .u64 td]) := hj 4 (by decide)
    replace hst : Below _ _ wend := hst
    clear hj
    simp only [List.take_succ_cons, List.take_zero, List.drop_succ_cons, List.drop_zero, putL, Act.put, List.setIfInBounds_toArray, List.set_cons_zero, List.set_cons_succ, j0, j1, j2, j3, j4]
    clear j0 j1 j2 j3 j4
    have HB_51 := Aside0.mk (below_step HB.out hst)
    clear HB
    have Bg5_51 := Aside0.mk (blk_below BG5.out hst)
    clear BG5
    clear hst
    go_wp2_with (first | ((with_reducible refine gate_store (t := 82) (p := 5) rfl ?_); refine store_event rfl 82 _ _ rfl g5 _ rfl rfl _ _ Bg5_51.out (by kernel_rfl) rfl rfl ?_; intro wx52 hst hu; have HB_52 := Aside0.mk (below_upd HB_51.out hu (below_size HB_51.out) (fun k hk => by cases hk; exact Lg5.out)); clear HB_51; have Bg5_52 := Aside0.mk hst; clear hst hu Bg5_51))
    go_roundw
    case rel => exact ⟨k + 1, _, c' - 8, r.drop 8, by have := H8.out; have := HRL.out; omega, by rw [List.length_drop], ⟨by rw [HRR.out.1, List.drop_drop, Nat.mul_succ], by rw [List.length_drop]; have := HRR.out.2.1; omega, by rw [List.length_drop]; exact HRD.out⟩, ⟨ta, tb, tc, td, HNX.out, Bg5_52.out⟩, HB_52⟩
    case measure => have := H8.out; simp only []; omega
end Go.Proofs.Ytainkpgplmkiaaa.CookHash
