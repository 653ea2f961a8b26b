/- cookie's low; the reference's Hash: contracts. No condition but the length. -/
import Derived.Test.YtainkpgplmkiaaaHashDef
namespace Go.Proofs.Ytainkpgplmkiaaa.CookLow
open Go Go.RowKit Go.Proofs.YtainkpgplmkiaaaW.PrintWords Go.Proofs.YtainkpgplmkiaaaW.PrintLast Go.Proofs.YtainkpgplmkiaaaW.PrintMore Go.Proofs.Ytainkpgplmkiaaa.MWorld Go.Proofs.Ytainkpgplmkiaaa.Ev Go.Proofs.Ytainkpgplmkiaaa.Rg Go.Proofs.Ytainkpgplmkiaaa.Cook Go.Proofs.Ytainkpgplmkiaaa.HashDef
set_option linter.unusedVariables false
set_option linter.unusedSimpArgs false
set_option maxRecDepth 100000 in
set_option maxHeartbeats 8000000 in
/-- bytes as a number: the program's low. -/
theorem low_any (A : Option Addr) (c : Nat) (l : List Int) (w : World) (hr : ReadsInt w .u8 A l.length l) (hc : l.length ≤ c) (hl : l.length < 1099511627776) : Calls Try.prog 33 #[.slice A l.length c] w fun e w' => e = .returned (.int .u64 (lowm l)) ∧ Below w.heap.size w w' := by
  have HR := Aside0.mk hr
  have HL := Aside0.mk hl
  clear hr hc hl
  go_enter Try.func33, Try.ntmps33
  go_upto_region 3 with fail
  go_loopw [3, 4, 5, 8] (fun v3 v4 v5 v8 wr => ∃ (j : Nat) (n : Int), j ≤ l.length ∧ v3 = .int .u64 n ∧ v8 = .int .i64 (j : Int) ∧ Aside0 (lowp l j = n) ∧ w = wr) (fun _ _ _ v8 _ => l.length - (intOf v8).toNat)
  case atStart => exact ⟨0, 0, by omega, rfl, rfl, ⟨rfl⟩, rfl⟩
  case round =>
    obtain ⟨j, n, hj, rfl, rfl, HN, rfl⟩ := hrel
    by_cases hlt : j < l.length
    case neg =>
      obtain rfl : j = l.length := by omega
      go_wp2
      go_ret
      exact ⟨by rw [show lowm l = n from HN.out]; rfl, Below.refl _ _⟩
    obtain ⟨ad, rfl, hcell⟩ := HR.out.at_ (j : Int) (by omega) (by omega)
    simp only [Int.toNat_natCast] at hcell
    have HLT := Aside0.mk hlt
    have hltd : decide ((j : Int) < (l.length : Int)) = true := decide_eq_true (by omega)
    have hk1 : IntKind.i64.wrap ((j : Int) + 1) = (j : Int) + 1 := by have := HL.out; rw [IntKind.wrap_i64]; omega
    obtain ⟨s8, hs8⟩ : ∃ s : Int, IntKind.i64.wrap (8 * (j : Int)) = s := ⟨_, rfl⟩
    have hs8' : s8 = 8 * (j : Int) := by have := HL.out; rw [← hs8, IntKind.wrap_i64]; omega
    have hsT : (0 ≤ s8) = True := eq_true (by omega)
    have hsD : decide (0 ≤ s8) = true := decide_eq_true (by omega)
    obtain ⟨cc, hcc⟩ : ∃ x : Int, IntKind.u64.wrap (rd l j) = x := ⟨_, rfl⟩
    obtain ⟨q, hq⟩ : ∃ q : Int, IntKind.u64.wrap (cc * 2 ^ min s8.toNat 64) = q := ⟨_, rfl⟩
    have hqz : s8 ≤ 64 → IntKind.u64.wrap (cc * 2 ^ s8.toNat) = q := fun h => by rw [← hq, show min s8.toNat 64 = s8.toNat by omega]
    obtain ⟨n2, hn2⟩ : ∃ q2 : Int, bits .or .u64 n q = q2 := ⟨_, rfl⟩
    have HN2 : Aside0 (lowp l (j + 1) = n2) := ⟨by rw [lowp, HN.out, hcc, ← hn2, ← hq, show s8.toNat = 8 * j by omega]⟩
    clear hs8' hj
    go_wp2
    go_roundw
    case rel => exact ⟨j + 1, n2, by have := HLT.out; omega, by go_num, by go_num, HN2, by first | rfl | trivial⟩
    case measure => have := HLT.out; simp [intOf]; omega
theorem rround_l (a b c d a' b' c' d' : Int) (h : rnd ⟨a, b, c, d⟩ = ⟨a', b', c', d'⟩) (w : World) : Calls Try.prog 36 #[.agg #[.int .u64 a, .int .u64 b, .int .u64 c, .int .u64 d]] w fun e w' => e = .returned (.agg #[.int .u64 a', .int .u64 b', .int .u64 c', .int .u64 d']) ∧ Below w.heap.size w w' :=
  rround_w ⟨a, b, c, d⟩ ⟨a', b', c', d'⟩ h w
theorem rtake_l (a b c d m a' b' c' d' : Int) (h : tk ⟨a, b, c, d⟩ m = ⟨a', b', c', d'⟩) (w : World) : Calls Try.prog 35 #[.agg #[.int .u64 a, .int .u64 b, .int .u64 c, .int .u64 d], .int .u64 m] w fun e w' => e = .returned (.agg #[.int .u64 a', .int .u64 b', .int .u64 c', .int .u64 d']) ∧ Below w.heap.size w w' := by
  have := rtake_any ⟨a, b, c, d⟩ m w
  rw [h] at this
  exact this
theorem en_eq (n : Nat) : IntKind.u64.wrap (IntKind.u64.wrap (n : Int) * 72057594037927936) = ((n : Int) % 256) * 72057594037927936 := by
  rw [IntKind.wrap_u64, IntKind.wrap_u64]
  omega
set_option maxRecDepth 100000 in
set_option maxHeartbeats 8000000 in
/-- The reference's Hash. -/
theorem rhash_any (sa sb : Int) (A : Option Addr) (c : Nat) (l : List Int) (w : World) (hr : ReadsInt w .u8 A l.length l) (hc : l.length ≤ c) (hl : l.length < 1099511627776) :
    Calls Try.prog 12 #[.agg #[.int .u64 sa, .int .u64 sb], .slice A l.length c] w fun e w' => e = .returned (.int .u64 (hsh sa sb l)) ∧ Below w.heap.size w w' := by
  have HR := Aside0.mk hr
  have HL := Aside0.mk hl
  clear hr hc hl
  obtain ⟨x0, hx0⟩ : ∃ x : Int, bits .xor .u64 sa 8317987319222330741 = x := ⟨_, rfl⟩
  obtain ⟨x1, hx1⟩ : ∃ x : Int, bits .xor .u64 sb 7237128888997146477 = x := ⟨_, rfl⟩
  obtain ⟨x2, hx2⟩ : ∃ x : Int, bits .xor .u64 sa 7816392313619706465 = x := ⟨_, rfl⟩
  obtain ⟨x3, hx3⟩ : ∃ x : Int, bits .xor .u64 sb 8387220255154660723 = x := ⟨_, rfl⟩
  have hsm : ∀ en, hsh1 ⟨x0, x1, x2, x3⟩ l en = hsh1 ⟨bits .xor .u64 sa 8317987319222330741, bits .xor .u64 sb 7237128888997146477, bits .xor .u64 sa 7816392313619706465, bits .xor .u64 sb 8387220255154660723⟩ l en := fun en => by rw [hx0, hx1, hx2, hx3]
  have HSM := Aside0.mk hsm
  clear hsm
  go_enter Try.func12, Try.ntmps12
  go_upto_region 2 with (first | ((with_reducible refine gate_dst (N := 2) rfl ?_); refine box_event ?hg (N := 2) ?hd (cs := #[.int .u64 sa, .int .u64 sb]) (t := 30) ?hr ?_; (case hd => rfl); (case hg => rfl); (case hr => first | (go_simp; done) | (go_simp; rfl)); intro g2 hgg wx1 hbox hb; have Lg2 := Aside0.mk (show w.heap.size ≤ g2 by rw [hgg]; exact Nat.le_refl _); have HB_1 := Aside0.mk (hb); have Bg2_1 := Aside0.mk hbox; clear hbox hb hgg) | ((with_reducible refine gate_dst (N := 9) rfl ?_); refine load1_event rfl _ _ rfl g2 0 rfl _ _ _ _ Bg2_1.out rfl Try.underlying22 rfl ?_) | ((with_reducible refine gate_dst (N := 12) rfl ?_); refine load1_event rfl _ _ rfl g2 1 rfl _ _ _ _ Bg2_1.out rfl Try.underlying22 rfl ?_) | ((with_reducible refine gate_dst (N := 15) rfl ?_); refine load1_event rfl _ _ rfl g2 0 rfl _ _ _ _ Bg2_1.out rfl Try.underlying22 rfl ?_) | ((with_reducible refine gate_dst (N := 18) rfl ?_); refine load1_event rfl _ _ rfl g2 1 rfl _ _ _ _ Bg2_1.out rfl Try.underlying22 rfl ?_) | ((with_reducible refine gate_dst (N := 5) rfl ?_); refine box_event ?hg (N := 5) ?hd (cs := #[.int .u64 0, .int .u64 0, .int .u64 0, .int .u64 0]) (t := 88) ?hr ?_; (case hd => rfl); (case hg => rfl); (case hr => first | (go_simp; done) | (go_simp; rfl)); intro g5 hgg wx2 hbox hb; have Ng2g5 := Aside0.mk (show g2 ≠ g5 by rw [hgg]; exact Nat.ne_of_lt (blk_lt Bg2_1.out)); have Lg5 := Aside0.mk (show w.heap.size ≤ g5 by rw [hgg]; exact below_size HB_1.out); have HB_2 := Aside0.mk (below_step HB_1.out hb); clear HB_1; have Bg2_2 := Aside0.mk (blk_below Bg2_1.out hb); clear Bg2_1; have Bg5_2 := Aside0.mk hbox; clear hbox hb hgg) | ((with_reducible refine gate_store (t := 88) (p := 5) rfl ?_); refine store_event rfl 88 _ _ rfl g5 _ rfl rfl _ _ Bg5_2.out (by kernel_rfl) rfl rfl ?_; intro wx3 hst hu; have HB_3 := Aside0.mk (below_upd HB_2.out hu (below_size HB_2.out) (fun k hk => by cases hk; exact Lg5.out)); clear HB_2; have Bg2_3 := Aside0.mk (Upd.blk hu Bg2_2.out (One.not Ng2g5.out)); clear Bg2_2; have Bg5_3 := Aside0.mk hst; clear hst hu Bg5_2))
  go_upto_region 4 with fail
  clear hx0 hx1 hx2 hx3
  have HC0 : Aside0 (∃ va vb vc vd : Int, chunks ⟨x0, x1, x2, x3⟩ l 0 = ⟨va, vb, vc, vd⟩ ∧ wx3.heap[g5]? = some (.cells #[.int .u64 va, .int .u64 vb, .int .u64 vc, .int .u64 vd] 88 (0, 0))) := ⟨_, _, _, _, rfl, Bg5_3.out⟩
  go_loopw [6, 7] (fun m i wr => ∃ (k : Nat) (mm : Int), k ≤ l.length ∧ m = .int .u64 mm ∧ i = .int .i64 (k : Int) ∧ Aside0 (lowp (l.drop (8 * (k / 8))) (k % 8) = mm) ∧ Aside0 (∃ va vb vc vd : Int, chunks ⟨x0, x1, x2, x3⟩ l (k / 8) = ⟨va, vb, vc, vd⟩ ∧ wr.heap[g5]? = some (.cells #[.int .u64 va, .int .u64 vb, .int .u64 vc, .int .u64 vd] 88 (0, 0))) ∧ Aside0 (Below w.heap.size w wr)) (fun _ i _ => l.length - (intOf i).toNat)
  case atStart => exact ⟨0, 0, by omega, rfl, rfl, ⟨rfl⟩, HC0, HB_3⟩
  case round =>
    clear HC0 Bg5_3 HB_3
    obtain ⟨k, mm, hk, rfl, rfl, HMM, HCC, HB⟩ := hrel
    obtain ⟨va, vb, vc, vd, hch, hblk⟩ := HCC.out
    have HCH := Aside0.mk hch
    have BG5 := Aside0.mk hblk
    clear HCC hch hblk
    by_cases hlt : k < l.length
    case neg =>
      obtain rfl : k = l.length := by omega
      obtain ⟨en, hen⟩ : ∃ x : Int, IntKind.u64.wrap (IntKind.u64.wrap (l.length : Int) * 72057594037927936) = x := ⟨_, rfl⟩
      have hen2 : ((l.length : Int) % 256) * 72057594037927936 = en := by rw [← hen, en_eq]
      obtain ⟨m2, hm2⟩ : ∃ x : Int, bits .or .u64 mm en = x := ⟨_, rfl⟩
      obtain ⟨⟨ta, tb, tc, td⟩, htk⟩ : ∃ u : V4, tk ⟨va, vb, vc, vd⟩ m2 = u := ⟨_, rfl⟩
      obtain ⟨tx, htx⟩ : ∃ x : Int, bits .xor .u64 tc 255 = x := ⟨_, rfl⟩
      obtain ⟨⟨a1, b1, c1, d1⟩, h1⟩ : ∃ u : V4, rnd ⟨ta, tb, tx, td⟩ = u := ⟨_, rfl⟩
      obtain ⟨⟨a2, b2, c2, d2⟩, h2⟩ : ∃ u : V4, rnd ⟨a1, b1, c1, d1⟩ = u := ⟨_, rfl⟩
      obtain ⟨⟨a3, b3, c3, d3⟩, h3⟩ : ∃ u : V4, rnd ⟨a2, b2, c2, d2⟩ = u := ⟨_, rfl⟩
      obtain ⟨⟨ra, rb, rc, re⟩, h4⟩ : ∃ u : V4, rnd ⟨a3, b3, c3, d3⟩ = u := ⟨_, rfl⟩
      have hlm : lowm (l.drop (8 * (l.length / 8))) = mm := by
        rw [← HMM.out]; unfold lowm; rw [List.length_drop, show l.length - 8 * (l.length / 8) = l.length % 8 by omega]
      have hfin : hsh sa sb l = bits .xor .u64 (bits .xor .u64 (bits .xor .u64 ra rb) rc) re := by
        unfold hsh
        rw [← HSM.out]
        unfold hsh1
        simp only [HCH.out, hlm, hen, hm2, htk, htx, h1, h2, h3, h4]
      have HFIN := Aside0.mk hfin
      have HTK := Aside0.mk htk
      have H1 := Aside0.mk h1
      have H2 := Aside0.mk h2
      have H3 := Aside0.mk h3
      have H4 := Aside0.mk h4
      clear hfin htk h1 h2 h3 h4 hlm hen hk hlt
      go_upto_region 11 with (first | ((with_reducible refine gate_dst (N := 44) rfl ?_); refine load_event rfl 88 _ rfl g5 rfl _ _ _ BG5.out Try.underlying88 rfl (by kernel_rfl) ?_) | (go_at_call 35; refine (rtake_l va vb vc vd m2 ta tb tc td HTK.out _).mono ?_; rintro e wx51 ⟨rfl, hb⟩; have HB_51 := Aside0.mk (below_step HB.out hb); clear HB; have Bg5_51 := Aside0.mk (blk_below BG5.out hb); clear BG5; clear hb) | ((with_reducible refine gate_store (t := 88) (p := 5) rfl ?_); refine store_event rfl 88 _ _ rfl g5 _ rfl rfl _ _ Bg5_51.out (by kernel_rfl) rfl rfl ?_; intro wx52 hst hu; have HB_52 := Aside0.mk (below_upd HB_51.out hu (below_size HB_51.out) (fun k hk => by cases hk; exact Lg5.out)); clear HB_51; have Bg5_52 := Aside0.mk hst; clear hst hu Bg5_51))
      go_upto_region 12 with (first | ((with_reducible refine gate_dst (N := 54) rfl ?_); refine load1_event rfl _ _ rfl g5 2 rfl _ _ _ _ Bg5_52.out rfl Try.underlying22 rfl ?_) | ((with_reducible refine gate_store (t := 22) (p := 56) rfl ?_); refine store1_event rfl _ _ _ rfl g5 2 rfl (.int .u64 tx) _ ?hy _ _ #[.int .u64 ta, .int .u64 tb, .int .u64 tx, .int .u64 td] Bg5_52.out rfl (by kernel_rfl) rfl rfl rfl ?_; (case hy => first | (with_reducible rfl) | rfl | (refine congrArg (Value.int _) ?_; omega)); intro wx53 hst hu; have HB_53 := Aside0.mk (below_upd HB_52.out hu (below_size HB_52.out) (fun k hk => by cases hk; exact Lg5.out)); clear HB_52; have Bg5_53 := Aside0.mk hst; clear hst hu Bg5_52))
      go_upto_region 13 with (first | ((with_reducible refine gate_dst (N := 57) rfl ?_); refine load_event rfl 88 _ rfl g5 rfl _ _ _ Bg5_53.out Try.underlying88 rfl (by kernel_rfl) ?_) | (go_at_call 36; with_reducible refine (rround_l ta tb tx td a1 b1 c1 d1 H1.out _).mono ?_; rintro e wx54 ⟨rfl, hb⟩; have HB_54 := Aside0.mk (below_step HB_53.out hb); clear HB_53; have Bg5_54 := Aside0.mk (blk_below Bg5_53.out hb); clear Bg5_53; clear hb) | (go_at_call 36; with_reducible refine (rround_l a1 b1 c1 d1 a2 b2 c2 d2 H2.out _).mono ?_; rintro e wx55 ⟨rfl, hb⟩; have HB_55 := Aside0.mk (below_step HB_54.out hb); clear HB_54; have Bg5_55 := Aside0.mk (blk_below Bg5_54.out hb); clear Bg5_54; clear hb) | (go_at_call 36; with_reducible refine (rround_l a2 b2 c2 d2 a3 b3 c3 d3 H3.out _).mono ?_; rintro e wx56 ⟨rfl, hb⟩; have HB_56 := Aside0.mk (below_step HB_55.out hb); clear HB_55; have Bg5_56 := Aside0.mk (blk_below Bg5_55.out hb); clear Bg5_55; clear hb) | (go_at_call 36; with_reducible refine (rround_l a3 b3 c3 d3 ra rb rc re H4.out _).mono ?_; rintro e wx57 ⟨rfl, hb⟩; have HB_57 := Aside0.mk (below_step HB_56.out hb); clear HB_56; have Bg5_57 := Aside0.mk (blk_below Bg5_56.out hb); clear Bg5_56; clear hb) | ((with_reducible refine gate_store (t := 88) (p := 5) rfl ?_); refine store_event rfl 88 _ _ rfl g5 _ rfl rfl _ _ Bg5_57.out (by kernel_rfl) rfl rfl ?_; intro wx58 hst hu; have HB_58 := Aside0.mk (below_upd HB_57.out hu (below_size HB_57.out) (fun k hk => by cases hk; exact Lg5.out)); clear HB_57; have Bg5_58 := Aside0.mk hst; clear hst hu Bg5_57))
      go_wp2_with (first | ((with_reducible refine gate_dst (N := 63) rfl ?_); refine load1_event rfl _ _ rfl g5 0 rfl _ _ _ _ Bg5_58.out rfl Try.underlying22 rfl ?_) | ((with_reducible refine gate_dst (N := 65) rfl ?_); refine load1_event rfl _ _ rfl g5 1 rfl _ _ _ _ Bg5_58.out rfl Try.underlying22 rfl ?_) | ((with_reducible refine gate_dst (N := 68) rfl ?_); refine load1_event rfl _ _ rfl g5 2 rfl _ _ _ _ Bg5_58.out rfl Try.underlying22 rfl ?_) | ((with_reducible refine gate_dst (N := 71) rfl ?_); refine load1_event rfl _ _ rfl g5 3 rfl _ _ _ _ Bg5_58.out rfl Try.underlying22 rfl ?_))
      go_ret
      exact ⟨by rw [HFIN.out]; rfl, HB_58.out⟩
    obtain ⟨ad, rfl, hcell⟩ := (HR.out.below HB.out).at_ (k : Int) (by omega) (by omega)
    simp only [Int.toNat_natCast] at hcell
    have HLT := Aside0.mk hlt
    have hltd : decide ((k : Int) < (l.length : Int)) = true := decide_eq_true (by omega)
    have hk1 : IntKind.i64.wrap ((k : Int) + 1) = (k : Int) + 1 := by have := HL.out; rw [IntKind.wrap_i64]; omega
    obtain ⟨t, ht⟩ : ∃ t : Int, Int.tmod (k : Int) 8 = t := ⟨_, rfl⟩
    have ht' : t = ((k % 8 : Nat) : Int) := by rw [← ht, Int.tmod_eq_emod_of_nonneg (by omega)]; omega
    obtain ⟨s8, hs8⟩ : ∃ s : Int, IntKind.i64.wrap (8 * t) = s := ⟨_, rfl⟩
    have hs8' : s8 = 8 * t := by rw [← hs8, IntKind.wrap_i64]; omega
    have hsT : (0 ≤ s8) = True := eq_true (by omega)
    have hsD : decide (0 ≤ s8) = true := decide_eq_true (by omega)
    obtain ⟨cc, hcc⟩ : ∃ x : Int, IntKind.u64.wrap (rd l k) = x := ⟨_, rfl⟩
    obtain ⟨q, hq⟩ : ∃ q : Int, IntKind.u64.wrap (cc * 2 ^ min s8.toNat 64) = q := ⟨_, rfl⟩
    have hqz : s8 ≤ 64 → IntKind.u64.wrap (cc * 2 ^ s8.toNat) = q := fun h => by rw [← hq, show min s8.toNat 64 = s8.toNat by omega]
    obtain ⟨n2, hn2⟩ : ∃ q2 : Int, bits .or .u64 mm q = q2 := ⟨_, rfl⟩
    have HN2 : Aside0 (lowp (l.drop (8 * (k / 8))) (k % 8 + 1) = n2) := ⟨by rw [lowp, HMM.out, rd_drop, show 8 * (k / 8) + k % 8 = k by omega, hcc, ← hn2, ← hq, show s8.toNat = 8 * (k % 8) by omega]⟩
    have HT := Aside0.mk ht'
    clear hs8' hk ht'
    go_upto_region 7 with fail
    clear hs8 hsT hsD hcc hq hqz hn2 hcell
    by_cases h7 : t = 7
    case pos =>
      have h7d : (t == 7) = true := beq_iff_eq.2 h7
      have H7 : Aside0 (k % 8 = 7) := ⟨by have := HT.out; omega⟩
      obtain ⟨⟨ta, tb, tc, td⟩, htk⟩ : ∃ u : V4, tk ⟨va, vb, vc, vd⟩ n2 = u := ⟨_, rfl⟩
      have HNX : Aside0 (chunks ⟨x0, x1, x2, x3⟩ l ((k + 1) / 8) = ⟨ta, tb, tc, td⟩) := ⟨by
        have e1 := HT.out
        have e2 := HLT.out
        have e3 : lowp (l.drop (8 * (k / 8))) 8 = n2 := by rw [← HN2.out, show k % 8 + 1 = 8 by omega]
        rw [show (k + 1) / 8 = k / 8 + 1 by omega, chunks, HCH.out, lowm_take _ _ (by rw [List.length_drop]; omega), e3, htk]⟩
      have HTK := Aside0.mk htk
      clear htk h7 HT
      go_wp2_with (first | ((with_reducible refine gate_dst (N := 41) rfl ?_); refine load_event rfl 88 _ rfl g5 rfl _ _ _ BG5.out Try.underlying88 rfl (by kernel_rfl) ?_) | (go_at_call 35; refine (rtake_l va vb vc vd n2 ta tb tc td HTK.out _).mono ?_; rintro e wx51 ⟨rfl, hb⟩; have HB_51 := Aside0.mk (below_step HB.out hb); clear HB; have Bg5_51 := Aside0.mk (blk_below BG5.out hb); clear BG5; clear hb) | ((with_reducible refine gate_store (t := 88) (p := 5) rfl ?_); refine store_event rfl 88 _ _ rfl g5 _ rfl rfl _ _ Bg5_51.out (by kernel_rfl) rfl rfl ?_; intro wx52 hst hu; have HB_52 := Aside0.mk (below_upd HB_51.out hu (below_size HB_51.out) (fun k hk => by cases hk; exact Lg5.out)); clear HB_51; have Bg5_52 := Aside0.mk hst; clear hst hu Bg5_51))
      go_roundw
      case rel => exact ⟨k + 1, 0, by have := HLT.out; omega, by go_num, by go_num, ⟨by have := H7.out; rw [show (k + 1) % 8 = 0 by omega]; rfl⟩, ⟨ta, tb, tc, td, HNX.out, Bg5_52.out⟩, HB_52⟩
      case measure => have := HLT.out; simp [intOf]; omega
    have h7d : (t == 7) = false := beq_eq_false_iff_ne.2 h7
    have H7 : Aside0 (k % 8 < 7) := ⟨by have := HT.out; omega⟩
    clear h7 HT
    go_wp2
    go_roundw
    case rel => exact ⟨k + 1, n2, by have := HLT.out; omega, by go_num, by go_num, ⟨by have := H7.out; rw [show (k + 1) / 8 = k / 8 by omega, show (k + 1) % 8 = k % 8 + 1 by omega, HN2.out]⟩, ⟨va, vb, vc, vd, by have := H7.out; rw [show (k + 1) / 8 = k / 8 by omega, HCH.out], BG5.out⟩, HB⟩
    case measure => have := HLT.out; simp [intOf]; omega
end Go.Proofs.Ytainkpgplmkiaaa.CookLow
