/- The walk of WindowClosed: behind a Rst that belongs to it a connection is closed, and lives but a little: the call returns true and leaves all memory that was there as it was. No condition. -/
import Derived.Test.YtainkpgplmkiaaaWinScript
import Derived.Test.YtainkpgplmkiaaaWinClosed
import Derived.Test.YtainkpgplmkiaaaRefWin
namespace Go.Proofs.Ytainkpgplmkiaaa.WindowClosedWalk
open Go Go.RowKit Go.Proofs.YtainkpgplmkiaaaW.PrintWords Go.Proofs.YtainkpgplmkiaaaW.PrintLast Go.Proofs.YtainkpgplmkiaaaW.PrintMore Go.Proofs.Ytainkpgplmkiaaa.MWorld Go.Proofs.Ytainkpgplmkiaaa.MArgs Go.Proofs.Ytainkpgplmkiaaa.Ev Go.Proofs.Ytainkpgplmkiaaa.Rg Go.Proofs.Ytainkpgplmkiaaa.Rgw Go.Proofs.Ytainkpgplmkiaaa.Win Go.Proofs.Ytainkpgplmkiaaa.Win2 Go.Proofs.Ytainkpgplmkiaaa.WinModel Go.Proofs.Ytainkpgplmkiaaa.Win6 Go.Proofs.Ytainkpgplmkiaaa.WinArgs Go.Proofs.Ytainkpgplmkiaaa.WinScript Go.Proofs.Ytainkpgplmkiaaa.WinOpens Go.Proofs.Ytainkpgplmkiaaa.WinFlags Go.Proofs.Ytainkpgplmkiaaa.WinClosed Go.Proofs.Ytainkpgplmkiaaa.RefWin
set_option linter.unusedVariables false
set_option linter.unusedSimpArgs false
theorem open_is (t : Tr) (c : Cn) (gd : Bool) (h : opened t = (c, gd)) (w : World) : Calls Try.prog 28 #[t.val] w fun e w' => e = .returned (.tuple #[c.val, .bool gd]) ∧ Below w.heap.size w w' := by
  refine (open_any t w).mono fun e w' hp => ?_
  unfold OpenPost at hp; rw [h] at hp; exact hp
theorem ropen_is (t : Tr) (c : Cn) (gd : Bool) (h : opened t = (c, gd)) (w : World) : Calls Try.prog 30 #[t.val] w fun e w' => e = .returned (.tuple #[c.val, .bool gd]) ∧ Below w.heap.size w w' := by
  refine (ropen_any t w).mono fun e w' hp => ?_
  unfold OpenPost at hp; rw [h] at hp; exact hp
theorem life_is (st : Int) (s1 f1 s2 f2 : Bool) (e1 m1 e2 m2 k : Int) (h : life st = k) (w : World) : Calls Try.prog 31 #[.agg #[.int .i64 st, .bool s1, .int .u32 e1, .int .u32 m1, .bool f1, .bool s2, .int .u32 e2, .int .u32 m2, .bool f2]] w fun e w' => e = .returned (.int .i64 k) ∧ Below w.heap.size w w' := by
  subst h; exact life_any st s1 f1 s2 f2 e1 m1 e2 m2 w
set_option maxRecDepth 100000 in
set_option maxHeartbeats 16000000 in
theorem walk (t0 : Tr) (A : Option Addr) (c : Nat) (l : List (Bool × Tr)) (w : World) (h0 : TrOk t0) (hl : ScriptIn w A c l) :
    Calls Try.prog 10 #[t0.val, .slice A l.length c] w fun e w' => e = .returned (.bool true) ∧ Below w.heap.size w w' := by
  have HS := Aside0.mk hl
  clear h0 hl
  by_cases hbig : l.length ≤ 4096
  case neg =>
    have hb1 : (l.length : Int) > 4096 := by omega
    go_enter Try.func10, Try.ntmps10
    go_wp2
    go_ret
    exact ⟨rfl, (Below.refl _ _).alloc (Nat.le_refl _) _⟩
  have hb1 : decide ((4096 : Int) < l.length) = false := decide_eq_false (by omega)
  have HL := Aside0.mk hbig
  clear hbig
  have hoc := opened_cases t0
  obtain ⟨p0, p1, p2, p3, p4, p5, p6, p7, p8, p9⟩ := t0
  rcases hoc with hoc | ⟨e0, m0, hoc⟩
  case inl =>
    replace hoc := Aside0.mk hoc
    go_enter Try.func10, Try.ntmps10
    go_wp2_with (first | ((with_reducible refine gate_dst (N := 2) rfl ?_); refine box_event ?hg (N := 2) ?hd (cs := #[.int .i64 p0, .int .i64 p1, .int .u32 p2, .int .u32 p3, .int .i64 p4, .int .i64 p5, .int .i64 p6, .int .i64 p7, .int .i64 p8, .int .i64 p9]) (t := 43) ?hr ?_; (case hd => rfl); (case hg => rfl); (case hr => first | (go_simp; done) | (go_simp; rfl)); intro g2 hgg wx1 hbox hb; have Lg2 := Aside0.mk (show w.heap.size ≤ g2 by rw [hgg]; exact Nat.le_refl _); have HB_1 := Aside0.mk (hb); have Bg2_1 := Aside0.mk hbox; clear hbox hb hgg) | ((with_reducible refine gate_dst (N := 16) rfl ?_); refine load_event rfl 43 _ rfl g2 rfl _ _ _ Bg2_1.out Try.underlying43 rfl (by kernel_rfl) ?_) | (go_at_call 28; refine (open_is ⟨p0, p1, p2, p3, p4, p5, p6, p7, p8, p9⟩ Cn.zero false hoc.out _).mono ?_; rintro e wx2 ⟨rfl, hb⟩; have HB_2 := Aside0.mk (below_step HB_1.out hb); clear HB_1; have Bg2_2 := Aside0.mk (blk_below Bg2_1.out hb); clear Bg2_1; clear hb) | ((with_reducible refine gate_dst (N := 5) rfl ?_); refine box_event ?hg (N := 5) ?hd (cs := #[.int .i64 0, .bool false, .int .u32 0, .int .u32 0, .bool false, .bool false, .int .u32 0, .int .u32 0, .bool false]) (t := 41) ?hr ?_; (case hd => rfl); (case hg => rfl); (case hr => first | (go_simp; done) | (go_simp; rfl)); intro g5 hgg wx3 hbox hb; have Ng2g5 := Aside0.mk (show g2 ≠ g5 by rw [hgg]; exact Nat.ne_of_lt (blk_lt Bg2_2.out)); have Lg5 := Aside0.mk (show w.heap.size ≤ g5 by rw [hgg]; exact below_size HB_2.out); have HB_3 := Aside0.mk (below_step HB_2.out hb); clear HB_2; have Bg2_3 := Aside0.mk (blk_below Bg2_2.out hb); clear Bg2_2; have Bg5_3 := Aside0.mk hbox; clear hbox hb hgg) | ((with_reducible refine gate_store (t := 41) (p := 5) rfl ?_); refine store_event rfl 41 _ _ rfl g5 _ rfl rfl _ _ Bg5_3.out (by kernel_rfl) rfl rfl ?_; intro wx4 hst hu; have HB_4 := Aside0.mk (below_upd HB_3.out hu (below_size HB_3.out) (fun k hk => by cases hk; exact Lg5.out)); clear HB_3; have Bg2_4 := Aside0.mk (Upd.blk hu Bg2_3.out (One.not Ng2g5.out)); clear Bg2_3; have Bg5_4 := Aside0.mk hst; clear hst hu Bg5_3) | ((with_reducible refine gate_dst (N := 21) rfl ?_); refine load_event rfl 43 _ rfl g2 rfl _ _ _ Bg2_4.out Try.underlying43 rfl (by kernel_rfl) ?_) | (go_at_call 30; refine (ropen_is ⟨p0, p1, p2, p3, p4, p5, p6, p7, p8, p9⟩ Cn.zero false hoc.out _).mono ?_; rintro e wx5 ⟨rfl, hb⟩; have HB_5 := Aside0.mk (below_step HB_4.out hb); clear HB_4; have Bg2_5 := Aside0.mk (blk_below Bg2_4.out hb); clear Bg2_4; have Bg5_5 := Aside0.mk (blk_below Bg5_4.out hb); clear Bg5_4; clear hb) | ((with_reducible refine gate_dst (N := 7) rfl ?_); refine box_event ?hg (N := 7) ?hd (cs := #[.int .i64 0, .bool false, .int .u32 0, .int .u32 0, .bool false, .bool false, .int .u32 0, .int .u32 0, .bool false]) (t := 48) ?hr ?_; (case hd => rfl); (case hg => rfl); (case hr => first | (go_simp; done) | (go_simp; rfl)); intro g7 hgg wx6 hbox hb; have Ng2g7 := Aside0.mk (show g2 ≠ g7 by rw [hgg]; exact Nat.ne_of_lt (blk_lt Bg2_5.out)); have Ng5g7 := Aside0.mk (show g5 ≠ g7 by rw [hgg]; exact Nat.ne_of_lt (blk_lt Bg5_5.out)); have Lg7 := Aside0.mk (show w.heap.size ≤ g7 by rw [hgg]; exact below_size HB_5.out); have HB_6 := Aside0.mk (below_step HB_5.out hb); clear HB_5; have Bg2_6 := Aside0.mk (blk_below Bg2_5.out hb); clear Bg2_5; have Bg5_6 := Aside0.mk (blk_below Bg5_5.out hb); clear Bg5_5; have Bg7_6 := Aside0.mk hbox; clear hbox hb hgg) | ((with_reducible refine gate_store (t := 48) (p := 7) rfl ?_); refine store_event rfl 48 _ _ rfl g7 _ rfl rfl _ _ Bg7_6.out (by kernel_rfl) rfl rfl ?_; intro wx7 hst hu; have HB_7 := Aside0.mk (below_upd HB_6.out hu (below_size HB_6.out) (fun k hk => by cases hk; exact Lg7.out)); clear HB_6; have Bg2_7 := Aside0.mk (Upd.blk hu Bg2_6.out (One.not Ng2g7.out)); clear Bg2_6; have Bg5_7 := Aside0.mk (Upd.blk hu Bg5_6.out (One.not Ng5g7.out)); clear Bg5_6; have Bg7_7 := Aside0.mk hst; clear hst hu Bg7_6) | ((with_reducible refine gate_dst (N := 30) rfl ?_); refine load_event rfl 41 _ rfl g5 rfl _ _ _ Bg5_7.out Try.underlying41 rfl (by kernel_rfl) ?_))
    go_ret
    exact ⟨rfl, HB_7.out⟩
  case inr =>
    replace hoc := Aside0.mk hoc
    go_enter Try.func10, Try.ntmps10
    go_upto_region 9 with (first | ((with_reducible refine gate_dst (N := 2) rfl ?_); refine box_event ?hg (N := 2) ?hd (cs := #[.int .i64 p0, .int .i64 p1, .int .u32 p2, .int .u32 p3, .int .i64 p4, .int .i64 p5, .int .i64 p6, .int .i64 p7, .int .i64 p8, .int .i64 p9]) (t := 43) ?hr ?_; (case hd => rfl); (case hg => rfl); (case hr => first | (go_simp; done) | (go_simp; rfl)); intro g2 hgg wx1 hbox hb; have Lg2 := Aside0.mk (show w.heap.size ≤ g2 by rw [hgg]; exact Nat.le_refl _); have HB_1 := Aside0.mk (hb); have Bg2_1 := Aside0.mk hbox; clear hbox hb hgg) | ((with_reducible refine gate_dst (N := 16) rfl ?_); refine load_event rfl 43 _ rfl g2 rfl _ _ _ Bg2_1.out Try.underlying43 rfl (by kernel_rfl) ?_) | (go_at_call 28; refine (open_is ⟨p0, p1, p2, p3, p4, p5, p6, p7, p8, p9⟩ ⟨1, ⟨true, e0, m0, false⟩, ⟨false, 0, 0, false⟩⟩ true hoc.out _).mono ?_; rintro e wx2 ⟨rfl, hb⟩; have HB_2 := Aside0.mk (below_step HB_1.out hb); clear HB_1; have Bg2_2 := Aside0.mk (blk_below Bg2_1.out hb); clear Bg2_1; clear hb) | ((with_reducible refine gate_dst (N := 5) rfl ?_); refine box_event ?hg (N := 5) ?hd (cs := #[.int .i64 0, .bool false, .int .u32 0, .int .u32 0, .bool false, .bool false, .int .u32 0, .int .u32 0, .bool false]) (t := 41) ?hr ?_; (case hd => rfl); (case hg => rfl); (case hr => first | (go_simp; done) | (go_simp; rfl)); intro g5 hgg wx3 hbox hb; have Ng2g5 := Aside0.mk (show g2 ≠ g5 by rw [hgg]; exact Nat.ne_of_lt (blk_lt Bg2_2.out)); have Lg5 := Aside0.mk (show w.heap.size ≤ g5 by rw [hgg]; exact below_size HB_2.out); have HB_3 := Aside0.mk (below_step HB_2.out hb); clear HB_2; have Bg2_3 := Aside0.mk (blk_below Bg2_2.out hb); clear Bg2_2; have Bg5_3 := Aside0.mk hbox; clear hbox hb hgg) | ((with_reducible refine gate_store (t := 41) (p := 5) rfl ?_); refine store_event rfl 41 _ _ rfl g5 _ rfl rfl _ _ Bg5_3.out (by kernel_rfl) rfl rfl ?_; intro wx4 hst hu; have HB_4 := Aside0.mk (below_upd HB_3.out hu (below_size HB_3.out) (fun k hk => by cases hk; exact Lg5.out)); clear HB_3; have Bg2_4 := Aside0.mk (Upd.blk hu Bg2_3.out (One.not Ng2g5.out)); clear Bg2_3; have Bg5_4 := Aside0.mk hst; clear hst hu Bg5_3) | ((with_reducible refine gate_dst (N := 21) rfl ?_); refine load_event rfl 43 _ rfl g2 rfl _ _ _ Bg2_4.out Try.underlying43 rfl (by kernel_rfl) ?_) | (go_at_call 30; refine (ropen_is ⟨p0, p1, p2, p3, p4, p5, p6, p7, p8, p9⟩ ⟨1, ⟨true, e0, m0, false⟩, ⟨false, 0, 0, false⟩⟩ true hoc.out _).mono ?_; rintro e wx5 ⟨rfl, hb⟩; have HB_5 := Aside0.mk (below_step HB_4.out hb); clear HB_4; have Bg2_5 := Aside0.mk (blk_below Bg2_4.out hb); clear Bg2_4; have Bg5_5 := Aside0.mk (blk_below Bg5_4.out hb); clear Bg5_4; clear hb) | ((with_reducible refine gate_dst (N := 7) rfl ?_); refine box_event ?hg (N := 7) ?hd (cs := #[.int .i64 0, .bool false, .int .u32 0, .int .u32 0, .bool false, .bool false, .int .u32 0, .int .u32 0, .bool false]) (t := 48) ?hr ?_; (case hd => rfl); (case hg => rfl); (case hr => first | (go_simp; done) | (go_simp; rfl)); intro g7 hgg wx6 hbox hb; have Ng2g7 := Aside0.mk (show g2 ≠ g7 by rw [hgg]; exact Nat.ne_of_lt (blk_lt Bg2_5.out)); have Ng5g7 := Aside0.mk (show g5 ≠ g7 by rw [hgg]; exact Nat.ne_of_lt (blk_lt Bg5_5.out)); have Lg7 := Aside0.mk (show w.heap.size ≤ g7 by rw [hgg]; exact below_size HB_5.out); have HB_6 := Aside0.mk (below_step HB_5.out hb); clear HB_5; have Bg2_6 := Aside0.mk (blk_below Bg2_5.out hb); clear Bg2_5; have Bg5_6 := Aside0.mk (blk_below Bg5_5.out hb); clear Bg5_5; have Bg7_6 := Aside0.mk hbox; clear hbox hb hgg) | ((with_reducible refine gate_store (t := 48) (p := 7) rfl ?_); refine store_event rfl 48 _ _ rfl g7 _ rfl rfl _ _ Bg7_6.out (by kernel_rfl) rfl rfl ?_; intro wx7 hst hu; have HB_7 := Aside0.mk (below_upd HB_6.out hu (below_size HB_6.out) (fun k hk => by cases hk; exact Lg7.out)); clear HB_6; have Bg2_7 := Aside0.mk (Upd.blk hu Bg2_6.out (One.not Ng2g7.out)); clear Bg2_6; have Bg5_7 := Aside0.mk (Upd.blk hu Bg5_6.out (One.not Ng5g7.out)); clear Bg5_6; have Bg7_7 := Aside0.mk hst; clear hst hu Bg7_6))
    have HC0 : Aside0 (∃ (st e1 m1 e2 m2 : Int) (s1 f1 s2 f2 : Bool), (1 ≤ st ∧ st ≤ 4) ∧ wx7.heap[g5]? = some (.cells #[.int .i64 st, .bool s1, .int .u32 e1, .int .u32 m1, .bool f1, .bool s2, .int .u32 e2, .int .u32 m2, .bool f2] 41 (0, 0))) := ⟨_, _, _, _, _, _, _, _, _, ⟨by decide, by decide⟩, Bg5_7.out⟩
    clear Bg5_7 Bg2_7 Bg7_7 hoc
    go_upto_region 10 with (fail)
    go_loopw [9] (fun i wr => ∃ (k : Nat), k ≤ l.length ∧ i = .int .i64 k ∧ Aside0 (∃ (st e1 m1 e2 m2 : Int) (s1 f1 s2 f2 : Bool), (1 ≤ st ∧ st ≤ 4) ∧ wr.heap[g5]? = some (.cells #[.int .i64 st, .bool s1, .int .u32 e1, .int .u32 m1, .bool f1, .bool s2, .int .u32 e2, .int .u32 m2, .bool f2] 41 (0, 0))) ∧ Aside0 (Below w.heap.size w wr)) (fun i _ => l.length - (intOf i).toNat)
    case atStart => exact ⟨0, by omega, rfl, HC0, HB_7⟩
    case round =>
      clear HC0 HB_7
      obtain ⟨k, hk, rfl, HC, HB⟩ := hrel
      obtain ⟨st, e1, m1, e2, m2, s1, f1, s2, f2, hst14, hblk⟩ := HC.out
      have HST := Aside0.mk hst14
      have BC := Aside0.mk hblk
      have HLo := Lg5
      clear HC hst14 hblk
      by_cases hlt : k < l.length
      case neg =>
        obtain rfl : k = l.length := by omega
        have hlo := life_open HST.out.1 HST.out.2
        go_wp2_with (first | ((with_reducible refine gate_dst (N := 77) rfl ?_); refine load_event rfl 41 _ rfl g5 rfl _ _ _ BC.out Try.underlying41 rfl (by kernel_rfl) ?_) | (go_at_call 31; refine (life_is st s1 f1 s2 f2 e1 m1 e2 m2 _ rfl _).mono ?_; rintro e wx51 ⟨rfl, hb⟩; have HB_51 := Aside0.mk (below_step HB.out hb); clear HB; have Bg5_51 := Aside0.mk (blk_below BC.out hb); clear BC; clear hb))
        go_ret
        exact ⟨rfl, HB_51.out⟩
      have hx := List.getElem?_eq_getElem hlt
      generalize l[k] = x at hx
      obtain ⟨xb, sp, dp, sq, ak, fl, wi, ty, co, he, da⟩ := x
      have HX := Aside0.mk hx
      clear hx
      obtain ⟨ad, rfl⟩ := script_some HS.out HX.out
      obtain ⟨⟨nt, ⟨ns1, ne1, nm1, nf1⟩, ⟨ns2, ne2, nm2, nf2⟩⟩, gd, hn⟩ : ∃ n gd, next ⟨st, ⟨s1, e1, m1, f1⟩, ⟨s2, e2, m2, f2⟩⟩ xb ⟨sp, dp, sq, ak, fl, wi, ty, co, he, da⟩ = (n, gd) := ⟨_, _, rfl⟩
      have hcl := next_closed ⟨st, ⟨s1, e1, m1, f1⟩, ⟨s2, e2, m2, f2⟩⟩ xb ⟨sp, dp, sq, ak, fl, wi, ty, co, he, da⟩ HST.out.1 HST.out.2
      rw [hn] at hcl
      have HCL := Aside0.mk hcl
      clear hcl
      have HN := Aside0.mk hn
      clear hn
      have HLT := Aside0.mk hlt
      have hltd : decide ((k : Int) < (l.length : Int)) = true := decide_eq_true (by omega)
      have hk1 : IntKind.i64.wrap ((k : Int) + 1) = (k : Int) + 1 := by have := HL.out; rw [IntKind.wrap_i64]; omega
      go_upto_region 12 with fail
      clear hk hlt
      refine wp_region_rgw 18 (by kernel_rfl) (fun x y => Below wr.heap.size x y) (MadeV 15 16 wr.heap.size #[.int .i64 0, .bool false, .int .u32 0, .int .u32 0, .bool false, .bool false, .int .u32 0, .int .u32 0, .bool false] #[.int .i64 nt, .bool ns1, .int .u32 ne1, .int .u32 nm1, .bool nf1, .bool ns2, .int .u32 ne2, .int .u32 nm2, .bool nf2] 41) (fun (i : Nat) (v : Value) (w1 : World) => match i with | 0 => v = (.agg #[.int .i64 st, .bool s1, .int .u32 e1, .int .u32 m1, .bool f1, .bool s2, .int .u32 e2, .int .u32 m2, .bool f2]) | 1 => v = (.slice (some ad) l.length c) | 2 => v = (.int .i64 k) | 3 => v = (.pointer (some (ad.add (k * 11)))) | 4 => v = (.pointer (some (ad.add (k * 11)))) | 5 => v = (.bool xb) | 6 => v = (.slice (some ad) l.length c) | 7 => v = (.int .i64 k) | 8 => v = (.pointer (some (ad.add (k * 11)))) | 9 => v = (.pointer (some ⟨(ad.add (k * 11)).block, (ad.add (k * 11)).off + 1, none⟩)) | 10 => v = (.agg #[.int .i64 sp, .int .i64 dp, .int .u32 sq, .int .u32 ak, .int .i64 fl, .int .i64 wi, .int .i64 ty, .int .i64 co, .int .i64 he, .int .i64 da]) | 11 => v = (.tuple #[.agg #[.int .i64 nt, .bool ns1, .int .u32 ne1, .int .u32 nm1, .bool nf1, .bool ns2, .int .u32 ne2, .int .u32 nm2, .bool nf2], .bool gd]) | 12 => v = (.tuple #[.agg #[.int .i64 nt, .bool ns1, .int .u32 ne1, .int .u32 nm1, .bool nf1, .bool ns2, .int .u32 ne2, .int .u32 nm2, .bool nf2], .bool gd]) | 13 => v = (.agg #[.int .i64 nt, .bool ns1, .int .u32 ne1, .int .u32 nm1, .bool nf1, .bool ns2, .int .u32 ne2, .int .u32 nm2, .bool nf2]) | 14 => v = (.bool gd) | 15 => True | 16 => True | 17 => v = (.bool gd) | _ => True) (by kernel_rfl) (by kernel_rfl) (by kernel_rfl) (by kernel_rfl) (fun _ _ _ h k => Below.trans h k) (Below.refl _ _).drew (madev_start) ?hJst ?hObl ?hEnd
      case hJst =>
        intro i v wx wy hi hs0 hs1 hJi
        match i, hi with
        | 0, _ => exact hJi
        | 1, _ => exact hJi
        | 2, _ => exact hJi
        | 3, _ => exact hJi
        | 4, _ => exact hJi
        | 5, _ => exact hJi
        | 6, _ => exact hJi
        | 7, _ => exact hJi
        | 8, _ => exact hJi
        | 9, _ => exact hJi
        | 10, _ => exact hJi
        | 11, _ => exact hJi
        | 12, _ => exact hJi
        | 13, _ => exact hJi
        | 14, _ => exact hJi
        | 15, _ => replace hJi : (fun (v : Value) (w1 : World) => True) v wx := hJi; exact trivial
        | 16, _ => replace hJi : (fun (v : Value) (w1 : World) => True) v wx := hJi; exact trivial
        | 17, _ => exact hJi
        | _ + 18, hi => exact absurd hi (by simp)
      case hObl =>
        refine ⟨?_, ?_, ?_, ?_, ?_, ?_, ?_, ?_, ?_, ?_, ?_, ?_, ?_, ?_, ?_, ?_, ?_, ?_,  trivial⟩
        · intro listed vals a wq K hD hst hv hcl hj haft hun hK
          have hKv := fun v h => hK v wq (Below.refl _ _) (madev_other (by decide) (by decide) hv) h
          have h5 := hD.out 5 rfl rfl
          replace hst : Below wr.heap.size _ wq := hst
          clear hD hj haft
          have e5 := eval_of h5
          exact step_now (v := .agg #[.int .i64 st, .bool s1, .int .u32 e1, .int .u32 m1, .bool f1, .bool s2, .int .u32 e2, .int .u32 m2, .bool f2]) (w' := wq) (wanted_free rfl) (rg_loadall rfl e5 (blk_below BC.out hst) Try.underlying41 rfl (by kernel_rfl)) (hKv _ rfl)
        · intro listed vals a wq K hD hst hv hcl hj haft hun hK
          have hKv := fun v h => hK v wq (Below.refl _ _) (madev_other (by decide) (by decide) hv) h
          have h1 := hD.out 1 rfl rfl
          replace hst : Below wr.heap.size _ wq := hst
          clear hD hj haft
          have e1 := eval_of h1
          refine step_now (v := .slice (some ad) l.length c) (w' := wq) (wanted_free rfl) ?_ (hKv _ rfl)
          clear hK hKv hv hcl hun
          first | (go_simp; done) | (go_simp; rfl) | (go_simp; (try simp only [IntKind.wrap_u32]); omega)
        · intro listed vals a wq K hD hst hv hcl hj haft hun hK
          have hKv := fun v h => hK v wq (Below.refl _ _) (madev_other (by decide) (by decide) hv) h
          have h9 := hD.out 9 rfl rfl
          replace hst : Below wr.heap.size _ wq := hst
          clear hD hj haft
          have e9 := eval_of h9
          refine step_now (v := .int .i64 k) (w' := wq) (wanted_free rfl) ?_ (hKv _ rfl)
          clear hK hKv hv hcl hun
          first | (go_simp; done) | (go_simp; rfl) | (go_simp; (try simp only [IntKind.wrap_u32]); omega)
        · intro listed vals a wq K hD hst hv hcl hj haft hun hK
          have hKv := fun v h => hK v wq (Below.refl _ _) (madev_other (by decide) (by decide) hv) h
          obtain ⟨v41, h41, j41⟩ := hD.dep hj haft 1 41 rfl rfl
          replace j41 : v41 = (.slice (some ad) l.length c) := j41
          subst j41
          obtain ⟨v42, h42, j42⟩ := hD.dep hj haft 2 42 rfl rfl
          replace j42 : v42 = (.int .i64 k) := j42
          subst j42
          replace hst : Below wr.heap.size _ wq := hst
          clear hD hj haft
          have e41 := eval_of h41
          have e42 := eval_of h42
          exact step_now (w' := wq) (wanted_free rfl) (rg_index rfl e41 e42 HLT.out) (hKv _ rfl)
        · intro listed vals a wq K hD hst hv hcl hj haft hun hK
          have hKv := fun v h => hK v wq (Below.refl _ _) (madev_other (by decide) (by decide) hv) h
          obtain ⟨v43, h43, j43⟩ := hD.dep hj haft 3 43 rfl rfl
          replace j43 : v43 = (.pointer (some (ad.add (k * 11)))) := j43
          subst j43
          replace hst : Below wr.heap.size _ wq := hst
          clear hD hj haft
          have e43 := eval_of h43
          exact step_now (w' := wq) (wanted_free rfl) (rg_field0 rfl e43) (hKv _ rfl)
        · intro listed vals a wq K hD hst hv hcl hj haft hun hK
          have hKv := fun v h => hK v wq (Below.refl _ _) (madev_other (by decide) (by decide) hv) h
          obtain ⟨v44, h44, j44⟩ := hD.dep hj haft 4 44 rfl rfl
          replace j44 : v44 = (.pointer (some (ad.add (k * 11)))) := j44
          subst j44
          replace hst : Below wr.heap.size _ wq := hst
          clear hD hj haft
          have e44 := eval_of h44
          exact step_now (w' := wq) (wanted_free rfl) (rg_loadcell rfl e44 (script_cell HS.out (below_step HB.out hst) HX.out) Try.underlying4 rfl) (hKv _ rfl)
        · intro listed vals a wq K hD hst hv hcl hj haft hun hK
          have hKv := fun v h => hK v wq (Below.refl _ _) (madev_other (by decide) (by decide) hv) h
          have h1 := hD.out 1 rfl rfl
          replace hst : Below wr.heap.size _ wq := hst
          clear hD hj haft
          have e1 := eval_of h1
          refine step_now (v := .slice (some ad) l.length c) (w' := wq) (wanted_free rfl) ?_ (hKv _ rfl)
          clear hK hKv hv hcl hun
          first | (go_simp; done) | (go_simp; rfl) | (go_simp; (try simp only [IntKind.wrap_u32]); omega)
        · intro listed vals a wq K hD hst hv hcl hj haft hun hK
          have hKv := fun v h => hK v wq (Below.refl _ _) (madev_other (by decide) (by decide) hv) h
          have h9 := hD.out 9 rfl rfl
          replace hst : Below wr.heap.size _ wq := hst
          clear hD hj haft
          have e9 := eval_of h9
          refine step_now (v := .int .i64 k) (w' := wq) (wanted_free rfl) ?_ (hKv _ rfl)
          clear hK hKv hv hcl hun
          first | (go_simp; done) | (go_simp; rfl) | (go_simp; (try simp only [IntKind.wrap_u32]); omega)
        · intro listed vals a wq K hD hst hv hcl hj haft hun hK
          have hKv := fun v h => hK v wq (Below.refl _ _) (madev_other (by decide) (by decide) hv) h
          obtain ⟨v46, h46, j46⟩ := hD.dep hj haft 6 46 rfl rfl
          replace j46 : v46 = (.slice (some ad) l.length c) := j46
          subst j46
          obtain ⟨v47, h47, j47⟩ := hD.dep hj haft 7 47 rfl rfl
          replace j47 : v47 = (.int .i64 k) := j47
          subst j47
          replace hst : Below wr.heap.size _ wq := hst
          clear hD hj haft
          have e46 := eval_of h46
          have e47 := eval_of h47
          exact step_now (w' := wq) (wanted_free rfl) (rg_index rfl e46 e47 HLT.out) (hKv _ rfl)
        · intro listed vals a wq K hD hst hv hcl hj haft hun hK
          have hKv := fun v h => hK v wq (Below.refl _ _) (madev_other (by decide) (by decide) hv) h
          obtain ⟨v48, h48, j48⟩ := hD.dep hj haft 8 48 rfl rfl
          replace j48 : v48 = (.pointer (some (ad.add (k * 11)))) := j48
          subst j48
          replace hst : Below wr.heap.size _ wq := hst
          clear hD hj haft
          have e48 := eval_of h48
          exact step_now (w' := wq) (wanted_free rfl) (rg_field1 rfl e48) (hKv _ rfl)
        · intro listed vals a wq K hD hst hv hcl hj haft hun hK
          have hKv := fun v h => hK v wq (Below.refl _ _) (madev_other (by decide) (by decide) hv) h
          obtain ⟨v49, h49, j49⟩ := hD.dep hj haft 9 49 rfl rfl
          replace j49 : v49 = (.pointer (some ⟨(ad.add (k * 11)).block, (ad.add (k * 11)).off + 1, none⟩)) := j49
          subst j49
          replace hst : Below wr.heap.size _ wq := hst
          clear hD hj haft
          have e49 := eval_of h49
          exact step_now (v := .agg #[.int .i64 sp, .int .i64 dp, .int .u32 sq, .int .u32 ak, .int .i64 fl, .int .i64 wi, .int .i64 ty, .int .i64 co, .int .i64 he, .int .i64 da]) (w' := wq) (wanted_free rfl) (rg_loadmid rfl e49 (script_range HS.out (below_step HB.out hst) HX.out) Try.underlying43 rfl (by kernel_rfl)) (hKv _ rfl)
        · intro listed vals a wq K hD hst hv hcl hj haft hun hK
          have hKv := fun v h => hK v wq (Below.refl _ _) (madev_other (by decide) (by decide) hv) h
          obtain ⟨v40, h40, j40⟩ := hD.dep hj haft 0 40 rfl rfl
          replace j40 : v40 = (.agg #[.int .i64 st, .bool s1, .int .u32 e1, .int .u32 m1, .bool f1, .bool s2, .int .u32 e2, .int .u32 m2, .bool f2]) := j40
          subst j40
          obtain ⟨v45, h45, j45⟩ := hD.dep hj haft 5 45 rfl rfl
          replace j45 : v45 = (.bool xb) := j45
          subst j45
          obtain ⟨v50, h50, j50⟩ := hD.dep hj haft 10 50 rfl rfl
          replace j50 : v50 = (.agg #[.int .i64 sp, .int .i64 dp, .int .u32 sq, .int .u32 ak, .int .i64 fl, .int .i64 wi, .int .i64 ty, .int .i64 co, .int .i64 he, .int .i64 da]) := j50
          subst j50
          replace hst : Below wr.heap.size _ wq := hst
          clear hD hj haft
          have e40 := eval_of h40
          have e45 := eval_of h45
          have e50 := eval_of h50
          refine step_call (f := 17) (args := #[.agg #[.int .i64 st, .bool s1, .int .u32 e1, .int .u32 m1, .bool f1, .bool s2, .int .u32 e2, .int .u32 m2, .bool f2], .bool xb, .agg #[.int .i64 sp, .int .i64 dp, .int .u32 sq, .int .u32 ak, .int .i64 fl, .int .i64 wi, .int .i64 ty, .int .i64 co, .int .i64 he, .int .i64 da]]) (wanted_free rfl) ?_ (next_as ⟨st, ⟨s1, e1, m1, f1⟩, ⟨s2, e2, m2, f2⟩⟩ xb ⟨sp, dp, sq, ak, fl, wi, ty, co, he, da⟩ nt ⟨ns1, ne1, nm1, nf1⟩ ⟨ns2, ne2, nm2, nf2⟩ gd HN.out wq) ?_
          · clear hK hKv hv hcl hun; first | (go_simp; done) | (go_simp; rfl)
          · rintro e w' ⟨rfl, hbq⟩; exact ⟨_, rfl, hK _ _ (hbq.mono hst.size) (madev_below (by decide) (by decide) hv hbq) rfl⟩
        · intro listed vals a wq K hD hst hv hcl hj haft hun hK
          have hKv := fun v h => hK v wq (Below.refl _ _) (madev_other (by decide) (by decide) hv) h
          obtain ⟨v51, h51, j51⟩ := hD.dep hj haft 11 51 rfl rfl
          replace j51 : v51 = (.tuple #[.agg #[.int .i64 nt, .bool ns1, .int .u32 ne1, .int .u32 nm1, .bool nf1, .bool ns2, .int .u32 ne2, .int .u32 nm2, .bool nf2], .bool gd]) := j51
          subst j51
          replace hst : Below wr.heap.size _ wq := hst
          clear hD hj haft
          have e51 := eval_of h51
          refine step_now (v := .tuple #[.agg #[.int .i64 nt, .bool ns1, .int .u32 ne1, .int .u32 nm1, .bool nf1, .bool ns2, .int .u32 ne2, .int .u32 nm2, .bool nf2], .bool gd]) (w' := wq) (wanted_free rfl) ?_ (hKv _ rfl)
          clear hK hKv hv hcl hun
          first | (go_simp; done) | (go_simp; rfl) | (go_simp; (try simp only [IntKind.wrap_u32]); omega)
        · intro listed vals a wq K hD hst hv hcl hj haft hun hK
          have hKv := fun v h => hK v wq (Below.refl _ _) (madev_other (by decide) (by decide) hv) h
          obtain ⟨v39, h39, j39⟩ := hD.dep hj haft 12 39 rfl rfl
          replace j39 : v39 = (.tuple #[.agg #[.int .i64 nt, .bool ns1, .int .u32 ne1, .int .u32 nm1, .bool nf1, .bool ns2, .int .u32 ne2, .int .u32 nm2, .bool nf2], .bool gd]) := j39
          subst j39
          replace hst : Below wr.heap.size _ wq := hst
          clear hD hj haft
          have e39 := eval_of h39
          refine step_now (v := .agg #[.int .i64 nt, .bool ns1, .int .u32 ne1, .int .u32 nm1, .bool nf1, .bool ns2, .int .u32 ne2, .int .u32 nm2, .bool nf2]) (w' := wq) (wanted_free rfl) ?_ (hKv _ rfl)
          clear hK hKv hv hcl hun
          first | (go_simp; done) | (go_simp; rfl) | (go_simp; (try simp only [IntKind.wrap_u32]); omega)
        · intro listed vals a wq K hD hst hv hcl hj haft hun hK
          have hKv := fun v h => hK v wq (Below.refl _ _) (madev_other (by decide) (by decide) hv) h
          obtain ⟨v39, h39, j39⟩ := hD.dep hj haft 12 39 rfl rfl
          replace j39 : v39 = (.tuple #[.agg #[.int .i64 nt, .bool ns1, .int .u32 ne1, .int .u32 nm1, .bool nf1, .bool ns2, .int .u32 ne2, .int .u32 nm2, .bool nf2], .bool gd]) := j39
          subst j39
          replace hst : Below wr.heap.size _ wq := hst
          clear hD hj haft
          have e39 := eval_of h39
          refine step_now (v := .bool gd) (w' := wq) (wanted_free rfl) ?_ (hKv _ rfl)
          clear hK hKv hv hcl hun
          first | (go_simp; done) | (go_simp; rfl) | (go_simp; (try simp only [IntKind.wrap_u32]); omega)
        · intro listed vals a wq K hD hst hv hcl hj haft hun hK
          replace hst : Below wr.heap.size _ wq := hst
          clear hD hj haft
          refine step_now (v := .pointer (some ⟨wq.heap.size, 0, none⟩)) (w' := wq.alloc (.cells #[.int .i64 0, .bool false, .int .u32 0, .int .u32 0, .bool false, .bool false, .int .u32 0, .int .u32 0, .bool false] 41)) (wanted_free rfl) ?_ (hK _ _ ((Below.refl _ _).alloc hst.size _) (madev_made (by decide) (not_yet (i := 15) (j := 16) hcl (by kernel_rfl) (by kernel_rfl) hun) hst.size (blk_new wq _)) trivial)
          clear hK
          first | (go_simp; done) | (go_simp; rfl)
        · intro listed vals a wq K hD hst hv hcl hj haft hun hK
          obtain ⟨v10, h10, j10⟩ := hD.dep hj haft 15 10 rfl rfl
          replace j10 : (fun (v : Value) (w1 : World) => True) v10 wq := j10
          simp only at j10
          have hq10 := done_val hD haft 15 10 rfl rfl
          obtain ⟨v52, h52, j52⟩ := hD.dep hj haft 13 52 rfl rfl
          replace j52 : v52 = (.agg #[.int .i64 nt, .bool ns1, .int .u32 ne1, .int .u32 nm1, .bool nf1, .bool ns2, .int .u32 ne2, .int .u32 nm2, .bool nf2]) := j52
          subst j52
          replace hst : Below wr.heap.size _ wq := hst
          clear hD hj haft
          have e10 := eval_of h10
          have e52 := eval_of h52
          obtain ⟨g19, hgv, hg0, hgb⟩ := madev_at hv hq10.1 (un_of hun)
          obtain rfl := (Option.some.inj (h10.symm.trans hq10.2)).trans hgv
          refine rg_step_store (cells := #[.int .i64 nt, .bool ns1, .int .u32 ne1, .int .u32 nm1, .bool nf1, .bool ns2, .int .u32 ne2, .int .u32 nm2, .bool nf2]) (W0 := wq) (wanted_free rfl) rfl e10 e52 hgb (stput_refl _ _ _) (by kernel_rfl) rfl rfl (fun w2 hs2 hg2 => hK _ w2 (below_upd (Below.refl _ _) hs2.1 hst.size (fun k hk => by cases hk; exact hg0)) (madev_put (by decide) hgv hg0 hg2) trivial)
        · intro listed vals a wq K hD hst hv hcl hj haft hun hK
          have hKv := fun v h => hK v wq (Below.refl _ _) (madev_other (by decide) (by decide) hv) h
          obtain ⟨v53, h53, j53⟩ := hD.dep hj haft 14 53 rfl rfl
          replace j53 : v53 = (.bool gd) := j53
          subst j53
          replace hst : Below wr.heap.size _ wq := hst
          clear hD hj haft
          have e53 := eval_of h53
          refine step_now (v := .bool gd) (w' := wq) (wanted_free rfl) ?_ (hKv _ rfl)
          clear hK hKv hv hcl hun
          first | (go_simp; done) | (go_simp; rfl) | (go_simp; (try simp only [IntKind.wrap_u32]); omega)
      case hEnd =>
        intro vals wend dn hst hdn hv hj
        have j0 : vals 0 = (.agg #[.int .i64 st, .bool s1, .int .u32 e1, .int .u32 m1, .bool f1, .bool s2, .int .u32 e2, .int .u32 m2, .bool f2]) := hj 0 (by decide)
        have j1 : vals 1 = (.slice (some ad) l.length c) := hj 1 (by decide)
        have j2 : vals 2 = (.int .i64 k) := hj 2 (by decide)
        have j3 : vals 3 = (.pointer (some (ad.add (k * 11)))) := hj 3 (by decide)
        have j4 : vals 4 = (.pointer (some (ad.add (k * 11)))) := hj 4 (by decide)
        have j5 : vals 5 = (.bool xb) := hj 5 (by decide)
        have j6 : vals 6 = (.slice (some ad) l.length c) := hj 6 (by decide)
        have j7 : vals 7 = (.int .i64 k) := hj 7 (by decide)
        have j8 : vals 8 = (.pointer (some (ad.add (k * 11)))) := hj 8 (by decide)
        have j9 : vals 9 = (.pointer (some ⟨(ad.add (k * 11)).block, (ad.add (k * 11)).off + 1, none⟩)) := hj 9 (by decide)
        have j10 : vals 10 = (.agg #[.int .i64 sp, .int .i64 dp, .int .u32 sq, .int .u32 ak, .int .i64 fl, .int .i64 wi, .int .i64 ty, .int .i64 co, .int .i64 he, .int .i64 da]) := hj 10 (by decide)
        have j11 : vals 11 = (.tuple #[.agg #[.int .i64 nt, .bool ns1, .int .u32 ne1, .int .u32 nm1, .bool nf1, .bool ns2, .int .u32 ne2, .int .u32 nm2, .bool nf2], .bool gd]) := hj 11 (by decide)
        have j12 : vals 12 = (.tuple #[.agg #[.int .i64 nt, .bool ns1, .int .u32 ne1, .int .u32 nm1, .bool nf1, .bool ns2, .int .u32 ne2, .int .u32 nm2, .bool nf2], .bool gd]) := hj 12 (by decide)
        have j13 : vals 13 = (.agg #[.int .i64 nt, .bool ns1, .int .u32 ne1, .int .u32 nm1, .bool nf1, .bool ns2, .int .u32 ne2, .int .u32 nm2, .bool nf2]) := hj 13 (by decide)
        have j14 : vals 14 = (.bool gd) := hj 14 (by decide)
        have j15 : (fun (v : Value) (w1 : World) => True) (vals 15) wend := hj 15 (by decide)
        have j16 : (fun (v : Value) (w1 : World) => True) (vals 16) wend := hj 16 (by decide)
        have j17 : vals 17 = (.bool gd) := hj 17 (by decide)
        replace hst : Below wr.heap.size _ wend := hst
        obtain ⟨g19, hgv, hg0, hgb⟩ := madev_end hv (hdn 15 (by decide)) (hdn 16 (by decide))
        clear hj hv hdn
        simp only [List.take_succ_cons, List.take_zero, List.drop_succ_cons, List.drop_zero, putL, Act.put, List.setIfInBounds_toArray, List.set_cons_zero, List.set_cons_succ, j0, j1, j2, j3, j4, j5, j6, j7, j8, j9, j10, j11, j12, j13, j14, j17]
        clear j0 j1 j2 j3 j4 j5 j6 j7 j8 j9 j10 j11 j12 j13 j14 j17
        simp only [hgv]
        clear hgv j15 j16
        have HB2 := Aside0.mk (below_step HB.out hst)
        have BC2 := Aside0.mk (blk_below BC.out hst)
        have BN := Aside0.mk hgb
        have NE := Aside0.mk (show g5 ≠ g19 by have := blk_lt BC.out; omega)
        have LN := Aside0.mk (show w.heap.size ≤ g19 from Nat.le_trans HB.out.size hg0)
        clear HB BC hst hgb hg0
        rcases hE : ((gd && flag fl 4)) with _ | _
        · have HNO : Aside0 (1 ≤ nt ∧ nt ≤ 4) := ⟨HCL.out.2 hE⟩
          have hn5 : (nt == 5) = false := by have := HNO.out; simp; omega
          cases gd
          · clear hE
            go_wp2_with (first | ((with_reducible refine gate_dst (N := 74) rfl ?_); refine load1_event rfl _ _ rfl g19 0 rfl _ _ _ _ BN.out rfl Try.underlying3 rfl ?_) | ((with_reducible refine gate_dst (N := 76) rfl ?_); refine load_event rfl 41 _ rfl g19 rfl _ _ _ BN.out Try.underlying41 rfl (by kernel_rfl) ?_) | ((with_reducible refine gate_store (t := 41) (p := 5) rfl ?_); refine store_event rfl 41 _ _ rfl g5 _ rfl rfl _ _ BC2.out (by kernel_rfl) rfl rfl ?_; intro wx61 hst hu; have HB_61 := Aside0.mk (below_upd HB2.out hu (below_size HB2.out) (fun k hk => by cases hk; exact HLo.out)); clear HB2; have Bg19_61 := Aside0.mk (Upd.blk hu BN.out (One.not (Ne.symm NE.out))); clear BN; have Bg5_61 := Aside0.mk hst; clear hst hu BC2))
            go_roundw
            case rel => exact ⟨k + 1, by have := HLT.out; omega, by go_num, ⟨nt, ne1, nm1, ne2, nm2, ns1, nf1, ns2, nf2, HNO.out, Bg5_61.out⟩, HB_61⟩
            case measure => have := HLT.out; simp [intOf]; omega
          · have hfl : flag fl 4 = false := by rw [Bool.true_and] at hE; exact hE
            clear hE
            have hs0 := script_cell HS.out HB2.out HX.out
            have hs4 := script_flags HS.out HB2.out HX.out
            have t4 : (bits .and .i64 fl 4 == 0) = true := by have h : (bits .and .i64 fl 4 != 0) = false := hfl; simpa using h
            have hlt := HLT.out
            simp only at hs0 hs4
            go_upto_region 15 with (fail)
            clear hs0 hs4
            go_wp2_with (first | ((with_reducible refine gate_dst (N := 74) rfl ?_); refine load1_event rfl _ _ rfl g19 0 rfl _ _ _ _ BN.out rfl Try.underlying3 rfl ?_) | ((with_reducible refine gate_dst (N := 76) rfl ?_); refine load_event rfl 41 _ rfl g19 rfl _ _ _ BN.out Try.underlying41 rfl (by kernel_rfl) ?_) | ((with_reducible refine gate_store (t := 41) (p := 5) rfl ?_); refine store_event rfl 41 _ _ rfl g5 _ rfl rfl _ _ BC2.out (by kernel_rfl) rfl rfl ?_; intro wx61 hst hu; have HB_61 := Aside0.mk (below_upd HB2.out hu (below_size HB2.out) (fun k hk => by cases hk; exact HLo.out)); clear HB2; have Bg19_61 := Aside0.mk (Upd.blk hu BN.out (One.not (Ne.symm NE.out))); clear BN; have Bg5_61 := Aside0.mk hst; clear hst hu BC2))
            go_roundw
            case rel => exact ⟨k + 1, by have := HLT.out; omega, by go_num, ⟨nt, ne1, nm1, ne2, nm2, ns1, nf1, ns2, nf2, HNO.out, Bg5_61.out⟩, HB_61⟩
            case measure => have := HLT.out; simp [intOf]; omega
        · simp only [Bool.and_eq_true] at hE
          obtain ⟨rfl, hfl⟩ := hE
          have h5 : nt = 5 := HCL.out.1 rfl hfl
          subst h5
          have hs0 := script_cell HS.out HB2.out HX.out
          have hs4 := script_flags HS.out HB2.out HX.out
          have t4 : (bits .and .i64 fl 4 == 0) = false := by have h : (bits .and .i64 fl 4 != 0) = true := hfl; simpa using h
          have hlt := HLT.out
          simp only at hs0 hs4
          go_upto_region 14 with (fail)
          clear hs0 hs4
          go_wp2_with (first | ((with_reducible refine gate_dst (N := 66) rfl ?_); refine load1_event rfl _ _ rfl g19 0 rfl _ _ _ _ BN.out rfl Try.underlying3 rfl ?_) | ((with_reducible refine gate_dst (N := 69) rfl ?_); (refine gate_guard (by rfl) ?_; dsimp only); refine load_event rfl 41 _ rfl g19 rfl _ _ _ BN.out Try.underlying41 rfl (by kernel_rfl) ?_) | (go_at_call 31; refine (life_is 5 ns1 nf1 ns2 nf2 ne1 nm1 ne2 nm2 2 rfl _).mono ?_; rintro e wx61 ⟨rfl, hb⟩; have HB_61 := Aside0.mk (below_step HB2.out hb); clear HB2; have Bg5_61 := Aside0.mk (blk_below BC2.out hb); clear BC2; have Bg19_61 := Aside0.mk (blk_below BN.out hb); clear BN; clear hb))
          go_ret
          exact ⟨rfl, HB_61.out⟩
end Go.Proofs.Ytainkpgplmkiaaa.WindowClosedWalk
