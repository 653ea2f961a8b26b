/- The walk of WindowOpens: a connection is established only behind a Syn, an answer that acknowledges it, and an acknowledgement of the side that opened it: the call returns true and leaves all memory that was there as it was. No condition. -/
import Derived.Test.YtainkpgplmkiaaaWinScript
namespace Go.Proofs.Ytainkpgplmkiaaa.WindowOpensWalk
open Go Go.RowKit Go.Proofs.YtainkpgplmkiaaaW.PrintWords Go.Proofs.YtainkpgplmkiaaaW.PrintLast Go.Proofs.YtainkpgplmkiaaaW.PrintMore Go.Proofs.Ytainkpgplmkiaaa.MWorld Go.Proofs.Ytainkpgplmkiaaa.MArgs Go.Proofs.Ytainkpgplmkiaaa.Ev Go.Proofs.Ytainkpgplmkiaaa.Rg Go.Proofs.Ytainkpgplmkiaaa.Rgw Go.Proofs.Ytainkpgplmkiaaa.Win Go.Proofs.Ytainkpgplmkiaaa.Win2 Go.Proofs.Ytainkpgplmkiaaa.WinModel Go.Proofs.Ytainkpgplmkiaaa.WinArgs Go.Proofs.Ytainkpgplmkiaaa.WinScript Go.Proofs.Ytainkpgplmkiaaa.WinOpens Go.Proofs.Ytainkpgplmkiaaa.WinFlags
set_option linter.unusedVariables false
set_option linter.unusedSimpArgs false
set_option maxRecDepth 100000 in
set_option maxHeartbeats 16000000 in
theorem walk (a b w1 w2 : Int) (A : Option Addr) (c : Nat) (l : List (Bool × Tr)) (w : World) (ha : (Lit.int .u32 a).wf = true) (hb : (Lit.int .u32 b).wf = true) (h1 : (Lit.int .u16 w1).wf = true) (h2 : (Lit.int .u16 w2).wf = true) (hl : ScriptIn w A c l) :
    Calls Try.prog 9 #[.int .u32 a, .int .u32 b, .int .u16 w1, .int .u16 w2, .slice A l.length c] w fun e w' => e = .returned (.bool true) ∧ Below w.heap.size w w' := by
  have HS := Aside0.mk hl
  have R1 : Aside0 (0 ≤ w1 ∧ w1 < 65536) := ⟨by have := bounds_u16 h1; omega⟩
  have R2 : Aside0 (0 ≤ w2 ∧ w2 < 65536) := ⟨by have := bounds_u16 h2; omega⟩
  have hw1 : IntKind.i64.wrap w1 = w1 := by have := R1.out; rw [IntKind.wrap_i64]; omega
  have hw2 : IntKind.i64.wrap w2 = w2 := by have := R2.out; rw [IntKind.wrap_i64]; omega
  clear ha hb h1 h2 hl
  by_cases hbig : l.length ≤ 4096
  case neg =>
    have hb1 : (l.length : Int) > 4096 := by omega
    go_enter Try.func9, Try.ntmps9
    go_wp2
    go_ret
    exact ⟨rfl, Below.refl _ _⟩
  have hb1 : decide ((4096 : Int) < l.length) = false := decide_eq_false (by omega)
  have HL := Aside0.mk hbig
  clear hbig
  obtain ⟨x1, y1, q1, q2, q3, q4, q5, q6, q7, hn1⟩ := next_first a b w1 w2
  obtain ⟨mA, hmA⟩ : ∃ m, ((a + 1) % 4294967296 + w1) % 4294967296 = m := ⟨_, rfl⟩
  rw [hmA] at hn1
  have HMA := Aside0.mk hmA
  obtain ⟨⟨st2, x2, y2⟩, hst2, hn2⟩ := next_third a b w1 w2 w1 x1 y1 q1 q2 q3 q4 q5 q6 q7 R1.out R2.out
  replace hst2 : st2 = 3 := hst2
  subst hst2
  have HN1 := Aside0.mk hn1
  have HN2 := Aside0.mk hn2
  clear hmA hn1 hn2 q1 q2 q3 q4 q5 q6 q7
  go_enter Try.func9, Try.ntmps9
  go_upto_region 7 with (first | (go_at_call 28; refine (open_as a w1 mA HMA.out _).mono ?_; rintro e wx1 ⟨rfl, hb⟩; have HB_1 := Aside0.mk (hb); clear hb) | ((with_reducible refine gate_dst (N := 11) rfl ?_); refine box_event ?hg (N := 11) ?hd (cs := #[.int .i64 0, .bool false, .int .u32 0, .int .u32 0, .bool false, .bool false, .int .u32 0, .int .u32 0, .bool false]) (t := 41) ?hr ?_; (case hd => rfl); (case hg => rfl); (case hr => first | (go_simp; done) | (go_simp; rfl)); intro g11 hgg wx2 hbox hb; have Lg11 := Aside0.mk (show w.heap.size ≤ g11 by rw [hgg]; exact below_size HB_1.out); have HB_2 := Aside0.mk (below_step HB_1.out hb); clear HB_1; have Bg11_2 := Aside0.mk hbox; clear hbox hb hgg) | ((with_reducible refine gate_store (t := 41) (p := 11) rfl ?_); refine store_event rfl 41 _ _ rfl g11 _ rfl rfl _ _ Bg11_2.out (by kernel_rfl) rfl rfl ?_; intro wx3 hst hu; have HB_3 := Aside0.mk (below_upd HB_2.out hu (below_size HB_2.out) (fun k hk => by cases hk; exact Lg11.out)); clear HB_2; have Bg11_3 := Aside0.mk hst; clear hst hu Bg11_2) | ((with_reducible refine gate_dst (N := 37) rfl ?_); (refine gate_guard (by rfl) ?_; dsimp only); refine load1_event rfl _ _ rfl g11 0 rfl _ _ _ _ Bg11_3.out rfl Try.underlying3 rfl ?_) | ((with_reducible refine gate_dst (N := 41) rfl ?_); refine load_event rfl 41 _ rfl g11 rfl _ _ _ Bg11_3.out Try.underlying41 rfl (by kernel_rfl) ?_) | (go_at_call 17; refine (next_as ⟨1, ⟨true, ((a + 1) % 4294967296), mA, false⟩, ⟨false, 0, 0, false⟩⟩ true ⟨0, 0, b, ((a + 1) % 4294967296), 18, w2, 0, 0, 0, 0⟩ 2 x1 y1 true HN1.out _).mono ?_; rintro e wx4 ⟨rfl, hb⟩; have HB_4 := Aside0.mk (below_step HB_3.out hb); clear HB_3; have Bg11_4 := Aside0.mk (blk_below Bg11_3.out hb); clear Bg11_3; clear hb) | ((with_reducible refine gate_dst (N := 13) rfl ?_); refine box_event ?hg (N := 13) ?hd (cs := #[.int .i64 0, .bool false, .int .u32 0, .int .u32 0, .bool false, .bool false, .int .u32 0, .int .u32 0, .bool false]) (t := 41) ?hr ?_; (case hd => rfl); (case hg => rfl); (case hr => first | (go_simp; done) | (go_simp; rfl)); intro g13 hgg wx5 hbox hb; have Ng11g13 := Aside0.mk (show g11 ≠ g13 by rw [hgg]; exact Nat.ne_of_lt (blk_lt Bg11_4.out)); have Lg13 := Aside0.mk (show w.heap.size ≤ g13 by rw [hgg]; exact below_size HB_4.out); have HB_5 := Aside0.mk (below_step HB_4.out hb); clear HB_4; have Bg11_5 := Aside0.mk (blk_below Bg11_4.out hb); clear Bg11_4; have Bg13_5 := Aside0.mk hbox; clear hbox hb hgg) | ((with_reducible refine gate_store (t := 41) (p := 13) rfl ?_); refine store_event rfl 41 _ _ rfl g13 _ rfl rfl _ _ Bg13_5.out (by kernel_rfl) rfl rfl ?_; intro wx6 hst hu; have HB_6 := Aside0.mk (below_upd HB_5.out hu (below_size HB_5.out) (fun k hk => by cases hk; exact Lg13.out)); clear HB_5; have Bg11_6 := Aside0.mk (Upd.blk hu Bg11_5.out (One.not Ng11g13.out)); clear Bg11_5; have Bg13_6 := Aside0.mk hst; clear hst hu Bg13_5))
  go_wp2_with (first | ((with_reducible refine gate_dst (N := 52) rfl ?_); refine load_event rfl 41 _ rfl g13 rfl _ _ _ Bg13_6.out Try.underlying41 rfl (by kernel_rfl) ?_) | (go_at_call 17; refine (next_as ⟨2, x1, y1⟩ false ⟨0, 0, ((a + 1) % 4294967296), ((b + 1) % 4294967296), 16, w1, 0, 0, 0, 0⟩ 3 x2 y2 true HN2.out _).mono ?_; rintro e wx7 ⟨rfl, hb⟩; have HB_7 := Aside0.mk (below_step HB_6.out hb); clear HB_6; have Bg11_7 := Aside0.mk (blk_below Bg11_6.out hb); clear Bg11_6; have Bg13_7 := Aside0.mk (blk_below Bg13_6.out hb); clear Bg13_6; clear hb) | ((with_reducible refine gate_dst (N := 15) rfl ?_); refine box_event ?hg (N := 15) ?hd (cs := #[.int .i64 0, .bool false, .int .u32 0, .int .u32 0, .bool false, .bool false, .int .u32 0, .int .u32 0, .bool false]) (t := 41) ?hr ?_; (case hd => rfl); (case hg => rfl); (case hr => first | (go_simp; done) | (go_simp; rfl)); intro g15 hgg wx8 hbox hb; have Ng11g15 := Aside0.mk (show g11 ≠ g15 by rw [hgg]; exact Nat.ne_of_lt (blk_lt Bg11_7.out)); have Ng13g15 := Aside0.mk (show g13 ≠ g15 by rw [hgg]; exact Nat.ne_of_lt (blk_lt Bg13_7.out)); have Lg15 := Aside0.mk (show w.heap.size ≤ g15 by rw [hgg]; exact below_size HB_7.out); have HB_8 := Aside0.mk (below_step HB_7.out hb); clear HB_7; have Bg11_8 := Aside0.mk (blk_below Bg11_7.out hb); clear Bg11_7; have Bg13_8 := Aside0.mk (blk_below Bg13_7.out hb); clear Bg13_7; have Bg15_8 := Aside0.mk hbox; clear hbox hb hgg) | ((with_reducible refine gate_store (t := 41) (p := 15) rfl ?_); refine store_event rfl 41 _ _ rfl g15 _ rfl rfl _ _ Bg15_8.out (by kernel_rfl) rfl rfl ?_; intro wx9 hst hu; have HB_9 := Aside0.mk (below_upd HB_8.out hu (below_size HB_8.out) (fun k hk => by cases hk; exact Lg15.out)); clear HB_8; have Bg11_9 := Aside0.mk (Upd.blk hu Bg11_8.out (One.not Ng11g15.out)); clear Bg11_8; have Bg13_9 := Aside0.mk (Upd.blk hu Bg13_8.out (One.not Ng13g15.out)); clear Bg13_8; have Bg15_9 := Aside0.mk hst; clear hst hu Bg15_8) | ((with_reducible refine gate_dst (N := 71) rfl ?_); (refine gate_guard (by rfl) ?_; dsimp only); refine load1_event rfl _ _ rfl g13 0 rfl _ _ _ _ Bg13_9.out rfl Try.underlying3 rfl ?_) | ((with_reducible refine gate_dst (N := 76) rfl ?_); (refine gate_guard (by rfl) ?_; dsimp only); refine load1_event rfl _ _ rfl g15 0 rfl _ _ _ _ Bg15_9.out rfl Try.underlying3 rfl ?_))
  have HC0 : Aside0 (∃ (st e1 m1 e2 m2 : Int) (s1 f1 s2 f2 : Bool), (st = 2 → false = true) ∧ wx9.heap[g11]? = some (.cells #[.int .i64 st, .bool s1, .int .u32 e1, .int .u32 m1, .bool f1, .bool s2, .int .u32 e2, .int .u32 m2, .bool f2] 41 (0, 0))) := ⟨_, _, _, _, _, _, _, _, _, fun h => absurd h (by decide), Bg11_9.out⟩
  clear Bg11_9 Bg13_9 Bg15_9
  go_loopw [17, 18] (fun v i wr => ∃ (k : Nat) (an : Bool), k ≤ l.length ∧ i = .int .i64 k ∧ v = .bool an ∧ Aside0 (∃ (st e1 m1 e2 m2 : Int) (s1 f1 s2 f2 : Bool), (st = 2 → an = true) ∧ wr.heap[g11]? = some (.cells #[.int .i64 st, .bool s1, .int .u32 e1, .int .u32 m1, .bool f1, .bool s2, .int .u32 e2, .int .u32 m2, .bool f2] 41 (0, 0))) ∧ Aside0 (Below w.heap.size w wr)) (fun _ i _ => l.length - (intOf i).toNat)
  case atStart => exact ⟨0, false, by omega, rfl, rfl, HC0, HB_9⟩
  case round =>
    clear HC0 HB_9 HN1 HN2
    obtain ⟨k, an, hk, rfl, rfl, HC, HB⟩ := hrel
    obtain ⟨st, e1, m1, e2, m2, s1, f1, s2, f2, han, hblk⟩ := HC.out
    have HAN := Aside0.mk han
    have BC := Aside0.mk hblk
    clear HC han hblk
    by_cases hlt : k < l.length
    case neg =>
      obtain rfl : k = l.length := by omega
      go_wp2
      go_ret
      exact ⟨rfl, HB.out⟩
    have hx := List.getElem?_eq_getElem hlt
    generalize l[k] = x at hx
    obtain ⟨xb, sp, dp, sq, ak, fl, wi, ty, co, he, da⟩ := x
    have HX := Aside0.mk hx
    clear hx
    obtain ⟨ad, rfl⟩ := script_some HS.out HX.out
    obtain ⟨⟨nt, ⟨ns1, ne1, nm1, nf1⟩, ⟨ns2, ne2, nm2, nf2⟩⟩, gd, hn⟩ : ∃ n gd, next ⟨st, ⟨s1, e1, m1, f1⟩, ⟨s2, e2, m2, f2⟩⟩ xb ⟨sp, dp, sq, ak, fl, wi, ty, co, he, da⟩ = (n, gd) := ⟨_, _, rfl⟩
    have HN := Aside0.mk hn
    clear hn
    have HLT := Aside0.mk hlt
    have hltd : decide ((k : Int) < (l.length : Int)) = true := decide_eq_true (by omega)
    have hk1 : IntKind.i64.wrap ((k : Int) + 1) = (k : Int) + 1 := by have := HL.out; rw [IntKind.wrap_i64]; omega
    have HLo := Lg11
    go_upto_region 14 with fail
    clear hk hlt
    refine wp_region_rgw 18 (by kernel_rfl) (fun x y => Below wr.heap.size x y) (MadeV 15 16 wr.heap.size #[.int .i64 0, .bool false, .int .u32 0, .int .u32 0, .bool false, .bool false, .int .u32 0, .int .u32 0, .bool false] #[.int .i64 nt, .bool ns1, .int .u32 ne1, .int .u32 nm1, .bool nf1, .bool ns2, .int .u32 ne2, .int .u32 nm2, .bool nf2] 41) (fun (i : Nat) (v : Value) (w1 : World) => match i with | 0 => v = (.agg #[.int .i64 st, .bool s1, .int .u32 e1, .int .u32 m1, .bool f1, .bool s2, .int .u32 e2, .int .u32 m2, .bool f2]) | 1 => v = (.slice (some ad) l.length c) | 2 => v = (.int .i64 k) | 3 => v = (.pointer (some (ad.add (k * 11)))) | 4 => v = (.pointer (some (ad.add (k * 11)))) | 5 => v = (.bool xb) | 6 => v = (.slice (some ad) l.length c) | 7 => v = (.int .i64 k) | 8 => v = (.pointer (some (ad.add (k * 11)))) | 9 => v = (.pointer (some ⟨(ad.add (k * 11)).block, (ad.add (k * 11)).off + 1, none⟩)) | 10 => v = (.agg #[.int .i64 sp, .int .i64 dp, .int .u32 sq, .int .u32 ak, .int .i64 fl, .int .i64 wi, .int .i64 ty, .int .i64 co, .int .i64 he, .int .i64 da]) | 11 => v = (.tuple #[.agg #[.int .i64 nt, .bool ns1, .int .u32 ne1, .int .u32 nm1, .bool nf1, .bool ns2, .int .u32 ne2, .int .u32 nm2, .bool nf2], .bool gd]) | 12 => v = (.tuple #[.agg #[.int .i64 nt, .bool ns1, .int .u32 ne1, .int .u32 nm1, .bool nf1, .bool ns2, .int .u32 ne2, .int .u32 nm2, .bool nf2], .bool gd]) | 13 => v = (.agg #[.int .i64 nt, .bool ns1, .int .u32 ne1, .int .u32 nm1, .bool nf1, .bool ns2, .int .u32 ne2, .int .u32 nm2, .bool nf2]) | 14 => v = (.bool gd) | 15 => True | 16 => True | 17 => v = (.bool gd) | _ => True) (by kernel_rfl) (by kernel_rfl) (by kernel_rfl) (by kernel_rfl) (fun _ _ _ h k => Below.trans h k) (Below.refl _ _).drew (madev_start) ?hJst ?hObl ?hEnd
    case hJst =>
      intro i v wx wy hi hs0 hs1 hJi
      match i, hi with
      | 0, _ => exact hJi
      | 1, _ => exact hJi
      | 2, _ => exact hJi
      | 3, _ => exact hJi
      | 4, _ => exact hJi
      | 5, _ => exact hJi
      | 6, _ => exact hJi
      | 7, _ => exact hJi
      | 8, _ => exact hJi
      | 9, _ => exact hJi
      | 10, _ => exact hJi
      | 11, _ => exact hJi
      | 12, _ => exact hJi
      | 13, _ => exact hJi
      | 14, _ => exact hJi
      | 15, _ => replace hJi : (fun (v : Value) (w1 : World) => True) v wx := hJi; exact trivial
      | 16, _ => replace hJi : (fun (v : Value) (w1 : World) => True) v wx := hJi; exact trivial
      | 17, _ => exact hJi
      | _ + 18, hi => exact absurd hi (by simp)
    case hObl =>
      refine ⟨?_, ?_, ?_, ?_, ?_, ?_, ?_, ?_, ?_, ?_, ?_, ?_, ?_, ?_, ?_, ?_, ?_, ?_,  trivial⟩
      · intro listed vals a wq K hD hst hv hcl hj haft hun hK
        have hKv := fun v h => hK v wq (Below.refl _ _) (madev_other (by decide) (by decide) hv) h
        have h11 := hD.out 11 rfl rfl
        replace hst : Below wr.heap.size _ wq := hst
        clear hD hj haft
        have e11 := eval_of h11
        exact step_now (v := .agg #[.int .i64 st, .bool s1, .int .u32 e1, .int .u32 m1, .bool f1, .bool s2, .int .u32 e2, .int .u32 m2, .bool f2]) (w' := wq) (wanted_free rfl) (rg_loadall rfl e11 (blk_below BC.out hst) Try.underlying41 rfl (by kernel_rfl)) (hKv _ rfl)
      · intro listed vals a wq K hD hst hv hcl hj haft hun hK
        have hKv := fun v h => hK v wq (Below.refl _ _) (madev_other (by decide) (by decide) hv) h
        have h4 := hD.out 4 rfl rfl
        replace hst : Below wr.heap.size _ wq := hst
        clear hD hj haft
        have e4 := eval_of h4
        refine step_now (v := .slice (some ad) l.length c) (w' := wq) (wanted_free rfl) ?_ (hKv _ rfl)
        clear hK hKv hv hcl hun
        first | (go_simp; done) | (go_simp; rfl) | (go_simp; (try simp only [IntKind.wrap_u32]); omega)
      · intro listed vals a wq K hD hst hv hcl hj haft hun hK
        have hKv := fun v h => hK v wq (Below.refl _ _) (madev_other (by decide) (by decide) hv) h
        have h18 := hD.out 18 rfl rfl
        replace hst : Below wr.heap.size _ wq := hst
        clear hD hj haft
        have e18 := eval_of h18
        refine step_now (v := .int .i64 k) (w' := wq) (wanted_free rfl) ?_ (hKv _ rfl)
        clear hK hKv hv hcl hun
        first | (go_simp; done) | (go_simp; rfl) | (go_simp; (try simp only [IntKind.wrap_u32]); omega)
      · intro listed vals a wq K hD hst hv hcl hj haft hun hK
        have hKv := fun v h => hK v wq (Below.refl _ _) (madev_other (by decide) (by decide) hv) h
        obtain ⟨v87, h87, j87⟩ := hD.dep hj haft 1 87 rfl rfl
        replace j87 : v87 = (.slice (some ad) l.length c) := j87
        subst j87
        obtain ⟨v88, h88, j88⟩ := hD.dep hj haft 2 88 rfl rfl
        replace j88 : v88 = (.int .i64 k) := j88
        subst j88
        replace hst : Below wr.heap.size _ wq := hst
        clear hD hj haft
        have e87 := eval_of h87
        have e88 := eval_of h88
        exact step_now (w' := wq) (wanted_free rfl) (rg_index rfl e87 e88 HLT.out) (hKv _ rfl)
      · intro listed vals a wq K hD hst hv hcl hj haft hun hK
        have hKv := fun v h => hK v wq (Below.refl _ _) (madev_other (by decide) (by decide) hv) h
        obtain ⟨v89, h89, j89⟩ := hD.dep hj haft 3 89 rfl rfl
        replace j89 : v89 = (.pointer (some (ad.add (k * 11)))) := j89
        subst j89
        replace hst : Below wr.heap.size _ wq := hst
        clear hD hj haft
        have e89 := eval_of h89
        exact step_now (w' := wq) (wanted_free rfl) (rg_field0 rfl e89) (hKv _ rfl)
      · intro listed vals a wq K hD hst hv hcl hj haft hun hK
        have hKv := fun v h => hK v wq (Below.refl _ _) (madev_other (by decide) (by decide) hv) h
        obtain ⟨v90, h90, j90⟩ := hD.dep hj haft 4 90 rfl rfl
        replace j90 : v90 = (.pointer (some (ad.add (k * 11)))) := j90
        subst j90
        replace hst : Below wr.heap.size _ wq := hst
        clear hD hj haft
        have e90 := eval_of h90
        exact step_now (w' := wq) (wanted_free rfl) (rg_loadcell rfl e90 (script_cell HS.out (below_step HB.out hst) HX.out) Try.underlying4 rfl) (hKv _ rfl)
      · intro listed vals a wq K hD hst hv hcl hj haft hun hK
        have hKv := fun v h => hK v wq (Below.refl _ _) (madev_other (by decide) (by decide) hv) h
        have h4 := hD.out 4 rfl rfl
        replace hst : Below wr.heap.size _ wq := hst
        clear hD hj haft
        have e4 := eval_of h4
        refine step_now (v := .slice (some ad) l.length c) (w' := wq) (wanted_free rfl) ?_ (hKv _ rfl)
        clear hK hKv hv hcl hun
        first | (go_simp; done) | (go_simp; rfl) | (go_simp; (try simp only [IntKind.wrap_u32]); omega)
      · intro listed vals a wq K hD hst hv hcl hj haft hun hK
        have hKv := fun v h => hK v wq (Below.refl _ _) (madev_other (by decide) (by decide) hv) h
        have h18 := hD.out 18 rfl rfl
        replace hst : Below wr.heap.size _ wq := hst
        clear hD hj haft
        have e18 := eval_of h18
        refine step_now (v := .int .i64 k) (w' := wq) (wanted_free rfl) ?_ (hKv _ rfl)
        clear hK hKv hv hcl hun
        first | (go_simp; done) | (go_simp; rfl) | (go_simp; (try simp only [IntKind.wrap_u32]); omega)
      · intro listed vals a wq K hD hst hv hcl hj haft hun hK
        have hKv := fun v h => hK v wq (Below.refl _ _) (madev_other (by decide) (by decide) hv) h
        obtain ⟨v92, h92, j92⟩ := hD.dep hj haft 6 92 rfl rfl
        replace j92 : v92 = (.slice (some ad) l.length c) := j92
        subst j92
        obtain ⟨v93, h93, j93⟩ := hD.dep hj haft 7 93 rfl rfl
        replace j93 : v93 = (.int .i64 k) := j93
        subst j93
        replace hst : Below wr.heap.size _ wq := hst
        clear hD hj haft
        have e92 := eval_of h92
        have e93 := eval_of h93
        exact step_now (w' := wq) (wanted_free rfl) (rg_index rfl e92 e93 HLT.out) (hKv _ rfl)
      · intro listed vals a wq K hD hst hv hcl hj haft hun hK
        have hKv := fun v h => hK v wq (Below.refl _ _) (madev_other (by decide) (by decide) hv) h
        obtain ⟨v94, h94, j94⟩ := hD.dep hj haft 8 94 rfl rfl
        replace j94 : v94 = (.pointer (some (ad.add (k * 11)))) := j94
        subst j94
        replace hst : Below wr.heap.size _ wq := hst
        clear hD hj haft
        have e94 := eval_of h94
        exact step_now (w' := wq) (wanted_free rfl) (rg_field1 rfl e94) (hKv _ rfl)
      · intro listed vals a wq K hD hst hv hcl hj haft hun hK
        have hKv := fun v h => hK v wq (Below.refl _ _) (madev_other (by decide) (by decide) hv) h
        obtain ⟨v95, h95, j95⟩ := hD.dep hj haft 9 95 rfl rfl
        replace j95 : v95 = (.pointer (some ⟨(ad.add (k * 11)).block, (ad.add (k * 11)).off + 1, none⟩)) := j95
        subst j95
        replace hst : Below wr.heap.size _ wq := hst
        clear hD hj haft
        have e95 := eval_of h95
        exact step_now (v := .agg #[.int .i64 sp, .int .i64 dp, .int .u32 sq, .int .u32 ak, .int .i64 fl, .int .i64 wi, .int .i64 ty, .int .i64 co, .int .i64 he, .int .i64 da]) (w' := wq) (wanted_free rfl) (rg_loadmid rfl e95 (script_range HS.out (below_step HB.out hst) HX.out) Try.underlying43 rfl (by kernel_rfl)) (hKv _ rfl)
      · intro listed vals a wq K hD hst hv hcl hj haft hun hK
        have hKv := fun v h => hK v wq (Below.refl _ _) (madev_other (by decide) (by decide) hv) h
        obtain ⟨v86, h86, j86⟩ := hD.dep hj haft 0 86 rfl rfl
        replace j86 : v86 = (.agg #[.int .i64 st, .bool s1, .int .u32 e1, .int .u32 m1, .bool f1, .bool s2, .int .u32 e2, .int .u32 m2, .bool f2]) := j86
        subst j86
        obtain ⟨v91, h91, j91⟩ := hD.dep hj haft 5 91 rfl rfl
        replace j91 : v91 = (.bool xb) := j91
        subst j91
        obtain ⟨v96, h96, j96⟩ := hD.dep hj haft 10 96 rfl rfl
        replace j96 : v96 = (.agg #[.int .i64 sp, .int .i64 dp, .int .u32 sq, .int .u32 ak, .int .i64 fl, .int .i64 wi, .int .i64 ty, .int .i64 co, .int .i64 he, .int .i64 da]) := j96
        subst j96
        replace hst : Below wr.heap.size _ wq := hst
        clear hD hj haft
        have e86 := eval_of h86
        have e91 := eval_of h91
        have e96 := eval_of h96
        refine step_call (f := 17) (args := #[.agg #[.int .i64 st, .bool s1, .int .u32 e1, .int .u32 m1, .bool f1, .bool s2, .int .u32 e2, .int .u32 m2, .bool f2], .bool xb, .agg #[.int .i64 sp, .int .i64 dp, .int .u32 sq, .int .u32 ak, .int .i64 fl, .int .i64 wi, .int .i64 ty, .int .i64 co, .int .i64 he, .int .i64 da]]) (wanted_free rfl) ?_ (next_as ⟨st, ⟨s1, e1, m1, f1⟩, ⟨s2, e2, m2, f2⟩⟩ xb ⟨sp, dp, sq, ak, fl, wi, ty, co, he, da⟩ nt ⟨ns1, ne1, nm1, nf1⟩ ⟨ns2, ne2, nm2, nf2⟩ gd HN.out wq) ?_
        · clear hK hKv hv hcl hun; first | (go_simp; done) | (go_simp; rfl)
        · rintro e w' ⟨rfl, hbq⟩; exact ⟨_, rfl, hK _ _ (hbq.mono hst.size) (madev_below (by decide) (by decide) hv hbq) rfl⟩
      · intro listed vals a wq K hD hst hv hcl hj haft hun hK
        have hKv := fun v h => hK v wq (Below.refl _ _) (madev_other (by decide) (by decide) hv) h
        obtain ⟨v97, h97, j97⟩ := hD.dep hj haft 11 97 rfl rfl
        replace j97 : v97 = (.tuple #[.agg #[.int .i64 nt, .bool ns1, .int .u32 ne1, .int .u32 nm1, .bool nf1, .bool ns2, .int .u32 ne2, .int .u32 nm2, .bool nf2], .bool gd]) := j97
        subst j97
        replace hst : Below wr.heap.size _ wq := hst
        clear hD hj haft
        have e97 := eval_of h97
        refine step_now (v := .tuple #[.agg #[.int .i64 nt, .bool ns1, .int .u32 ne1, .int .u32 nm1, .bool nf1, .bool ns2, .int .u32 ne2, .int .u32 nm2, .bool nf2], .bool gd]) (w' := wq) (wanted_free rfl) ?_ (hKv _ rfl)
        clear hK hKv hv hcl hun
        first | (go_simp; done) | (go_simp; rfl) | (go_simp; (try simp only [IntKind.wrap_u32]); omega)
      · intro listed vals a wq K hD hst hv hcl hj haft hun hK
        have hKv := fun v h => hK v wq (Below.refl _ _) (madev_other (by decide) (by decide) hv) h
        obtain ⟨v85, h85, j85⟩ := hD.dep hj haft 12 85 rfl rfl
        replace j85 : v85 = (.tuple #[.agg #[.int .i64 nt, .bool ns1, .int .u32 ne1, .int .u32 nm1, .bool nf1, .bool ns2, .int .u32 ne2, .int .u32 nm2, .bool nf2], .bool gd]) := j85
        subst j85
        replace hst : Below wr.heap.size _ wq := hst
        clear hD hj haft
        have e85 := eval_of h85
        refine step_now (v := .agg #[.int .i64 nt, .bool ns1, .int .u32 ne1, .int .u32 nm1, .bool nf1, .bool ns2, .int .u32 ne2, .int .u32 nm2, .bool nf2]) (w' := wq) (wanted_free rfl) ?_ (hKv _ rfl)
        clear hK hKv hv hcl hun
        first | (go_simp; done) | (go_simp; rfl) | (go_simp; (try simp only [IntKind.wrap_u32]); omega)
      · intro listed vals a wq K hD hst hv hcl hj haft hun hK
        have hKv := fun v h => hK v wq (Below.refl _ _) (madev_other (by decide) (by decide) hv) h
        obtain ⟨v85, h85, j85⟩ := hD.dep hj haft 12 85 rfl rfl
        replace j85 : v85 = (.tuple #[.agg #[.int .i64 nt, .bool ns1, .int .u32 ne1, .int .u32 nm1, .bool nf1, .bool ns2, .int .u32 ne2, .int .u32 nm2, .bool nf2], .bool gd]) := j85
        subst j85
        replace hst : Below wr.heap.size _ wq := hst
        clear hD hj haft
        have e85 := eval_of h85
        refine step_now (v := .bool gd) (w' := wq) (wanted_free rfl) ?_ (hKv _ rfl)
        clear hK hKv hv hcl hun
        first | (go_simp; done) | (go_simp; rfl) | (go_simp; (try simp only [IntKind.wrap_u32]); omega)
      · intro listed vals a wq K hD hst hv hcl hj haft hun hK
        replace hst : Below wr.heap.size _ wq := hst
        clear hD hj haft
        refine step_now (v := .pointer (some ⟨wq.heap.size, 0, none⟩)) (w' := wq.alloc (.cells #[.int .i64 0, .bool false, .int .u32 0, .int .u32 0, .bool false, .bool false, .int .u32 0, .int .u32 0, .bool false] 41)) (wanted_free rfl) ?_ (hK _ _ ((Below.refl _ _).alloc hst.size _) (madev_made (by decide) (not_yet (i := 15) (j := 16) hcl (by kernel_rfl) (by kernel_rfl) hun) hst.size (blk_new wq _)) trivial)
        clear hK
        first | (go_simp; done) | (go_simp; rfl)
      · intro listed vals a wq K hD hst hv hcl hj haft hun hK
        obtain ⟨v19, h19, j19⟩ := hD.dep hj haft 15 19 rfl rfl
        replace j19 : (fun (v : Value) (w1 : World) => True) v19 wq := j19
        simp only at j19
        have hq19 := done_val hD haft 15 19 rfl rfl
        obtain ⟨v98, h98, j98⟩ := hD.dep hj haft 13 98 rfl rfl
        replace j98 : v98 = (.agg #[.int .i64 nt, .bool ns1, .int .u32 ne1, .int .u32 nm1, .bool nf1, .bool ns2, .int .u32 ne2, .int .u32 nm2, .bool nf2]) := j98
        subst j98
        replace hst : Below wr.heap.size _ wq := hst
        clear hD hj haft
        have e19 := eval_of h19
        have e98 := eval_of h98
        obtain ⟨g19, hgv, hg0, hgb⟩ := madev_at hv hq19.1 (un_of hun)
        obtain rfl := (Option.some.inj (h19.symm.trans hq19.2)).trans hgv
        refine rg_step_store (cells := #[.int .i64 nt, .bool ns1, .int .u32 ne1, .int .u32 nm1, .bool nf1, .bool ns2, .int .u32 ne2, .int .u32 nm2, .bool nf2]) (W0 := wq) (wanted_free rfl) rfl e19 e98 hgb (stput_refl _ _ _) (by kernel_rfl) rfl rfl (fun w2 hs2 hg2 => hK _ w2 (below_upd (Below.refl _ _) hs2.1 hst.size (fun k hk => by cases hk; exact hg0)) (madev_put (by decide) hgv hg0 hg2) trivial)
      · intro listed vals a wq K hD hst hv hcl hj haft hun hK
        have hKv := fun v h => hK v wq (Below.refl _ _) (madev_other (by decide) (by decide) hv) h
        obtain ⟨v99, h99, j99⟩ := hD.dep hj haft 14 99 rfl rfl
        replace j99 : v99 = (.bool gd) := j99
        subst j99
        replace hst : Below wr.heap.size _ wq := hst
        clear hD hj haft
        have e99 := eval_of h99
        refine step_now (v := .bool gd) (w' := wq) (wanted_free rfl) ?_ (hKv _ rfl)
        clear hK hKv hv hcl hun
        first | (go_simp; done) | (go_simp; rfl) | (go_simp; (try simp only [IntKind.wrap_u32]); omega)
    case hEnd =>
      intro vals wend dn hst hdn hv hj
      have j0 : vals 0 = (.agg #[.int .i64 st, .bool s1, .int .u32 e1, .int .u32 m1, .bool f1, .bool s2, .int .u32 e2, .int .u32 m2, .bool f2]) := hj 0 (by decide)
      have j1 : vals 1 = (.slice (some ad) l.length c) := hj 1 (by decide)
      have j2 : vals 2 = (.int .i64 k) := hj 2 (by decide)
      have j3 : vals 3 = (.pointer (some (ad.add (k * 11)))) := hj 3 (by decide)
      have j4 : vals 4 = (.pointer (some (ad.add (k * 11)))) := hj 4 (by decide)
      have j5 : vals 5 = (.bool xb) := hj 5 (by decide)
      have j6 : vals 6 = (.slice (some ad) l.length c) := hj 6 (by decide)
      have j7 : vals 7 = (.int .i64 k) := hj 7 (by decide)
      have j8 : vals 8 = (.pointer (some (ad.add (k * 11)))) := hj 8 (by decide)
      have j9 : vals 9 = (.pointer (some ⟨(ad.add (k * 11)).block, (ad.add (k * 11)).off + 1, none⟩)) := hj 9 (by decide)
      have j10 : vals 10 = (.agg #[.int .i64 sp, .int .i64 dp, .int .u32 sq, .int .u32 ak, .int .i64 fl, .int .i64 wi, .int .i64 ty, .int .i64 co, .int .i64 he, .int .i64 da]) := hj 10 (by decide)
      have j11 : vals 11 = (.tuple #[.agg #[.int .i64 nt, .bool ns1, .int .u32 ne1, .int .u32 nm1, .bool nf1, .bool ns2, .int .u32 ne2, .int .u32 nm2, .bool nf2], .bool gd]) := hj 11 (by decide)
      have j12 : vals 12 = (.tuple #[.agg #[.int .i64 nt, .bool ns1, .int .u32 ne1, .int .u32 nm1, .bool nf1, .bool ns2, .int .u32 ne2, .int .u32 nm2, .bool nf2], .bool gd]) := hj 12 (by decide)
      have j13 : vals 13 = (.agg #[.int .i64 nt, .bool ns1, .int .u32 ne1, .int .u32 nm1, .bool nf1, .bool ns2, .int .u32 ne2, .int .u32 nm2, .bool nf2]) := hj 13 (by decide)
      have j14 : vals 14 = (.bool gd) := hj 14 (by decide)
      have j15 : (fun (v : Value) (w1 : World) => True) (vals 15) wend := hj 15 (by decide)
      have j16 : (fun (v : Value) (w1 : World) => True) (vals 16) wend := hj 16 (by decide)
      have j17 : vals 17 = (.bool gd) := hj 17 (by decide)
      replace hst : Below wr.heap.size _ wend := hst
      obtain ⟨g19, hgv, hg0, hgb⟩ := madev_end hv (hdn 15 (by decide)) (hdn 16 (by decide))
      clear hj hv hdn
      simp only [List.take_succ_cons, List.take_zero, List.drop_succ_cons, List.drop_zero, putL, Act.put, List.setIfInBounds_toArray, List.set_cons_zero, List.set_cons_succ, j0, j1, j2, j3, j4, j5, j6, j7, j8, j9, j10, j11, j12, j13, j14, j17]
      clear j0 j1 j2 j3 j4 j5 j6 j7 j8 j9 j10 j11 j12 j13 j14 j17
      simp only [hgv]
      clear hgv j15 j16
      have HB2 := Aside0.mk (below_step HB.out hst)
      have BC2 := Aside0.mk (blk_below BC.out hst)
      have BN := Aside0.mk hgb
      have NE := Aside0.mk (show g11 ≠ g19 by have := blk_lt BC.out; omega)
      have LN := Aside0.mk (show w.heap.size ≤ g19 from Nat.le_trans HB.out.size hg0)
      clear HB BC hst hgb hg0
      go_upto_region 15 with (fail)
      refine wp_region_rg_seq (fun x y => Below x.heap.size x y) (fun (i : Nat) (v : Value) (w1 : World) => match i with | 0 => v = (.bool gd) | 1 => v = (.bool gd) | 2 => (gd) = true → v = (.pointer (some ⟨g19, 0, none⟩)) | 3 => (gd) = true → v = (.int .i64 nt) | 4 => (gd) = true → v = (.bool ((nt == 2))) | 5 => v = (.bool ((gd && (nt == 2)))) | 6 => v = (.bool ((gd && (nt == 2)))) | 7 => ((gd && (nt == 2))) = true → v = (.pointer (some ⟨g11, 0, none⟩)) | 8 => ((gd && (nt == 2))) = true → v = (.int .i64 st) | 9 => ((gd && (nt == 2))) = true → v = (.bool ((st == 1))) | 10 => v = (.bool (((gd && (nt == 2)) && (st == 1)))) | _ => True) (by kernel_rfl) (by kernel_rfl) below_tr (Below.refl _ _) ?hJst ?hObl ?hEnd
      case hJst =>
        intro i v wx wy hi hs0 hs1 hJi
        match i, hi with
        | 0, _ => exact hJi
        | 1, _ => exact hJi
        | 2, _ => exact hJi
        | 3, _ => exact hJi
        | 4, _ => exact hJi
        | 5, _ => exact hJi
        | 6, _ => exact hJi
        | 7, _ => exact hJi
        | 8, _ => exact hJi
        | 9, _ => exact hJi
        | 10, _ => exact hJi
        | _ + 11, hi => exact absurd hi (by simp)
      case hObl =>
        refine ⟨?_, ?_, ?_, ?_, ?_, ?_, ?_, ?_, ?_, ?_, ?_,  trivial⟩
        · intro listed vals a wq K hD hst hj haft hun hK
          have h20 := hD.out 20 rfl rfl
          replace hst : Below _ _ wq := hst
          clear hD hj haft hun
          have e20 := eval_of h20
          refine step_now (v := .bool gd) (w' := wq) (wanted_free rfl) ?_ (hK _ _ (Below.refl _ _) rfl)
          clear hK
          first | (go_simp; done) | (go_simp; rfl) | (go_simp; (try simp only [IntKind.wrap_u32]); omega)
        · intro listed vals a wq K hD hst hj haft hun hK
          obtain ⟨v100, h100, j100⟩ := hD.dep hj haft 0 100 rfl rfl
          replace j100 : v100 = (.bool gd) := j100
          subst j100
          replace hst : Below _ _ wq := hst
          clear hD hj haft hun
          have e100 := eval_of h100
          refine step_now (v := .bool gd) (w' := wq) (wanted_free rfl) ?_ (hK _ _ (Below.refl _ _) rfl)
          clear hK
          first | (go_simp; done) | (go_simp; rfl) | (go_simp; (try simp only [IntKind.wrap_u32]); omega)
        · intro listed vals a wq K hD hst hj haft hun hK
          obtain ⟨v101, h101, j101⟩ := hD.dep hj haft 1 101 rfl rfl
          replace j101 : v101 = (.bool gd) := j101
          subst j101
          have h19 := hD.out 19 rfl rfl
          replace hst : Below _ _ wq := hst
          clear hD hj haft hun
          rcases hE : (gd) with _ | _
          · rw [hE] at h101
            exact step_off (wanted_off (t := 101) (u := true) rfl rfl rfl h101) (hK _ _ (Below.refl _ _) (fun h => by rw [hE] at h; cases h))
          · rw [hE] at h101
            have e19 := eval_of h19
            refine step_now (v := .pointer (some ⟨g19, 0, none⟩)) (w' := wq) (wanted_on (t := 101) (u := true) rfl rfl rfl h101) ?_ (hK _ _ (Below.refl _ _) (fun _ => rfl))
            clear hK
            first | (go_simp; done) | (go_simp; rfl) | (go_simp; (try simp only [IntKind.wrap_u32]); omega)
        · intro listed vals a wq K hD hst hj haft hun hK
          obtain ⟨v102, h102, j102⟩ := hD.dep hj haft 2 102 rfl rfl
          replace j102 : (gd) = true → v102 = (.pointer (some ⟨g19, 0, none⟩)) := j102
          obtain ⟨v101, h101, j101⟩ := hD.dep hj haft 1 101 rfl rfl
          replace j101 : v101 = (.bool gd) := j101
          subst j101
          replace hst : Below _ _ wq := hst
          clear hD hj haft hun
          rcases hE : (gd) with _ | _
          · rw [hE] at h101
            exact step_off (wanted_off (t := 101) (u := true) rfl rfl rfl h101) (hK _ _ (Below.refl _ _) (fun h => by rw [hE] at h; cases h))
          · rw [hE] at h101
            obtain rfl := j102 hE
            have e102 := eval_of h102
            exact step_now (v := .int .i64 nt) (w' := wq) (wanted_on (t := 101) (u := true) rfl rfl rfl h101) (rg_load rfl e102 (blk_below BN.out hst) rfl Try.underlying3 rfl) (hK _ _ (Below.refl _ _) (fun _ => rfl))
        · intro listed vals a wq K hD hst hj haft hun hK
          obtain ⟨v103, h103, j103⟩ := hD.dep hj haft 3 103 rfl rfl
          replace j103 : (gd) = true → v103 = (.int .i64 nt) := j103
          obtain ⟨v101, h101, j101⟩ := hD.dep hj haft 1 101 rfl rfl
          replace j101 : v101 = (.bool gd) := j101
          subst j101
          replace hst : Below _ _ wq := hst
          clear hD hj haft hun
          rcases hE : (gd) with _ | _
          · rw [hE] at h101
            exact step_off (wanted_off (t := 101) (u := true) rfl rfl rfl h101) (hK _ _ (Below.refl _ _) (fun h => by rw [hE] at h; cases h))
          · rw [hE] at h101
            obtain rfl := j103 hE
            have e103 := eval_of h103
            refine step_now (v := .bool ((nt == 2))) (w' := wq) (wanted_on (t := 101) (u := true) rfl rfl rfl h101) ?_ (hK _ _ (Below.refl _ _) (fun _ => rfl))
            clear hK
            first | (go_simp; done) | (go_simp; rfl) | (go_simp; (try simp only [IntKind.wrap_u32]); omega)
        · intro listed vals a wq K hD hst hj haft hun hK
          obtain ⟨v101, h101, j101⟩ := hD.dep hj haft 1 101 rfl rfl
          replace j101 : v101 = (.bool gd) := j101
          subst j101
          obtain ⟨v104, h104, j104⟩ := hD.dep hj haft 4 104 rfl rfl
          replace j104 : (gd) = true → v104 = (.bool ((nt == 2))) := j104
          replace hst : Below _ _ wq := hst
          clear hD hj haft hun
          rcases hE : (gd) with _ | _
          · rw [hE] at h101
            have e101 := eval_of h101
            have e104 := eval_of h104
            refine step_now (v := .bool ((gd && (nt == 2)))) (w' := wq) (wanted_free rfl) ?_ (hK _ _ (Below.refl _ _) rfl)
            rw [hE]
            clear hK
            first | (go_simp; done) | (go_simp; rfl) | (go_simp; (try simp only [IntKind.wrap_u32]); omega)
          · rw [hE] at h101
            obtain rfl := j104 hE
            have e101 := eval_of h101
            have e104 := eval_of h104
            refine step_now (v := .bool ((gd && (nt == 2)))) (w' := wq) (wanted_free rfl) ?_ (hK _ _ (Below.refl _ _) rfl)
            rw [hE]
            clear hK
            first | (go_simp; done) | (go_simp; rfl) | (go_simp; (try simp only [IntKind.wrap_u32]); omega)
        · intro listed vals a wq K hD hst hj haft hun hK
          obtain ⟨v105, h105, j105⟩ := hD.dep hj haft 5 105 rfl rfl
          replace j105 : v105 = (.bool ((gd && (nt == 2)))) := j105
          subst j105
          replace hst : Below _ _ wq := hst
          clear hD hj haft hun
          have e105 := eval_of h105
          refine step_now (v := .bool ((gd && (nt == 2)))) (w' := wq) (wanted_free rfl) ?_ (hK _ _ (Below.refl _ _) rfl)
          clear hK
          first | (go_simp; done) | (go_simp; rfl) | (go_simp; (try simp only [IntKind.wrap_u32]); omega)
        · intro listed vals a wq K hD hst hj haft hun hK
          obtain ⟨v106, h106, j106⟩ := hD.dep hj haft 6 106 rfl rfl
          replace j106 : v106 = (.bool ((gd && (nt == 2)))) := j106
          subst j106
          have h11 := hD.out 11 rfl rfl
          replace hst : Below _ _ wq := hst
          clear hD hj haft hun
          rcases hE : ((gd && (nt == 2))) with _ | _
          · rw [hE] at h106
            exact step_off (wanted_off (t := 106) (u := true) rfl rfl rfl h106) (hK _ _ (Below.refl _ _) (fun h => by rw [hE] at h; cases h))
          · rw [hE] at h106
            have e11 := eval_of h11
            refine step_now (v := .pointer (some ⟨g11, 0, none⟩)) (w' := wq) (wanted_on (t := 106) (u := true) rfl rfl rfl h106) ?_ (hK _ _ (Below.refl _ _) (fun _ => rfl))
            clear hK
            first | (go_simp; done) | (go_simp; rfl) | (go_simp; (try simp only [IntKind.wrap_u32]); omega)
        · intro listed vals a wq K hD hst hj haft hun hK
          obtain ⟨v107, h107, j107⟩ := hD.dep hj haft 7 107 rfl rfl
          replace j107 : ((gd && (nt == 2))) = true → v107 = (.pointer (some ⟨g11, 0, none⟩)) := j107
          obtain ⟨v106, h106, j106⟩ := hD.dep hj haft 6 106 rfl rfl
          replace j106 : v106 = (.bool ((gd && (nt == 2)))) := j106
          subst j106
          replace hst : Below _ _ wq := hst
          clear hD hj haft hun
          rcases hE : ((gd && (nt == 2))) with _ | _
          · rw [hE] at h106
            exact step_off (wanted_off (t := 106) (u := true) rfl rfl rfl h106) (hK _ _ (Below.refl _ _) (fun h => by rw [hE] at h; cases h))
          · rw [hE] at h106
            obtain rfl := j107 hE
            have e107 := eval_of h107
            exact step_now (v := .int .i64 st) (w' := wq) (wanted_on (t := 106) (u := true) rfl rfl rfl h106) (rg_load rfl e107 (blk_below BC2.out hst) rfl Try.underlying3 rfl) (hK _ _ (Below.refl _ _) (fun _ => rfl))
        · intro listed vals a wq K hD hst hj haft hun hK
          obtain ⟨v108, h108, j108⟩ := hD.dep hj haft 8 108 rfl rfl
          replace j108 : ((gd && (nt == 2))) = true → v108 = (.int .i64 st) := j108
          obtain ⟨v106, h106, j106⟩ := hD.dep hj haft 6 106 rfl rfl
          replace j106 : v106 = (.bool ((gd && (nt == 2)))) := j106
          subst j106
          replace hst : Below _ _ wq := hst
          clear hD hj haft hun
          rcases hE : ((gd && (nt == 2))) with _ | _
          · rw [hE] at h106
            exact step_off (wanted_off (t := 106) (u := true) rfl rfl rfl h106) (hK _ _ (Below.refl _ _) (fun h => by rw [hE] at h; cases h))
          · rw [hE] at h106
            obtain rfl := j108 hE
            have e108 := eval_of h108
            refine step_now (v := .bool ((st == 1))) (w' := wq) (wanted_on (t := 106) (u := true) rfl rfl rfl h106) ?_ (hK _ _ (Below.refl _ _) (fun _ => rfl))
            clear hK
            first | (go_simp; done) | (go_simp; rfl) | (go_simp; (try simp only [IntKind.wrap_u32]); omega)
        · intro listed vals a wq K hD hst hj haft hun hK
          obtain ⟨v106, h106, j106⟩ := hD.dep hj haft 6 106 rfl rfl
          replace j106 : v106 = (.bool ((gd && (nt == 2)))) := j106
          subst j106
          obtain ⟨v109, h109, j109⟩ := hD.dep hj haft 9 109 rfl rfl
          replace j109 : ((gd && (nt == 2))) = true → v109 = (.bool ((st == 1))) := j109
          replace hst : Below _ _ wq := hst
          clear hD hj haft hun
          rcases hE : ((gd && (nt == 2))) with _ | _
          · rw [hE] at h106
            have e106 := eval_of h106
            have e109 := eval_of h109
            refine step_now (v := .bool (((gd && (nt == 2)) && (st == 1)))) (w' := wq) (wanted_free rfl) ?_ (hK _ _ (Below.refl _ _) rfl)
            rw [hE]
            clear hK
            first | (go_simp; done) | (go_simp; rfl) | (go_simp; (try simp only [IntKind.wrap_u32]); omega)
          · rw [hE] at h106
            obtain rfl := j109 hE
            have e106 := eval_of h106
            have e109 := eval_of h109
            refine step_now (v := .bool (((gd && (nt == 2)) && (st == 1)))) (w' := wq) (wanted_free rfl) ?_ (hK _ _ (Below.refl _ _) rfl)
            rw [hE]
            clear hK
            first | (go_simp; done) | (go_simp; rfl) | (go_simp; (try simp only [IntKind.wrap_u32]); omega)
      case hEnd =>
        intro vals wend hst hj
        have j0 : vals 0 = (.bool gd) := hj 0 (by decide)
        have j1 : vals 1 = (.bool gd) := hj 1 (by decide)
        have j5 : vals 5 = (.bool ((gd && (nt == 2)))) := hj 5 (by decide)
        have j6 : vals 6 = (.bool ((gd && (nt == 2)))) := hj 6 (by decide)
        have j10 : vals 10 = (.bool (((gd && (nt == 2)) && (st == 1)))) := hj 10 (by decide)
        replace hst : Below _ _ wend := hst
        clear hj
        rw [putAll_list]
        simp only [putL, Act.put, List.setIfInBounds_toArray, List.set_cons_zero, List.set_cons_succ, j0, j1, j5, j6, j10]
        clear j0 j1 j5 j6 j10
        generalize vals 2 = u102_
        generalize vals 3 = u103_
        generalize vals 4 = u104_
        generalize vals 7 = u107_
        generalize vals 8 = u108_
        generalize vals 9 = u109_
        have HB_51 := Aside0.mk (below_step HB2.out hst)
        clear HB2
        have Bg11_51 := Aside0.mk (blk_below BC2.out hst)
        clear BC2
        have Bg19_51 := Aside0.mk (blk_below BN.out hst)
        clear BN
        clear hst
        rcases hE : (((gd && (nt == 2)) && (st == 1))) with _ | _
        · have HAN2 : Aside0 (nt = 2 → an = true) := ⟨an_kept HAN.out HN.out hE⟩
          clear hE
          cases gd
          · go_wp2_with (first | ((with_reducible refine gate_dst (N := 168) rfl ?_); refine load_event rfl 41 _ rfl g19 rfl _ _ _ Bg19_51.out Try.underlying41 rfl (by kernel_rfl) ?_) | ((with_reducible refine gate_store (t := 41) (p := 11) rfl ?_); refine store_event rfl 41 _ _ rfl g11 _ rfl rfl _ _ Bg11_51.out (by kernel_rfl) rfl rfl ?_; intro wx52 hst hu; have HB_52 := Aside0.mk (below_upd HB_51.out hu (below_size HB_51.out) (fun k hk => by cases hk; exact HLo.out)); clear HB_51; have Bg19_52 := Aside0.mk (Upd.blk hu Bg19_51.out (One.not (Ne.symm NE.out))); clear Bg19_51; have Bg11_52 := Aside0.mk hst; clear hst hu Bg11_51))
            go_roundw
            case rel => exact ⟨k + 1, an, by have := HLT.out; omega, by go_num, rfl, ⟨nt, ne1, nm1, ne2, nm2, ns1, nf1, ns2, nf2, HAN2.out, Bg11_52.out⟩, HB_52⟩
            case measure => have := HLT.out; simp [intOf]; omega
          · rcases hn3 : (nt == 3) with _ | _
            · go_wp2_with (first | ((with_reducible refine gate_dst (N := 139) rfl ?_); (refine gate_guard (by rfl) ?_; dsimp only); refine load1_event rfl _ _ rfl g19 0 rfl _ _ _ _ Bg19_51.out rfl Try.underlying3 rfl ?_) | ((with_reducible refine gate_dst (N := 168) rfl ?_); refine load_event rfl 41 _ rfl g19 rfl _ _ _ Bg19_51.out Try.underlying41 rfl (by kernel_rfl) ?_) | ((with_reducible refine gate_store (t := 41) (p := 11) rfl ?_); refine store_event rfl 41 _ _ rfl g11 _ rfl rfl _ _ Bg11_51.out (by kernel_rfl) rfl rfl ?_; intro wx52 hst hu; have HB_52 := Aside0.mk (below_upd HB_51.out hu (below_size HB_51.out) (fun k hk => by cases hk; exact HLo.out)); clear HB_51; have Bg19_52 := Aside0.mk (Upd.blk hu Bg19_51.out (One.not (Ne.symm NE.out))); clear Bg19_51; have Bg11_52 := Aside0.mk hst; clear hst hu Bg11_51))
              go_roundw
              case rel => exact ⟨k + 1, an, by have := HLT.out; omega, by go_num, rfl, ⟨nt, ne1, nm1, ne2, nm2, ns1, nf1, ns2, nf2, HAN2.out, Bg11_52.out⟩, HB_52⟩
              case measure => have := HLT.out; simp [intOf]; omega
            · rcases hs3 : (st != 3) with _ | _
              · go_wp2_with (first | ((with_reducible refine gate_dst (N := 139) rfl ?_); (refine gate_guard (by rfl) ?_; dsimp only); refine load1_event rfl _ _ rfl g19 0 rfl _ _ _ _ Bg19_51.out rfl Try.underlying3 rfl ?_) | ((with_reducible refine gate_dst (N := 144) rfl ?_); (refine gate_guard (by rfl) ?_; dsimp only); refine load1_event rfl _ _ rfl g11 0 rfl _ _ _ _ Bg11_51.out rfl Try.underlying3 rfl ?_) | ((with_reducible refine gate_dst (N := 168) rfl ?_); refine load_event rfl 41 _ rfl g19 rfl _ _ _ Bg19_51.out Try.underlying41 rfl (by kernel_rfl) ?_) | ((with_reducible refine gate_store (t := 41) (p := 11) rfl ?_); refine store_event rfl 41 _ _ rfl g11 _ rfl rfl _ _ Bg11_51.out (by kernel_rfl) rfl rfl ?_; intro wx52 hst hu; have HB_52 := Aside0.mk (below_upd HB_51.out hu (below_size HB_51.out) (fun k hk => by cases hk; exact HLo.out)); clear HB_51; have Bg19_52 := Aside0.mk (Upd.blk hu Bg19_51.out (One.not (Ne.symm NE.out))); clear Bg19_51; have Bg11_52 := Aside0.mk hst; clear hst hu Bg11_51))
                go_roundw
                case rel => exact ⟨k + 1, an, by have := HLT.out; omega, by go_num, rfl, ⟨nt, ne1, nm1, ne2, nm2, ns1, nf1, ns2, nf2, HAN2.out, Bg11_52.out⟩, HB_52⟩
                case measure => have := HLT.out; simp [intOf]; omega
              · obtain ⟨t1, t2, t3⟩ := next_three ⟨st, ⟨s1, e1, m1, f1⟩, ⟨s2, e2, m2, f2⟩⟩ xb ⟨sp, dp, sq, ak, fl, wi, ty, co, he, da⟩ (by rw [HN.out]; exact beq_iff_eq.1 hn3) (by simpa using hs3)
                replace t1 : st = 2 := t1
                subst t2
                obtain rfl := HAN.out t1
                have t3' : (bits .and .i64 fl 16 == 0) = false := by have h : (bits .and .i64 fl 16 != 0) = true := t3; simpa using h
                have hs0 := script_cell HS.out HB_51.out HX.out
                have hs4 := script_flags HS.out HB_51.out HX.out
                clear t1 t3
                have hlt := HLT.out
                simp only at hs0 hs4
                go_wp2_with (first | ((with_reducible refine gate_dst (N := 139) rfl ?_); (refine gate_guard (by rfl) ?_; dsimp only); refine load1_event rfl _ _ rfl g19 0 rfl _ _ _ _ Bg19_51.out rfl Try.underlying3 rfl ?_) | ((with_reducible refine gate_dst (N := 144) rfl ?_); (refine gate_guard (by rfl) ?_; dsimp only); refine load1_event rfl _ _ rfl g11 0 rfl _ _ _ _ Bg11_51.out rfl Try.underlying3 rfl ?_) | ((with_reducible refine gate_dst (N := 168) rfl ?_); refine load_event rfl 41 _ rfl g19 rfl _ _ _ Bg19_51.out Try.underlying41 rfl (by kernel_rfl) ?_) | ((with_reducible refine gate_store (t := 41) (p := 11) rfl ?_); refine store_event rfl 41 _ _ rfl g11 _ rfl rfl _ _ Bg11_51.out (by kernel_rfl) rfl rfl ?_; intro wx52 hst hu; have HB_52 := Aside0.mk (below_upd HB_51.out hu (below_size HB_51.out) (fun k hk => by cases hk; exact HLo.out)); clear HB_51; have Bg19_52 := Aside0.mk (Upd.blk hu Bg19_51.out (One.not (Ne.symm NE.out))); clear Bg19_51; have Bg11_52 := Aside0.mk hst; clear hst hu Bg11_51))
                go_roundw
                case rel => exact ⟨k + 1, true, by have := HLT.out; omega, by go_num, rfl, ⟨nt, ne1, nm1, ne2, nm2, ns1, nf1, ns2, nf2, HAN2.out, Bg11_52.out⟩, HB_52⟩
                case measure => have := HLT.out; simp [intOf]; omega
        · simp only [Bool.and_eq_true, beq_iff_eq] at hE
          obtain ⟨⟨rfl, rfl⟩, rfl⟩ := hE
          obtain ⟨t1, t2, t3, t4⟩ := next_two ⟨1, ⟨s1, e1, m1, f1⟩, ⟨s2, e2, m2, f2⟩⟩ xb ⟨sp, dp, sq, ak, fl, wi, ty, co, he, da⟩ (by rw [HN.out]) rfl
          replace t2 : ak = e1 := t2
          subst t1 t2
          have t5 : (bits .and .i64 fl 18 != 18) = false := by rw [and18]; rw [show flag fl 2 = true from t3, show flag fl 16 = true from t4]; rfl
          have HAN2 : Aside0 ((2 : Int) = 2 → true = true) := ⟨fun _ => rfl⟩
          clear t3 t4 HAN
          have hlt := HLT.out
          go_upto_region 17 with (first | ((with_reducible refine gate_dst (N := 115) rfl ?_); refine loadmid_event rfl _ _ rfl _ _ rfl [.int .i64 sp, .int .i64 dp, .int .u32 sq, .int .u32 ak, .int .i64 fl, .int .i64 wi, .int .i64 ty, .int .i64 co, .int .i64 he, .int .i64 da] _ (script_range HS.out HB_51.out HX.out) Try.underlying43 rfl (by kernel_rfl) ?_) | ((with_reducible refine gate_dst (N := 21) rfl ?_); refine box_event ?hg (N := 21) ?hd (cs := #[.int .i64 0, .int .i64 0, .int .u32 0, .int .u32 0, .int .i64 0, .int .i64 0, .int .i64 0, .int .i64 0, .int .i64 0, .int .i64 0]) (t := 43) ?hr ?_; (case hd => rfl); (case hg => rfl); (case hr => first | (go_simp; done) | (go_simp; rfl)); intro g21 hgg wx52 hbox hb; have Ng11g21 := Aside0.mk (show g11 ≠ g21 by rw [hgg]; exact Nat.ne_of_lt (blk_lt Bg11_51.out)); have Ng19g21 := Aside0.mk (show g19 ≠ g21 by rw [hgg]; exact Nat.ne_of_lt (blk_lt Bg19_51.out)); have Lg21 := Aside0.mk (show w.heap.size ≤ g21 by rw [hgg]; exact below_size HB_51.out); have HB_52 := Aside0.mk (below_step HB_51.out hb); clear HB_51; have Bg11_52 := Aside0.mk (blk_below Bg11_51.out hb); clear Bg11_51; have Bg19_52 := Aside0.mk (blk_below Bg19_51.out hb); clear Bg19_51; have Bg21_52 := Aside0.mk hbox; clear hbox hb hgg) | ((with_reducible refine gate_store (t := 43) (p := 21) rfl ?_); refine store_event rfl 43 _ _ rfl g21 _ rfl rfl _ _ Bg21_52.out (by kernel_rfl) rfl rfl ?_; intro wx53 hst hu; have HB_53 := Aside0.mk (below_upd HB_52.out hu (below_size HB_52.out) (fun k hk => by cases hk; exact Lg21.out)); clear HB_52; have Bg11_53 := Aside0.mk (Upd.blk hu Bg11_52.out (One.not Ng11g21.out)); clear Bg11_52; have Bg19_53 := Aside0.mk (Upd.blk hu Bg19_52.out (One.not Ng19g21.out)); clear Bg19_52; have Bg21_53 := Aside0.mk hst; clear hst hu Bg21_52))
          have hs0 := script_cell HS.out HB_53.out HX.out
          simp only at hs0
          go_upto_region 19 with (first | ((with_reducible refine gate_dst (N := 124) rfl ?_); (refine gate_guard (by rfl) ?_; dsimp only); refine load1_event rfl _ _ rfl g21 3 rfl _ _ _ _ Bg21_53.out rfl Try.underlying33 rfl ?_) | ((with_reducible refine gate_dst (N := 127) rfl ?_); (refine gate_guard (by rfl) ?_; dsimp only); refine load1_event rfl _ _ rfl g11 2 rfl _ _ _ _ Bg11_53.out rfl Try.underlying33 rfl ?_) | ((with_reducible refine gate_dst (N := 132) rfl ?_); (refine gate_guard (by rfl) ?_; dsimp only); refine load1_event rfl _ _ rfl g21 4 rfl _ _ _ _ Bg21_53.out rfl Try.underlying3 rfl ?_))
          clear hs0
          go_wp2_with (first | ((with_reducible refine gate_dst (N := 139) rfl ?_); (refine gate_guard (by rfl) ?_; dsimp only); refine load1_event rfl _ _ rfl g19 0 rfl _ _ _ _ Bg19_53.out rfl Try.underlying3 rfl ?_) | ((with_reducible refine gate_dst (N := 168) rfl ?_); refine load_event rfl 41 _ rfl g19 rfl _ _ _ Bg19_53.out Try.underlying41 rfl (by kernel_rfl) ?_) | ((with_reducible refine gate_store (t := 41) (p := 11) rfl ?_); refine store_event rfl 41 _ _ rfl g11 _ rfl rfl _ _ Bg11_53.out (by kernel_rfl) rfl rfl ?_; intro wx54 hst hu; have HB_54 := Aside0.mk (below_upd HB_53.out hu (below_size HB_53.out) (fun k hk => by cases hk; exact HLo.out)); clear HB_53; have Bg19_54 := Aside0.mk (Upd.blk hu Bg19_53.out (One.not (Ne.symm NE.out))); clear Bg19_53; have Bg21_54 := Aside0.mk (Upd.blk hu Bg21_53.out (One.not (Ne.symm Ng11g21.out))); clear Bg21_53; have Bg11_54 := Aside0.mk hst; clear hst hu Bg11_53))
          go_roundw
          case rel => exact ⟨k + 1, true, by have := HLT.out; omega, by go_num, rfl, ⟨2, ne1, nm1, ne2, nm2, ns1, nf1, ns2, nf2, HAN2.out, Bg11_54.out⟩, HB_54⟩
          case measure => have := HLT.out; simp [intOf]; omega
end Go.Proofs.Ytainkpgplmkiaaa.WindowOpensWalk
