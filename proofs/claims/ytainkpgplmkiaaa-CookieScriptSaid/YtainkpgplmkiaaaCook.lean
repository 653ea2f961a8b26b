/- cookie's mixing: the program's round and take, and the reference's: contracts. No condition. -/
import Derived.Test.YtainkpgplmkiaaaProg
import Derived.WalkKit
import Derived.WalkSpells
import Derived.WalkLawsBesides
import Derived.StillTailTactics
import Derived.Lib.Hide
import Derived.Outline
import Derived.BigQuiet
import Derived.Deep.QuietTactic
import Derived.LoopN
import Derived.Test.YtainkpgplmkiaaaEv
namespace Go.Proofs.Ytainkpgplmkiaaa.Cook
open Go Go.RowKit Go.Proofs.YtainkpgplmkiaaaW.PrintWords Go.Proofs.YtainkpgplmkiaaaW.PrintLast Go.Proofs.YtainkpgplmkiaaaW.PrintMore Go.Proofs.Ytainkpgplmkiaaa.MWorld Go.Proofs.Ytainkpgplmkiaaa.Ev Go.Proofs.Ytainkpgplmkiaaa.Rg
set_option linter.unusedVariables false
set_option linter.unusedSimpArgs false
/-- x, turned: p and q say by how much -/
def rl (x p q : Int) : Int := bits .or .u64 (IntKind.u64.wrap (x * p)) (x / q)
structure V4 where
  a : Int
  b : Int
  c : Int
  d : Int
def V4.val (v : V4) : Value := .agg #[.int .u64 v.a, .int .u64 v.b, .int .u64 v.c, .int .u64 v.d]
/-- One round. -/
def rnd (v : V4) : V4 :=
  let a1 := IntKind.u64.wrap (v.a + v.b)
  let b1 := bits .xor .u64 (rl v.b 8192 2251799813685248) a1
  let a2 := rl a1 4294967296 4294967296
  let c1 := IntKind.u64.wrap (v.c + v.d)
  let d1 := bits .xor .u64 (rl v.d 65536 281474976710656) c1
  let a3 := IntKind.u64.wrap (a2 + d1)
  let d2 := bits .xor .u64 (rl d1 2097152 8796093022208) a3
  let c2 := IntKind.u64.wrap (c1 + b1)
  let b2 := bits .xor .u64 (rl b1 131072 140737488355328) c2
  let c3 := rl c2 4294967296 4294967296
  ⟨a3, b2, c3, d2⟩
def rounds : Nat → V4 → V4
  | 0, v => v
  | n + 1, v => rnd (rounds n v)
def tk (v : V4) (m : Int) : V4 :=
  let v1 := rnd (rnd ⟨v.a, v.b, v.c, bits .xor .u64 v.d m⟩)
  ⟨bits .xor .u64 v1.a m, v1.b, v1.c, v1.d⟩
theorem ret_int {k : IntKind} {a b : Int} (h : a = b) : Ending.returned (.int k a) = Ending.returned (.int k b) := by rw [h]
theorem rot13 (x r : Int) (w : World) (h : rl x 8192 2251799813685248 = r) : Calls Try.prog 51 #[.int .u64 x, .int .i64 13] w fun e w' => e = .returned (.int .u64 r) ∧ w = w' := by
  subst h
  have h1 : bits .and .u64 13 63 = 13 := by kernel_rfl
  go_enter Try.func51, Try.ntmps51
  go_wp2
  go_ret
  exact ⟨rfl, rfl⟩
theorem left13 (x r : Int) (w : World) (h : rl x 8192 2251799813685248 = r) : Calls Try.prog 52 #[.int .u64 x, .int .i64 13] w fun e w' => e = .returned (.int .u64 r) ∧ Below w.heap.size w w' := by
  subst h
  go_enter Try.func52, Try.ntmps52
  go_wp2
  go_quiet (fail)
  go_wp2
  go_ret
  exact ⟨rfl, pw_below_drewN (Below.refl _ _) nq⟩
theorem rot32 (x r : Int) (w : World) (h : rl x 4294967296 4294967296 = r) : Calls Try.prog 51 #[.int .u64 x, .int .i64 32] w fun e w' => e = .returned (.int .u64 r) ∧ w = w' := by
  subst h
  have h1 : bits .and .u64 32 63 = 32 := by kernel_rfl
  go_enter Try.func51, Try.ntmps51
  go_wp2
  go_ret
  exact ⟨rfl, rfl⟩
theorem left32 (x r : Int) (w : World) (h : rl x 4294967296 4294967296 = r) : Calls Try.prog 52 #[.int .u64 x, .int .i64 32] w fun e w' => e = .returned (.int .u64 r) ∧ Below w.heap.size w w' := by
  subst h
  go_enter Try.func52, Try.ntmps52
  go_wp2
  go_quiet (fail)
  go_wp2
  go_ret
  exact ⟨rfl, pw_below_drewN (Below.refl _ _) nq⟩
theorem rot16 (x r : Int) (w : World) (h : rl x 65536 281474976710656 = r) : Calls Try.prog 51 #[.int .u64 x, .int .i64 16] w fun e w' => e = .returned (.int .u64 r) ∧ w = w' := by
  subst h
  have h1 : bits .and .u64 16 63 = 16 := by kernel_rfl
  go_enter Try.func51, Try.ntmps51
  go_wp2
  go_ret
  exact ⟨rfl, rfl⟩
theorem left16 (x r : Int) (w : World) (h : rl x 65536 281474976710656 = r) : Calls Try.prog 52 #[.int .u64 x, .int .i64 16] w fun e w' => e = .returned (.int .u64 r) ∧ Below w.heap.size w w' := by
  subst h
  go_enter Try.func52, Try.ntmps52
  go_wp2
  go_quiet (fail)
  go_wp2
  go_ret
  exact ⟨rfl, pw_below_drewN (Below.refl _ _) nq⟩
theorem rot21 (x r : Int) (w : World) (h : rl x 2097152 8796093022208 = r) : Calls Try.prog 51 #[.int .u64 x, .int .i64 21] w fun e w' => e = .returned (.int .u64 r) ∧ w = w' := by
  subst h
  have h1 : bits .and .u64 21 63 = 21 := by kernel_rfl
  go_enter Try.func51, Try.ntmps51
  go_wp2
  go_ret
  exact ⟨rfl, rfl⟩
theorem left21 (x r : Int) (w : World) (h : rl x 2097152 8796093022208 = r) : Calls Try.prog 52 #[.int .u64 x, .int .i64 21] w fun e w' => e = .returned (.int .u64 r) ∧ Below w.heap.size w w' := by
  subst h
  go_enter Try.func52, Try.ntmps52
  go_wp2
  go_quiet (fail)
  go_wp2
  go_ret
  exact ⟨rfl, pw_below_drewN (Below.refl _ _) nq⟩
theorem rot17 (x r : Int) (w : World) (h : rl x 131072 140737488355328 = r) : Calls Try.prog 51 #[.int .u64 x, .int .i64 17] w fun e w' => e = .returned (.int .u64 r) ∧ w = w' := by
  subst h
  have h1 : bits .and .u64 17 63 = 17 := by kernel_rfl
  go_enter Try.func51, Try.ntmps51
  go_wp2
  go_ret
  exact ⟨rfl, rfl⟩
theorem left17 (x r : Int) (w : World) (h : rl x 131072 140737488355328 = r) : Calls Try.prog 52 #[.int .u64 x, .int .i64 17] w fun e w' => e = .returned (.int .u64 r) ∧ Below w.heap.size w w' := by
  subst h
  go_enter Try.func52, Try.ntmps52
  go_wp2
  go_quiet (fail)
  go_wp2
  go_ret
  exact ⟨rfl, pw_below_drewN (Below.refl _ _) nq⟩
set_option maxRecDepth 100000 in
set_option maxHeartbeats 8000000 in
theorem rround_ways (va vb vc vd a1 r1 b1 a2 c1 r2 d1 a3 r3 d2 c2 r4 b2 c3 : Int) (w : World) (ha1 : IntKind.u64.wrap (va + vb) = a1) (hr1 : rl vb 8192 2251799813685248 = r1) (hb1 : bits .xor .u64 r1 a1 = b1) (ha2 : rl a1 4294967296 4294967296 = a2) (hc1 : IntKind.u64.wrap (vc + vd) = c1) (hr2 : rl vd 65536 281474976710656 = r2) (hd1 : bits .xor .u64 r2 c1 = d1) (ha3 : IntKind.u64.wrap (a2 + d1) = a3) (hr3 : rl d1 2097152 8796093022208 = r3) (hd2 : bits .xor .u64 r3 a3 = d2) (hc2 : IntKind.u64.wrap (c1 + b1) = c2) (hr4 : rl b1 131072 140737488355328 = r4) (hb2 : bits .xor .u64 r4 c2 = b2) (hc3 : rl c2 4294967296 4294967296 = c3) : Calls Try.prog 36 #[.agg #[.int .u64 va, .int .u64 vb, .int .u64 vc, .int .u64 vd]] w fun e w' => e = .returned (.agg #[.int .u64 a3, .int .u64 b2, .int .u64 c3, .int .u64 d2]) ∧ Below w.heap.size w w' := by
  have Hr1 := Aside0.mk hr1
  clear hr1
  have Ha2 := Aside0.mk ha2
  clear ha2
  have Hr2 := Aside0.mk hr2
  clear hr2
  have Hr3 := Aside0.mk hr3
  clear hr3
  have Hr4 := Aside0.mk hr4
  clear hr4
  have Hc3 := Aside0.mk hc3
  clear hc3
  go_enter Try.func36, Try.ntmps36
  go_upto_region 2 with (first | ((with_reducible refine gate_dst (N := 1) rfl ?_); refine box_event ?hg (N := 1) ?hd (cs := #[.int .u64 va, .int .u64 vb, .int .u64 vc, .int .u64 vd]) (t := 88) ?hr ?_; (case hd => rfl); (case hg => rfl); (case hr => first | (go_simp; done) | (go_simp; rfl)); intro g1 hgg wx1 hbox hb; have Lg1 := Aside0.mk (show w.heap.size ≤ g1 by rw [hgg]; exact Nat.le_refl _); have HB_1 := Aside0.mk (hb); have Bg1_1 := Aside0.mk hbox; clear hbox hb hgg) | ((with_reducible refine gate_dst (N := 2) rfl ?_); refine box_event ?hg (N := 2) ?hd (cs := #[.int .u64 0, .int .u64 0, .int .u64 0, .int .u64 0]) (t := 88) ?hr ?_; (case hd => rfl); (case hg => rfl); (case hr => first | (go_simp; done) | (go_simp; rfl)); intro g2 hgg wx2 hbox hb; have Ng1g2 := Aside0.mk (show g1 ≠ g2 by rw [hgg]; exact Nat.ne_of_lt (blk_lt Bg1_1.out)); have Lg2 := Aside0.mk (show w.heap.size ≤ g2 by rw [hgg]; exact below_size HB_1.out); have HB_2 := Aside0.mk (below_step HB_1.out hb); clear HB_1; have Bg1_2 := Aside0.mk (blk_below Bg1_1.out hb); clear Bg1_1; have Bg2_2 := Aside0.mk hbox; clear hbox hb hgg) | ((with_reducible refine gate_dst (N := 4) rfl ?_); refine load1_event rfl _ _ rfl g1 0 rfl _ _ _ _ Bg1_2.out rfl Try.underlying22 rfl ?_) | ((with_reducible refine gate_dst (N := 6) rfl ?_); refine load1_event rfl _ _ rfl g1 1 rfl _ _ _ _ Bg1_2.out rfl Try.underlying22 rfl ?_) | ((with_reducible refine gate_store (t := 22) (p := 8) rfl ?_); refine store1_event rfl _ _ _ rfl g1 0 rfl (.int .u64 a1) _ ?hy _ _ #[.int .u64 a1, .int .u64 vb, .int .u64 vc, .int .u64 vd] Bg1_2.out rfl (by kernel_rfl) rfl rfl rfl ?_; (case hy => first | (with_reducible rfl) | rfl | (refine congrArg (Value.int _) ?_; omega)); intro wx3 hst hu; have HB_3 := Aside0.mk (below_upd HB_2.out hu (below_size HB_2.out) (fun k hk => by cases hk; exact Lg1.out)); clear HB_2; have Bg2_3 := Aside0.mk (Upd.blk hu Bg2_2.out (One.not (Ne.symm Ng1g2.out))); clear Bg2_2; have Bg1_3 := Aside0.mk hst; clear hst hu Bg1_2))
  refine wp_region_rg_list 7 (by kernel_rfl) (fun x y => Below x.heap.size x y) (fun (i : Nat) (v : Value) (w1 : World) => match i with | 0 => v = (.pointer (some ⟨g1, 1, none⟩)) | 1 => v = (.int .u64 vb) | 2 => v = (.int .u64 r1) | 3 => v = (.pointer (some ⟨g1, 0, none⟩)) | 4 => v = (.int .u64 a1) | 5 => v = (.int .u64 b1) | 6 => v = (.pointer (some ⟨g1, 1, none⟩)) | _ => True) (by kernel_rfl) (by kernel_rfl) (by kernel_rfl) (by kernel_rfl) below_tr (Below.refl _ _).drew ?hJst1 ?hObl1 ?hEnd1
  case hJst1 =>
    intro i v wx wy hi hs0 hs1 hJi
    match i, hi with
    | 0, _ => exact hJi
    | 1, _ => exact hJi
    | 2, _ => exact hJi
    | 3, _ => exact hJi
    | 4, _ => exact hJi
    | 5, _ => exact hJi
    | 6, _ => exact hJi
    | _ + 7, hi => exact absurd hi (by simp)
  case hObl1 =>
    refine ⟨?_, ?_, ?_, ?_, ?_, ?_, ?_,  trivial⟩
    · intro listed vals a wq K hD hst hj haft hun hK
      have h1 := hD.out 1 rfl rfl
      clear hD hj haft hun
      have e1 := eval_of h1
      refine step_now (v := .pointer (some ⟨g1, 1, none⟩)) (w' := wq) (wanted_free rfl) ?_ (hK _ _ (Below.refl _ _) rfl)
      clear hK
      first | (go_simp; done) | (go_simp; rfl)
    · intro listed vals a wq K hD hst hj haft hun hK
      obtain ⟨v9, h9, j9⟩ := hD.dep hj haft 0 9 rfl rfl
      replace j9 : v9 = (.pointer (some ⟨g1, 1, none⟩)) := j9
      subst j9
      replace hst : Below _ _ wq := hst
      clear hD hj haft hun
      have e9 := eval_of h9
      exact step_now (v := .int .u64 vb) (w' := wq) (wanted_free rfl) (rg_load rfl e9 (blk_below Bg1_3.out hst) rfl Try.underlying22 rfl) (hK _ _ (Below.refl _ _) rfl)
    · intro listed vals a wq K hD hst hj haft hun hK
      obtain ⟨v10, h10, j10⟩ := hD.dep hj haft 1 10 rfl rfl
      replace j10 : v10 = (.int .u64 vb) := j10
      subst j10
      clear hD hj haft hun
      have e10 := eval_of h10
      refine step_call (f := 52) (args := #[.int .u64 vb, .int .i64 13]) (wanted_free rfl) ?_ (left13 vb r1 wq Hr1.out) ?_
      · clear hK; first | (go_simp; done) | (go_simp; rfl)
      · rintro e w' ⟨rfl, hbq⟩; exact ⟨_, rfl, hK _ _ hbq rfl⟩
    · intro listed vals a wq K hD hst hj haft hun hK
      have h1 := hD.out 1 rfl rfl
      clear hD hj haft hun
      have e1 := eval_of h1
      refine step_now (v := .pointer (some ⟨g1, 0, none⟩)) (w' := wq) (wanted_free rfl) ?_ (hK _ _ (Below.refl _ _) rfl)
      clear hK
      first | (go_simp; done) | (go_simp; rfl)
    · intro listed vals a wq K hD hst hj haft hun hK
      obtain ⟨v12, h12, j12⟩ := hD.dep hj haft 3 12 rfl rfl
      replace j12 : v12 = (.pointer (some ⟨g1, 0, none⟩)) := j12
      subst j12
      replace hst : Below _ _ wq := hst
      clear hD hj haft hun
      have e12 := eval_of h12
      exact step_now (v := .int .u64 a1) (w' := wq) (wanted_free rfl) (rg_load rfl e12 (blk_below Bg1_3.out hst) rfl Try.underlying22 rfl) (hK _ _ (Below.refl _ _) rfl)
    · intro listed vals a wq K hD hst hj haft hun hK
      obtain ⟨v11, h11, j11⟩ := hD.dep hj haft 2 11 rfl rfl
      replace j11 : v11 = (.int .u64 r1) := j11
      subst j11
      obtain ⟨v13, h13, j13⟩ := hD.dep hj haft 4 13 rfl rfl
      replace j13 : v13 = (.int .u64 a1) := j13
      subst j13
      clear hD hj haft hun
      have e11 := eval_of h11
      have e13 := eval_of h13
      refine step_now (v := .int .u64 b1) (w' := wq) (wanted_free rfl) ?_ (hK _ _ (Below.refl _ _) rfl)
      clear hK
      first | (go_simp; done) | (go_simp; rfl) | (go_simp; (try simp only [IntKind.wrap_u32]); omega)
    · intro listed vals a wq K hD hst hj haft hun hK
      have h1 := hD.out 1 rfl rfl
      clear hD hj haft hun
      have e1 := eval_of h1
      refine step_now (v := .pointer (some ⟨g1, 1, none⟩)) (w' := wq) (wanted_free rfl) ?_ (hK _ _ (Below.refl _ _) rfl)
      clear hK
      first | (go_simp; done) | (go_simp; rfl)
  intro vals wend hst hj
  have j0 : vals 0 = (.pointer (some ⟨g1, 1, none⟩)) := hj 0 (by decide)
  have j1 : vals 1 = (.int .u64 vb) := hj 1 (by decide)
  have j2 : vals 2 = (.int .u64 r1) := hj 2 (by decide)
  have j3 : vals 3 = (.pointer (some ⟨g1, 0, none⟩)) := hj 3 (by decide)
  have j4 : vals 4 = (.int .u64 a1) := hj 4 (by decide)
  have j5 : vals 5 = (.int .u64 b1) := hj 5 (by decide)
  have j6 : vals 6 = (.pointer (some ⟨g1, 1, none⟩)) := hj 6 (by decide)
  replace hst : Below _ _ wend := hst
  clear hj
  simp only [List.take_succ_cons, List.take_zero, List.drop_succ_cons, List.drop_zero, putL, Act.put, List.setIfInBounds_toArray, List.set_cons_zero, List.set_cons_succ, j0, j1, j2, j3, j4, j5, j6]
  clear j0 j1 j2 j3 j4 j5 j6
  have HB_4 := Aside0.mk (below_step HB_3.out hst)
  clear HB_3
  have Bg1_4 := Aside0.mk (blk_below Bg1_3.out hst)
  clear Bg1_3
  have Bg2_4 := Aside0.mk (blk_below Bg2_3.out hst)
  clear Bg2_3
  clear hst
  go_upto_region 4 with (first | ((with_reducible refine gate_store (t := 22) (p := 15) rfl ?_); refine store1_event rfl _ _ _ rfl g1 1 rfl (.int .u64 b1) _ ?hy _ _ #[.int .u64 a1, .int .u64 b1, .int .u64 vc, .int .u64 vd] Bg1_4.out rfl (by kernel_rfl) rfl rfl rfl ?_; (case hy => first | (with_reducible rfl) | rfl | (refine congrArg (Value.int _) ?_; omega)); intro wx5 hst hu; have HB_5 := Aside0.mk (below_upd HB_4.out hu (below_size HB_4.out) (fun k hk => by cases hk; exact Lg1.out)); clear HB_4; have Bg2_5 := Aside0.mk (Upd.blk hu Bg2_4.out (One.not (Ne.symm Ng1g2.out))); clear Bg2_4; have Bg1_5 := Aside0.mk hst; clear hst hu Bg1_4) | ((with_reducible refine gate_dst (N := 17) rfl ?_); refine load1_event rfl _ _ rfl g1 0 rfl _ _ _ _ Bg1_5.out rfl Try.underlying22 rfl ?_) | (go_at_call 52; refine (left32 a1 a2 _ Ha2.out).mono ?_; rintro e wx6 ⟨rfl, hb⟩; have HB_6 := Aside0.mk (below_step HB_5.out hb); clear HB_5; have Bg1_6 := Aside0.mk (blk_below Bg1_5.out hb); clear Bg1_5; have Bg2_6 := Aside0.mk (blk_below Bg2_5.out hb); clear Bg2_5; clear hb) | ((with_reducible refine gate_store (t := 22) (p := 19) rfl ?_); refine store1_event rfl _ _ _ rfl g1 0 rfl (.int .u64 a2) _ ?hy _ _ #[.int .u64 a2, .int .u64 b1, .int .u64 vc, .int .u64 vd] Bg1_6.out rfl (by kernel_rfl) rfl rfl rfl ?_; (case hy => first | (with_reducible rfl) | rfl | (refine congrArg (Value.int _) ?_; omega)); intro wx7 hst hu; have HB_7 := Aside0.mk (below_upd HB_6.out hu (below_size HB_6.out) (fun k hk => by cases hk; exact Lg1.out)); clear HB_6; have Bg2_7 := Aside0.mk (Upd.blk hu Bg2_6.out (One.not (Ne.symm Ng1g2.out))); clear Bg2_6; have Bg1_7 := Aside0.mk hst; clear hst hu Bg1_6))
  go_upto_region 5 with (first | ((with_reducible refine gate_dst (N := 21) rfl ?_); refine load1_event rfl _ _ rfl g1 2 rfl _ _ _ _ Bg1_7.out rfl Try.underlying22 rfl ?_) | ((with_reducible refine gate_dst (N := 23) rfl ?_); refine load1_event rfl _ _ rfl g1 3 rfl _ _ _ _ Bg1_7.out rfl Try.underlying22 rfl ?_) | ((with_reducible refine gate_store (t := 22) (p := 25) rfl ?_); refine store1_event rfl _ _ _ rfl g1 2 rfl (.int .u64 c1) _ ?hy _ _ #[.int .u64 a2, .int .u64 b1, .int .u64 c1, .int .u64 vd] Bg1_7.out rfl (by kernel_rfl) rfl rfl rfl ?_; (case hy => first | (with_reducible rfl) | rfl | (refine congrArg (Value.int _) ?_; omega)); intro wx8 hst hu; have HB_8 := Aside0.mk (below_upd HB_7.out hu (below_size HB_7.out) (fun k hk => by cases hk; exact Lg1.out)); clear HB_7; have Bg2_8 := Aside0.mk (Upd.blk hu Bg2_7.out (One.not (Ne.symm Ng1g2.out))); clear Bg2_7; have Bg1_8 := Aside0.mk hst; clear hst hu Bg1_7))
  refine wp_region_rg_list 7 (by kernel_rfl) (fun x y => Below x.heap.size x y) (fun (i : Nat) (v : Value) (w1 : World) => match i with | 0 => v = (.pointer (some ⟨g1, 3, none⟩)) | 1 => v = (.int .u64 vd) | 2 => v = (.int .u64 r2) | 3 => v = (.pointer (some ⟨g1, 2, none⟩)) | 4 => v = (.int .u64 c1) | 5 => v = (.int .u64 d1) | 6 => v = (.pointer (some ⟨g1, 3, none⟩)) | _ => True) (by kernel_rfl) (by kernel_rfl) (by kernel_rfl) (by kernel_rfl) below_tr (Below.refl _ _).drew ?hJst2 ?hObl2 ?hEnd2
  case hJst2 =>
    intro i v wx wy hi hs0 hs1 hJi
    match i, hi with
    | 0, _ => exact hJi
    | 1, _ => exact hJi
    | 2, _ => exact hJi
    | 3, _ => exact hJi
    | 4, _ => exact hJi
    | 5, _ => exact hJi
    | 6, _ => exact hJi
    | _ + 7, hi => exact absurd hi (by simp)
  case hObl2 =>
    refine ⟨?_, ?_, ?_, ?_, ?_, ?_, ?_,  trivial⟩
    · intro listed vals a wq K hD hst hj haft hun hK
      have h1 := hD.out 1 rfl rfl
      clear hD hj haft hun
      have e1 := eval_of h1
      refine step_now (v := .pointer (some ⟨g1, 3, none⟩)) (w' := wq) (wanted_free rfl) ?_ (hK _ _ (Below.refl _ _) rfl)
      clear hK
      first | (go_simp; done) | (go_simp; rfl)
    · intro listed vals a wq K hD hst hj haft hun hK
      obtain ⟨v26, h26, j26⟩ := hD.dep hj haft 0 26 rfl rfl
      replace j26 : v26 = (.pointer (some ⟨g1, 3, none⟩)) := j26
      subst j26
      replace hst : Below _ _ wq := hst
      clear hD hj haft hun
      have e26 := eval_of h26
      exact step_now (v := .int .u64 vd) (w' := wq) (wanted_free rfl) (rg_load rfl e26 (blk_below Bg1_8.out hst) rfl Try.underlying22 rfl) (hK _ _ (Below.refl _ _) rfl)
    · intro listed vals a wq K hD hst hj haft hun hK
      obtain ⟨v27, h27, j27⟩ := hD.dep hj haft 1 27 rfl rfl
      replace j27 : v27 = (.int .u64 vd) := j27
      subst j27
      clear hD hj haft hun
      have e27 := eval_of h27
      refine step_call (f := 52) (args := #[.int .u64 vd, .int .i64 16]) (wanted_free rfl) ?_ (left16 vd r2 wq Hr2.out) ?_
      · clear hK; first | (go_simp; done) | (go_simp; rfl)
      · rintro e w' ⟨rfl, hbq⟩; exact ⟨_, rfl, hK _ _ hbq rfl⟩
    · intro listed vals a wq K hD hst hj haft hun hK
      have h1 := hD.out 1 rfl rfl
      clear hD hj haft hun
      have e1 := eval_of h1
      refine step_now (v := .pointer (some ⟨g1, 2, none⟩)) (w' := wq) (wanted_free rfl) ?_ (hK _ _ (Below.refl _ _) rfl)
      clear hK
      first | (go_simp; done) | (go_simp; rfl)
    · intro listed vals a wq K hD hst hj haft hun hK
      obtain ⟨v29, h29, j29⟩ := hD.dep hj haft 3 29 rfl rfl
      replace j29 : v29 = (.pointer (some ⟨g1, 2, none⟩)) := j29
      subst j29
      replace hst : Below _ _ wq := hst
      clear hD hj haft hun
      have e29 := eval_of h29
      exact step_now (v := .int .u64 c1) (w' := wq) (wanted_free rfl) (rg_load rfl e29 (blk_below Bg1_8.out hst) rfl Try.underlying22 rfl) (hK _ _ (Below.refl _ _) rfl)
    · intro listed vals a wq K hD hst hj haft hun hK
      obtain ⟨v28, h28, j28⟩ := hD.dep hj haft 2 28 rfl rfl
      replace j28 : v28 = (.int .u64 r2) := j28
      subst j28
      obtain ⟨v30, h30, j30⟩ := hD.dep hj haft 4 30 rfl rfl
      replace j30 : v30 = (.int .u64 c1) := j30
      subst j30
      clear hD hj haft hun
      have e28 := eval_of h28
      have e30 := eval_of h30
      refine step_now (v := .int .u64 d1) (w' := wq) (wanted_free rfl) ?_ (hK _ _ (Below.refl _ _) rfl)
      clear hK
      first | (go_simp; done) | (go_simp; rfl) | (go_simp; (try simp only [IntKind.wrap_u32]); omega)
    · intro listed vals a wq K hD hst hj haft hun hK
      have h1 := hD.out 1 rfl rfl
      clear hD hj haft hun
      have e1 := eval_of h1
      refine step_now (v := .pointer (some ⟨g1, 3, none⟩)) (w' := wq) (wanted_free rfl) ?_ (hK _ _ (Below.refl _ _) rfl)
      clear hK
      first | (go_simp; done) | (go_simp; rfl)
  intro vals wend hst hj
  have j0 : vals 0 = (.pointer (some ⟨g1, 3, none⟩)) := hj 0 (by decide)
  have j1 : vals 1 = (.int .u64 vd) := hj 1 (by decide)
  have j2 : vals 2 = (.int .u64 r2) := hj 2 (by decide)
  have j3 : vals 3 = (.pointer (some ⟨g1, 2, none⟩)) := hj 3 (by decide)
  have j4 : vals 4 = (.int .u64 c1) := hj 4 (by decide)
  have j5 : vals 5 = (.int .u64 d1) := hj 5 (by decide)
  have j6 : vals 6 = (.pointer (some ⟨g1, 3, none⟩)) := hj 6 (by decide)
  replace hst : Below _ _ wend := hst
  clear hj
  simp only [List.take_succ_cons, List.take_zero, List.drop_succ_cons, List.drop_zero, putL, Act.put, List.setIfInBounds_toArray, List.set_cons_zero, List.set_cons_succ, j0, j1, j2, j3, j4, j5, j6]
  clear j0 j1 j2 j3 j4 j5 j6
  have HB_9 := Aside0.mk (below_step HB_8.out hst)
  clear HB_8
  have Bg1_9 := Aside0.mk (blk_below Bg1_8.out hst)
  clear Bg1_8
  have Bg2_9 := Aside0.mk (blk_below Bg2_8.out hst)
  clear Bg2_8
  clear hst
  go_upto_region 7 with (first | ((with_reducible refine gate_store (t := 22) (p := 32) rfl ?_); refine store1_event rfl _ _ _ rfl g1 3 rfl (.int .u64 d1) _ ?hy _ _ #[.int .u64 a2, .int .u64 b1, .int .u64 c1, .int .u64 d1] Bg1_9.out rfl (by kernel_rfl) rfl rfl rfl ?_; (case hy => first | (with_reducible rfl) | rfl | (refine congrArg (Value.int _) ?_; omega)); intro wx10 hst hu; have HB_10 := Aside0.mk (below_upd HB_9.out hu (below_size HB_9.out) (fun k hk => by cases hk; exact Lg1.out)); clear HB_9; have Bg2_10 := Aside0.mk (Upd.blk hu Bg2_9.out (One.not (Ne.symm Ng1g2.out))); clear Bg2_9; have Bg1_10 := Aside0.mk hst; clear hst hu Bg1_9) | ((with_reducible refine gate_dst (N := 34) rfl ?_); refine load1_event rfl _ _ rfl g1 0 rfl _ _ _ _ Bg1_10.out rfl Try.underlying22 rfl ?_) | ((with_reducible refine gate_dst (N := 36) rfl ?_); refine load1_event rfl _ _ rfl g1 3 rfl _ _ _ _ Bg1_10.out rfl Try.underlying22 rfl ?_) | ((with_reducible refine gate_store (t := 22) (p := 38) rfl ?_); refine store1_event rfl _ _ _ rfl g1 0 rfl (.int .u64 a3) _ ?hy _ _ #[.int .u64 a3, .int .u64 b1, .int .u64 c1, .int .u64 d1] Bg1_10.out rfl (by kernel_rfl) rfl rfl rfl ?_; (case hy => first | (with_reducible rfl) | rfl | (refine congrArg (Value.int _) ?_; omega)); intro wx11 hst hu; have HB_11 := Aside0.mk (below_upd HB_10.out hu (below_size HB_10.out) (fun k hk => by cases hk; exact Lg1.out)); clear HB_10; have Bg2_11 := Aside0.mk (Upd.blk hu Bg2_10.out (One.not (Ne.symm Ng1g2.out))); clear Bg2_10; have Bg1_11 := Aside0.mk hst; clear hst hu Bg1_10))
  refine wp_region_rg_list 7 (by kernel_rfl) (fun x y => Below x.heap.size x y) (fun (i : Nat) (v : Value) (w1 : World) => match i with | 0 => v = (.pointer (some ⟨g1, 3, none⟩)) | 1 => v = (.int .u64 d1) | 2 => v = (.int .u64 r3) | 3 => v = (.pointer (some ⟨g1, 0, none⟩)) | 4 => v = (.int .u64 a3) | 5 => v = (.int .u64 d2) | 6 => v = (.pointer (some ⟨g1, 3, none⟩)) | _ => True) (by kernel_rfl) (by kernel_rfl) (by kernel_rfl) (by kernel_rfl) below_tr (Below.refl _ _).drew ?hJst3 ?hObl3 ?hEnd3
  case hJst3 =>
    intro i v wx wy hi hs0 hs1 hJi
    match i, hi with
    | 0, _ => exact hJi
    | 1, _ => exact hJi
    | 2, _ => exact hJi
    | 3, _ => exact hJi
    | 4, _ => exact hJi
    | 5, _ => exact hJi
    | 6, _ => exact hJi
    | _ + 7, hi => exact absurd hi (by simp)
  case hObl3 =>
    refine ⟨?_, ?_, ?_, ?_, ?_, ?_, ?_,  trivial⟩
    · intro listed vals a wq K hD hst hj haft hun hK
      have h1 := hD.out 1 rfl rfl
      clear hD hj haft hun
      have e1 := eval_of h1
      refine step_now (v := .pointer (some ⟨g1, 3, none⟩)) (w' := wq) (wanted_free rfl) ?_ (hK _ _ (Below.refl _ _) rfl)
      clear hK
      first | (go_simp; done) | (go_simp; rfl)
    · intro listed vals a wq K hD hst hj haft hun hK
      obtain ⟨v39, h39, j39⟩ := hD.dep hj haft 0 39 rfl rfl
      replace j39 : v39 = (.pointer (some ⟨g1, 3, none⟩)) := j39
      subst j39
      replace hst : Below _ _ wq := hst
      clear hD hj haft hun
      have e39 := eval_of h39
      exact step_now (v := .int .u64 d1) (w' := wq) (wanted_free rfl) (rg_load rfl e39 (blk_below Bg1_11.out hst) rfl Try.underlying22 rfl) (hK _ _ (Below.refl _ _) rfl)
    · intro listed vals a wq K hD hst hj haft hun hK
      obtain ⟨v40, h40, j40⟩ := hD.dep hj haft 1 40 rfl rfl
      replace j40 : v40 = (.int .u64 d1) := j40
      subst j40
      clear hD hj haft hun
      have e40 := eval_of h40
      refine step_call (f := 52) (args := #[.int .u64 d1, .int .i64 21]) (wanted_free rfl) ?_ (left21 d1 r3 wq Hr3.out) ?_
      · clear hK; first | (go_simp; done) | (go_simp; rfl)
      · rintro e w' ⟨rfl, hbq⟩; exact ⟨_, rfl, hK _ _ hbq rfl⟩
    · intro listed vals a wq K hD hst hj haft hun hK
      have h1 := hD.out 1 rfl rfl
      clear hD hj haft hun
      have e1 := eval_of h1
      refine step_now (v := .pointer (some ⟨g1, 0, none⟩)) (w' := wq) (wanted_free rfl) ?_ (hK _ _ (Below.refl _ _) rfl)
      clear hK
      first | (go_simp; done) | (go_simp; rfl)
    · intro listed vals a wq K hD hst hj haft hun hK
      obtain ⟨v42, h42, j42⟩ := hD.dep hj haft 3 42 rfl rfl
      replace j42 : v42 = (.pointer (some ⟨g1, 0, none⟩)) := j42
      subst j42
      replace hst : Below _ _ wq := hst
      clear hD hj haft hun
      have e42 := eval_of h42
      exact step_now (v := .int .u64 a3) (w' := wq) (wanted_free rfl) (rg_load rfl e42 (blk_below Bg1_11.out hst) rfl Try.underlying22 rfl) (hK _ _ (Below.refl _ _) rfl)
    · intro listed vals a wq K hD hst hj haft hun hK
      obtain ⟨v41, h41, j41⟩ := hD.dep hj haft 2 41 rfl rfl
      replace j41 : v41 = (.int .u64 r3) := j41
      subst j41
      obtain ⟨v43, h43, j43⟩ := hD.dep hj haft 4 43 rfl rfl
      replace j43 : v43 = (.int .u64 a3) := j43
      subst j43
      clear hD hj haft hun
      have e41 := eval_of h41
      have e43 := eval_of h43
      refine step_now (v := .int .u64 d2) (w' := wq) (wanted_free rfl) ?_ (hK _ _ (Below.refl _ _) rfl)
      clear hK
      first | (go_simp; done) | (go_simp; rfl) | (go_simp; (try simp only [IntKind.wrap_u32]); omega)
    · intro listed vals a wq K hD hst hj haft hun hK
      have h1 := hD.out 1 rfl rfl
      clear hD hj haft hun
      have e1 := eval_of h1
      refine step_now (v := .pointer (some ⟨g1, 3, none⟩)) (w' := wq) (wanted_free rfl) ?_ (hK _ _ (Below.refl _ _) rfl)
      clear hK
      first | (go_simp; done) | (go_simp; rfl)
  intro vals wend hst hj
  have j0 : vals 0 = (.pointer (some ⟨g1, 3, none⟩)) := hj 0 (by decide)
  have j1 : vals 1 = (.int .u64 d1) := hj 1 (by decide)
  have j2 : vals 2 = (.int .u64 r3) := hj 2 (by decide)
  have j3 : vals 3 = (.pointer (some ⟨g1, 0, none⟩)) := hj 3 (by decide)
  have j4 : vals 4 = (.int .u64 a3) := hj 4 (by decide)
  have j5 : vals 5 = (.int .u64 d2) := hj 5 (by decide)
  have j6 : vals 6 = (.pointer (some ⟨g1, 3, none⟩)) := hj 6 (by decide)
  replace hst : Below _ _ wend := hst
  clear hj
  simp only [List.take_succ_cons, List.take_zero, List.drop_succ_cons, List.drop_zero, putL, Act.put, List.setIfInBounds_toArray, List.set_cons_zero, List.set_cons_succ, j0, j1, j2, j3, j4, j5, j6]
  clear j0 j1 j2 j3 j4 j5 j6
  have HB_12 := Aside0.mk (below_step HB_11.out hst)
  clear HB_11
  have Bg1_12 := Aside0.mk (blk_below Bg1_11.out hst)
  clear Bg1_11
  have Bg2_12 := Aside0.mk (blk_below Bg2_11.out hst)
  clear Bg2_11
  clear hst
  go_upto_region 9 with (first | ((with_reducible refine gate_store (t := 22) (p := 45) rfl ?_); refine store1_event rfl _ _ _ rfl g1 3 rfl (.int .u64 d2) _ ?hy _ _ #[.int .u64 a3, .int .u64 b1, .int .u64 c1, .int .u64 d2] Bg1_12.out rfl (by kernel_rfl) rfl rfl rfl ?_; (case hy => first | (with_reducible rfl) | rfl | (refine congrArg (Value.int _) ?_; omega)); intro wx13 hst hu; have HB_13 := Aside0.mk (below_upd HB_12.out hu (below_size HB_12.out) (fun k hk => by cases hk; exact Lg1.out)); clear HB_12; have Bg2_13 := Aside0.mk (Upd.blk hu Bg2_12.out (One.not (Ne.symm Ng1g2.out))); clear Bg2_12; have Bg1_13 := Aside0.mk hst; clear hst hu Bg1_12) | ((with_reducible refine gate_dst (N := 47) rfl ?_); refine load1_event rfl _ _ rfl g1 2 rfl _ _ _ _ Bg1_13.out rfl Try.underlying22 rfl ?_) | ((with_reducible refine gate_dst (N := 49) rfl ?_); refine load1_event rfl _ _ rfl g1 1 rfl _ _ _ _ Bg1_13.out rfl Try.underlying22 rfl ?_) | ((with_reducible refine gate_store (t := 22) (p := 51) rfl ?_); refine store1_event rfl _ _ _ rfl g1 2 rfl (.int .u64 c2) _ ?hy _ _ #[.int .u64 a3, .int .u64 b1, .int .u64 c2, .int .u64 d2] Bg1_13.out rfl (by kernel_rfl) rfl rfl rfl ?_; (case hy => first | (with_reducible rfl) | rfl | (refine congrArg (Value.int _) ?_; omega)); intro wx14 hst hu; have HB_14 := Aside0.mk (below_upd HB_13.out hu (below_size HB_13.out) (fun k hk => by cases hk; exact Lg1.out)); clear HB_13; have Bg2_14 := Aside0.mk (Upd.blk hu Bg2_13.out (One.not (Ne.symm Ng1g2.out))); clear Bg2_13; have Bg1_14 := Aside0.mk hst; clear hst hu Bg1_13))
  refine wp_region_rg_list 7 (by kernel_rfl) (fun x y => Below x.heap.size x y) (fun (i : Nat) (v : Value) (w1 : World) => match i with | 0 => v = (.pointer (some ⟨g1, 1, none⟩)) | 1 => v = (.int .u64 b1) | 2 => v = (.int .u64 r4) | 3 => v = (.pointer (some ⟨g1, 2, none⟩)) | 4 => v = (.int .u64 c2) | 5 => v = (.int .u64 b2) | 6 => v = (.pointer (some ⟨g1, 1, none⟩)) | _ => True) (by kernel_rfl) (by kernel_rfl) (by kernel_rfl) (by kernel_rfl) below_tr (Below.refl _ _).drew ?hJst4 ?hObl4 ?hEnd4
  case hJst4 =>
    intro i v wx wy hi hs0 hs1 hJi
    match i, hi with
    | 0, _ => exact hJi
    | 1, _ => exact hJi
    | 2, _ => exact hJi
    | 3, _ => exact hJi
    | 4, _ => exact hJi
    | 5, _ => exact hJi
    | 6, _ => exact hJi
    | _ + 7, hi => exact absurd hi (by simp)
  case hObl4 =>
    refine ⟨?_, ?_, ?_, ?_, ?_, ?_, ?_,  trivial⟩
    · intro listed vals a wq K hD hst hj haft hun hK
      have h1 := hD.out 1 rfl rfl
      clear hD hj haft hun
      have e1 := eval_of h1
      refine step_now (v := .pointer (some ⟨g1, 1, none⟩)) (w' := wq) (wanted_free rfl) ?_ (hK _ _ (Below.refl _ _) rfl)
      clear hK
      first | (go_simp; done) | (go_simp; rfl)
    · intro listed vals a wq K hD hst hj haft hun hK
      obtain ⟨v52, h52, j52⟩ := hD.dep hj haft 0 52 rfl rfl
      replace j52 : v52 = (.pointer (some ⟨g1, 1, none⟩)) := j52
      subst j52
      replace hst : Below _ _ wq := hst
      clear hD hj haft hun
      have e52 := eval_of h52
      exact step_now (v := .int .u64 b1) (w' := wq) (wanted_free rfl) (rg_load rfl e52 (blk_below Bg1_14.out hst) rfl Try.underlying22 rfl) (hK _ _ (Below.refl _ _) rfl)
    · intro listed vals a wq K hD hst hj haft hun hK
      obtain ⟨v53, h53, j53⟩ := hD.dep hj haft 1 53 rfl rfl
      replace j53 : v53 = (.int .u64 b1) := j53
      subst j53
      clear hD hj haft hun
      have e53 := eval_of h53
      refine step_call (f := 52) (args := #[.int .u64 b1, .int .i64 17]) (wanted_free rfl) ?_ (left17 b1 r4 wq Hr4.out) ?_
      · clear hK; first | (go_simp; done) | (go_simp; rfl)
      · rintro e w' ⟨rfl, hbq⟩; exact ⟨_, rfl, hK _ _ hbq rfl⟩
    · intro listed vals a wq K hD hst hj haft hun hK
      have h1 := hD.out 1 rfl rfl
      clear hD hj haft hun
      have e1 := eval_of h1
      refine step_now (v := .pointer (some ⟨g1, 2, none⟩)) (w' := wq) (wanted_free rfl) ?_ (hK _ _ (Below.refl _ _) rfl)
      clear hK
      first | (go_simp; done) | (go_simp; rfl)
    · intro listed vals a wq K hD hst hj haft hun hK
      obtain ⟨v55, h55, j55⟩ := hD.dep hj haft 3 55 rfl rfl
      replace j55 : v55 = (.pointer (some ⟨g1, 2, none⟩)) := j55
      subst j55
      replace hst : Below _ _ wq := hst
      clear hD hj haft hun
      have e55 := eval_of h55
      exact step_now (v := .int .u64 c2) (w' := wq) (wanted_free rfl) (rg_load rfl e55 (blk_below Bg1_14.out hst) rfl Try.underlying22 rfl) (hK _ _ (Below.refl _ _) rfl)
    · intro listed vals a wq K hD hst hj haft hun hK
      obtain ⟨v54, h54, j54⟩ := hD.dep hj haft 2 54 rfl rfl
      replace j54 : v54 = (.int .u64 r4) := j54
      subst j54
      obtain ⟨v56, h56, j56⟩ := hD.dep hj haft 4 56 rfl rfl
      replace j56 : v56 = (.int .u64 c2) := j56
      subst j56
      clear hD hj haft hun
      have e54 := eval_of h54
      have e56 := eval_of h56
      refine step_now (v := .int .u64 b2) (w' := wq) (wanted_free rfl) ?_ (hK _ _ (Below.refl _ _) rfl)
      clear hK
      first | (go_simp; done) | (go_simp; rfl) | (go_simp; (try simp only [IntKind.wrap_u32]); omega)
    · intro listed vals a wq K hD hst hj haft hun hK
      have h1 := hD.out 1 rfl rfl
      clear hD hj haft hun
      have e1 := eval_of h1
      refine step_now (v := .pointer (some ⟨g1, 1, none⟩)) (w' := wq) (wanted_free rfl) ?_ (hK _ _ (Below.refl _ _) rfl)
      clear hK
      first | (go_simp; done) | (go_simp; rfl)
  intro vals wend hst hj
  have j0 : vals 0 = (.pointer (some ⟨g1, 1, none⟩)) := hj 0 (by decide)
  have j1 : vals 1 = (.int .u64 b1) := hj 1 (by decide)
  have j2 : vals 2 = (.int .u64 r4) := hj 2 (by decide)
  have j3 : vals 3 = (.pointer (some ⟨g1, 2, none⟩)) := hj 3 (by decide)
  have j4 : vals 4 = (.int .u64 c2) := hj 4 (by decide)
  have j5 : vals 5 = (.int .u64 b2) := hj 5 (by decide)
  have j6 : vals 6 = (.pointer (some ⟨g1, 1, none⟩)) := hj 6 (by decide)
  replace hst : Below _ _ wend := hst
  clear hj
  simp only [List.take_succ_cons, List.take_zero, List.drop_succ_cons, List.drop_zero, putL, Act.put, List.setIfInBounds_toArray, List.set_cons_zero, List.set_cons_succ, j0, j1, j2, j3, j4, j5, j6]
  clear j0 j1 j2 j3 j4 j5 j6
  have HB_15 := Aside0.mk (below_step HB_14.out hst)
  clear HB_14
  have Bg1_15 := Aside0.mk (blk_below Bg1_14.out hst)
  clear Bg1_14
  have Bg2_15 := Aside0.mk (blk_below Bg2_14.out hst)
  clear Bg2_14
  clear hst
  go_upto_region 11 with (first | ((with_reducible refine gate_store (t := 22) (p := 58) rfl ?_); refine store1_event rfl _ _ _ rfl g1 1 rfl (.int .u64 b2) _ ?hy _ _ #[.int .u64 a3, .int .u64 b2, .int .u64 c2, .int .u64 d2] Bg1_15.out rfl (by kernel_rfl) rfl rfl rfl ?_; (case hy => first | (with_reducible rfl) | rfl | (refine congrArg (Value.int _) ?_; omega)); intro wx16 hst hu; have HB_16 := Aside0.mk (below_upd HB_15.out hu (below_size HB_15.out) (fun k hk => by cases hk; exact Lg1.out)); clear HB_15; have Bg2_16 := Aside0.mk (Upd.blk hu Bg2_15.out (One.not (Ne.symm Ng1g2.out))); clear Bg2_15; have Bg1_16 := Aside0.mk hst; clear hst hu Bg1_15) | ((with_reducible refine gate_dst (N := 60) rfl ?_); refine load1_event rfl _ _ rfl g1 2 rfl _ _ _ _ Bg1_16.out rfl Try.underlying22 rfl ?_) | (go_at_call 52; refine (left32 c2 c3 _ Hc3.out).mono ?_; rintro e wx17 ⟨rfl, hb⟩; have HB_17 := Aside0.mk (below_step HB_16.out hb); clear HB_16; have Bg1_17 := Aside0.mk (blk_below Bg1_16.out hb); clear Bg1_16; have Bg2_17 := Aside0.mk (blk_below Bg2_16.out hb); clear Bg2_16; clear hb) | ((with_reducible refine gate_store (t := 22) (p := 62) rfl ?_); refine store1_event rfl _ _ _ rfl g1 2 rfl (.int .u64 c3) _ ?hy _ _ #[.int .u64 a3, .int .u64 b2, .int .u64 c3, .int .u64 d2] Bg1_17.out rfl (by kernel_rfl) rfl rfl rfl ?_; (case hy => first | (with_reducible rfl) | rfl | (refine congrArg (Value.int _) ?_; omega)); intro wx18 hst hu; have HB_18 := Aside0.mk (below_upd HB_17.out hu (below_size HB_17.out) (fun k hk => by cases hk; exact Lg1.out)); clear HB_17; have Bg2_18 := Aside0.mk (Upd.blk hu Bg2_17.out (One.not (Ne.symm Ng1g2.out))); clear Bg2_17; have Bg1_18 := Aside0.mk hst; clear hst hu Bg1_17))
  go_wp2_with (first | ((with_reducible refine gate_dst (N := 63) rfl ?_); refine load_event rfl 88 _ rfl g1 rfl _ _ _ Bg1_18.out Try.underlying88 rfl (by kernel_rfl) ?_) | ((with_reducible refine gate_store (t := 88) (p := 2) rfl ?_); refine store_event rfl 88 _ _ rfl g2 _ rfl rfl _ _ Bg2_18.out (by kernel_rfl) rfl rfl ?_; intro wx19 hst hu; have HB_19 := Aside0.mk (below_upd HB_18.out hu (below_size HB_18.out) (fun k hk => by cases hk; exact Lg2.out)); clear HB_18; have Bg1_19 := Aside0.mk (Upd.blk hu Bg1_18.out (One.not Ng1g2.out)); clear Bg1_18; have Bg2_19 := Aside0.mk hst; clear hst hu Bg2_18))
  exact bodyPost_ret (results_cell_row rfl _ _ g2 88 _ (0, 0) _ rfl Bg2_19.out Try.underlying88 rfl (by kernel_rfl)) rfl ⟨rfl, HB_19.out⟩
theorem rround_any (v : V4) (w : World) : Calls Try.prog 36 #[v.val] w fun e w' => e = .returned (rnd v).val ∧ Below w.heap.size w w' :=
  rround_ways v.a v.b v.c v.d _ _ _ _ _ _ _ _ _ _ _ _ _ _ w rfl rfl rfl rfl rfl rfl rfl rfl rfl rfl rfl rfl rfl rfl
set_option maxRecDepth 100000 in
set_option maxHeartbeats 8000000 in
theorem round_any (v : V4) (n : Nat) (hn : n < 1000) (w : World) : Calls Try.prog 34 #[v.val, .int .i64 (n : Int)] w fun e w' => e = .returned (rounds n v).val ∧ Below w.heap.size w w' := by
  have HNN := Aside0.mk hn
  clear hn
  obtain ⟨v0, v1, v2, v3⟩ := v
  go_enter Try.func34, Try.ntmps34
  go_upto_region 2 with (first | ((with_reducible refine gate_dst (N := 2) rfl ?_); refine box_event ?hg (N := 2) ?hd (cs := #[.int .u64 v0, .int .u64 v1, .int .u64 v2, .int .u64 v3]) (t := 82) ?hr ?_; (case hd => rfl); (case hg => rfl); (case hr => first | (go_simp; done) | (go_simp; rfl)); intro g2 hgg wx1 hbox hb; have Lg2 := Aside0.mk (show w.heap.size ≤ g2 by rw [hgg]; exact Nat.le_refl _); have HB_1 := Aside0.mk (hb); have Bg2_1 := Aside0.mk hbox; clear hbox hb hgg) | ((with_reducible refine gate_dst (N := 4) rfl ?_); refine box_event ?hg (N := 4) ?hd (cs := #[.int .u64 0, .int .u64 0, .int .u64 0, .int .u64 0]) (t := 82) ?hr ?_; (case hd => rfl); (case hg => rfl); (case hr => first | (go_simp; done) | (go_simp; rfl)); intro g4 hgg wx2 hbox hb; have Ng2g4 := Aside0.mk (show g2 ≠ g4 by rw [hgg]; exact Nat.ne_of_lt (blk_lt Bg2_1.out)); have Lg4 := Aside0.mk (show w.heap.size ≤ g4 by rw [hgg]; exact below_size HB_1.out); have HB_2 := Aside0.mk (below_step HB_1.out hb); clear HB_1; have Bg2_2 := Aside0.mk (blk_below Bg2_1.out hb); clear Bg2_1; have Bg4_2 := Aside0.mk hbox; clear hbox hb hgg))
  have HC0 : Aside0 (∃ va vb vc vd : Int, rounds 0 ⟨v0, v1, v2, v3⟩ = ⟨va, vb, vc, vd⟩ ∧ wx2.heap[g2]? = some (.cells #[.int .u64 va, .int .u64 vb, .int .u64 vc, .int .u64 vd] 82 (0, 0))) := ⟨_, _, _, _, rfl, Bg2_2.out⟩
  go_loopw [6] (fun i wr => ∃ (k : Nat), k ≤ n ∧ i = .int .i64 (k : Int) ∧ Aside0 (∃ va vb vc vd : Int, rounds k ⟨v0, v1, v2, v3⟩ = ⟨va, vb, vc, vd⟩ ∧ wr.heap[g2]? = some (.cells #[.int .u64 va, .int .u64 vb, .int .u64 vc, .int .u64 vd] 82 (0, 0))) ∧ Aside0 (wr.heap[g4]? = some (.cells #[.int .u64 0, .int .u64 0, .int .u64 0, .int .u64 0] 82 (0, 0))) ∧ Aside0 (Below w.heap.size w wr)) (fun i _ => n - (intOf i).toNat)
  case atStart => exact ⟨0, by omega, rfl, HC0, Bg4_2, HB_2⟩
  case round =>
    clear HC0 Bg2_2 Bg4_2 HB_2
    obtain ⟨k, hk, rfl, HC, BG4, HB⟩ := hrel
    obtain ⟨va, vb, vc, vd, hrk, hblk⟩ := HC.out
    have HRK := Aside0.mk hrk
    have BG2 := Aside0.mk hblk
    clear HC hrk hblk
    by_cases hlt : k < n
    case neg =>
      obtain rfl : k = n := by omega
      go_wp2_with (first | ((with_reducible refine gate_dst (N := 69) rfl ?_); refine load_event rfl 82 _ rfl g2 rfl _ _ _ BG2.out Try.underlying82 rfl (by kernel_rfl) ?_) | ((with_reducible refine gate_store (t := 82) (p := 4) rfl ?_); refine store_event rfl 82 _ _ rfl g4 _ rfl rfl _ _ BG4.out (by kernel_rfl) rfl rfl ?_; intro wx51 hst hu; have HB_51 := Aside0.mk (below_upd HB.out hu (below_size HB.out) (fun k hk => by cases hk; exact Lg4.out)); clear HB; have Bg2_51 := Aside0.mk (Upd.blk hu BG2.out (One.not Ng2g4.out)); clear BG2; have Bg4_51 := Aside0.mk hst; clear hst hu BG4))
      have hrk := HRK.out
      rw [hrk]
      exact bodyPost_ret (results_cell_row rfl _ _ g4 82 _ (0, 0) _ rfl Bg4_51.out Try.underlying82 rfl (by kernel_rfl)) rfl ⟨rfl, HB_51.out⟩
    obtain ⟨a1, ha1⟩ : ∃ x : Int, IntKind.u64.wrap (va + vb) = x := ⟨_, rfl⟩
    obtain ⟨r1, hr1⟩ : ∃ x : Int, rl vb 8192 2251799813685248 = x := ⟨_, rfl⟩
    obtain ⟨b1, hb1⟩ : ∃ x : Int, bits .xor .u64 r1 a1 = x := ⟨_, rfl⟩
    obtain ⟨a2, ha2⟩ : ∃ x : Int, rl a1 4294967296 4294967296 = x := ⟨_, rfl⟩
    obtain ⟨c1, hc1⟩ : ∃ x : Int, IntKind.u64.wrap (vc + vd) = x := ⟨_, rfl⟩
    obtain ⟨r2, hr2⟩ : ∃ x : Int, rl vd 65536 281474976710656 = x := ⟨_, rfl⟩
    obtain ⟨d1, hd1⟩ : ∃ x : Int, bits .xor .u64 r2 c1 = x := ⟨_, rfl⟩
    obtain ⟨a3, ha3⟩ : ∃ x : Int, IntKind.u64.wrap (a2 + d1) = x := ⟨_, rfl⟩
    obtain ⟨r3, hr3⟩ : ∃ x : Int, rl d1 2097152 8796093022208 = x := ⟨_, rfl⟩
    obtain ⟨d2, hd2⟩ : ∃ x : Int, bits .xor .u64 r3 a3 = x := ⟨_, rfl⟩
    obtain ⟨c2, hc2⟩ : ∃ x : Int, IntKind.u64.wrap (c1 + b1) = x := ⟨_, rfl⟩
    obtain ⟨r4, hr4⟩ : ∃ x : Int, rl b1 131072 140737488355328 = x := ⟨_, rfl⟩
    obtain ⟨b2, hb2⟩ : ∃ x : Int, bits .xor .u64 r4 c2 = x := ⟨_, rfl⟩
    obtain ⟨c3, hc3⟩ : ∃ x : Int, rl c2 4294967296 4294967296 = x := ⟨_, rfl⟩
    have HRND : Aside0 (rnd ⟨va, vb, vc, vd⟩ = ⟨a3, b2, c3, d2⟩) := ⟨by simp only [rnd, ha1, hr1, hb1, ha2, hc1, hr2, hd1, ha3, hr3, hd2, hc2, hr4, hb2, hc3]⟩
    have Hr1 := Aside0.mk hr1
    clear hr1
    have Ha2 := Aside0.mk ha2
    clear ha2
    have Hr2 := Aside0.mk hr2
    clear hr2
    have Hr3 := Aside0.mk hr3
    clear hr3
    have Hr4 := Aside0.mk hr4
    clear hr4
    have Hc3 := Aside0.mk hc3
    clear hc3
    have HLT := Aside0.mk hlt
    have hltd : decide ((k : Int) < (n : Int)) = true := decide_eq_true (by omega)
    have hk1 : IntKind.i64.wrap ((k : Int) + 1) = (k : Int) + 1 := by have := HNN.out; rw [IntKind.wrap_i64]; omega
    go_upto_region 3 with fail
    clear hk hlt
    go_upto_region 4 with (first | ((with_reducible refine gate_dst (N := 9) rfl ?_); refine load1_event rfl _ _ rfl g2 0 rfl _ _ _ _ BG2.out rfl Try.underlying22 rfl ?_) | ((with_reducible refine gate_dst (N := 11) rfl ?_); refine load1_event rfl _ _ rfl g2 1 rfl _ _ _ _ BG2.out rfl Try.underlying22 rfl ?_) | ((with_reducible refine gate_store (t := 22) (p := 13) rfl ?_); refine store1_event rfl _ _ _ rfl g2 0 rfl (.int .u64 a1) _ ?hy _ _ #[.int .u64 a1, .int .u64 vb, .int .u64 vc, .int .u64 vd] BG2.out rfl (by kernel_rfl) rfl rfl rfl ?_; (case hy => first | (with_reducible rfl) | rfl | (refine congrArg (Value.int _) ?_; omega)); intro wx51 hst hu; have HB_51 := Aside0.mk (below_upd HB.out hu (below_size HB.out) (fun k hk => by cases hk; exact Lg2.out)); clear HB; have Bg4_51 := Aside0.mk (Upd.blk hu BG4.out (One.not (Ne.symm Ng2g4.out))); clear BG4; have Bg2_51 := Aside0.mk hst; clear hst hu BG2))
    refine wp_region_rg_list 7 (by kernel_rfl) (fun x y => Below x.heap.size x y) (fun (i : Nat) (v : Value) (w1 : World) => match i with | 0 => v = (.pointer (some ⟨g2, 1, none⟩)) | 1 => v = (.int .u64 vb) | 2 => v = (.int .u64 r1) | 3 => v = (.pointer (some ⟨g2, 0, none⟩)) | 4 => v = (.int .u64 a1) | 5 => v = (.int .u64 b1) | 6 => v = (.pointer (some ⟨g2, 1, none⟩)) | _ => True) (by kernel_rfl) (by kernel_rfl) (by kernel_rfl) (by kernel_rfl) below_tr (Below.refl _ _).drew ?hJst5 ?hObl5 ?hEnd5
    case hJst5 =>
      intro i v wx wy hi hs0 hs1 hJi
      match i, hi with
      | 0, _ => exact hJi
      | 1, _ => exact hJi
      | 2, _ => exact hJi
      | 3, _ => exact hJi
      | 4, _ => exact hJi
      | 5, _ => exact hJi
      | 6, _ => exact hJi
      | _ + 7, hi => exact absurd hi (by simp)
    case hObl5 =>
      refine ⟨?_, ?_, ?_, ?_, ?_, ?_, ?_,  trivial⟩
      · intro listed vals a wq K hD hst hj haft hun hK
        have h2 := hD.out 2 rfl rfl
        clear hD hj haft hun
        have e2 := eval_of h2
        refine step_now (v := .pointer (some ⟨g2, 1, none⟩)) (w' := wq) (wanted_free rfl) ?_ (hK _ _ (Below.refl _ _) rfl)
        clear hK
        first | (go_simp; done) | (go_simp; rfl)
      · intro listed vals a wq K hD hst hj haft hun hK
        obtain ⟨v14, h14, j14⟩ := hD.dep hj haft 0 14 rfl rfl
        replace j14 : v14 = (.pointer (some ⟨g2, 1, none⟩)) := j14
        subst j14
        replace hst : Below _ _ wq := hst
        clear hD hj haft hun
        have e14 := eval_of h14
        exact step_now (v := .int .u64 vb) (w' := wq) (wanted_free rfl) (rg_load rfl e14 (blk_below Bg2_51.out hst) rfl Try.underlying22 rfl) (hK _ _ (Below.refl _ _) rfl)
      · intro listed vals a wq K hD hst hj haft hun hK
        obtain ⟨v15, h15, j15⟩ := hD.dep hj haft 1 15 rfl rfl
        replace j15 : v15 = (.int .u64 vb) := j15
        subst j15
        clear hD hj haft hun
        have e15 := eval_of h15
        refine step_call (f := 51) (args := #[.int .u64 vb, .int .i64 13]) (wanted_free rfl) ?_ (rot13 vb r1 wq Hr1.out) ?_
        · clear hK; first | (go_simp; done) | (go_simp; rfl)
        · rintro e w' ⟨rfl, rfl⟩; exact ⟨_, rfl, hK _ _ (Below.refl _ _) rfl⟩
      · intro listed vals a wq K hD hst hj haft hun hK
        have h2 := hD.out 2 rfl rfl
        clear hD hj haft hun
        have e2 := eval_of h2
        refine step_now (v := .pointer (some ⟨g2, 0, none⟩)) (w' := wq) (wanted_free rfl) ?_ (hK _ _ (Below.refl _ _) rfl)
        clear hK
        first | (go_simp; done) | (go_simp; rfl)
      · intro listed vals a wq K hD hst hj haft hun hK
        obtain ⟨v17, h17, j17⟩ := hD.dep hj haft 3 17 rfl rfl
        replace j17 : v17 = (.pointer (some ⟨g2, 0, none⟩)) := j17
        subst j17
        replace hst : Below _ _ wq := hst
        clear hD hj haft hun
        have e17 := eval_of h17
        exact step_now (v := .int .u64 a1) (w' := wq) (wanted_free rfl) (rg_load rfl e17 (blk_below Bg2_51.out hst) rfl Try.underlying22 rfl) (hK _ _ (Below.refl _ _) rfl)
      · intro listed vals a wq K hD hst hj haft hun hK
        obtain ⟨v16, h16, j16⟩ := hD.dep hj haft 2 16 rfl rfl
        replace j16 : v16 = (.int .u64 r1) := j16
        subst j16
        obtain ⟨v18, h18, j18⟩ := hD.dep hj haft 4 18 rfl rfl
        replace j18 : v18 = (.int .u64 a1) := j18
        subst j18
        clear hD hj haft hun
        have e16 := eval_of h16
        have e18 := eval_of h18
        refine step_now (v := .int .u64 b1) (w' := wq) (wanted_free rfl) ?_ (hK _ _ (Below.refl _ _) rfl)
        clear hK
        first | (go_simp; done) | (go_simp; rfl) | (go_simp; (try simp only [IntKind.wrap_u32]); omega)
      · intro listed vals a wq K hD hst hj haft hun hK
        have h2 := hD.out 2 rfl rfl
        clear hD hj haft hun
        have e2 := eval_of h2
        refine step_now (v := .pointer (some ⟨g2, 1, none⟩)) (w' := wq) (wanted_free rfl) ?_ (hK _ _ (Below.refl _ _) rfl)
        clear hK
        first | (go_simp; done) | (go_simp; rfl)
    intro vals wend hst hj
    have j0 : vals 0 = (.pointer (some ⟨g2, 1, none⟩)) := hj 0 (by decide)
    have j1 : vals 1 = (.int .u64 vb) := hj 1 (by decide)
    have j2 : vals 2 = (.int .u64 r1) := hj 2 (by decide)
    have j3 : vals 3 = (.pointer (some ⟨g2, 0, none⟩)) := hj 3 (by decide)
    have j4 : vals 4 = (.int .u64 a1) := hj 4 (by decide)
    have j5 : vals 5 = (.int .u64 b1) := hj 5 (by decide)
    have j6 : vals 6 = (.pointer (some ⟨g2, 1, none⟩)) := hj 6 (by decide)
    replace hst : Below _ _ wend := hst
    clear hj
    simp only [List.take_succ_cons, List.take_zero, List.drop_succ_cons, List.drop_zero, putL, Act.put, List.setIfInBounds_toArray, List.set_cons_zero, List.set_cons_succ, j0, j1, j2, j3, j4, j5, j6]
    clear j0 j1 j2 j3 j4 j5 j6
    have HB_52 := Aside0.mk (below_step HB_51.out hst)
    clear HB_51
    have Bg2_52 := Aside0.mk (blk_below Bg2_51.out hst)
    clear Bg2_51
    have Bg4_52 := Aside0.mk (blk_below Bg4_51.out hst)
    clear Bg4_51
    clear hst
    go_upto_region 6 with (first | ((with_reducible refine gate_store (t := 22) (p := 20) rfl ?_); refine store1_event rfl _ _ _ rfl g2 1 rfl (.int .u64 b1) _ ?hy _ _ #[.int .u64 a1, .int .u64 b1, .int .u64 vc, .int .u64 vd] Bg2_52.out rfl (by kernel_rfl) rfl rfl rfl ?_; (case hy => first | (with_reducible rfl) | rfl | (refine congrArg (Value.int _) ?_; omega)); intro wx53 hst hu; have HB_53 := Aside0.mk (below_upd HB_52.out hu (below_size HB_52.out) (fun k hk => by cases hk; exact Lg2.out)); clear HB_52; have Bg4_53 := Aside0.mk (Upd.blk hu Bg4_52.out (One.not (Ne.symm Ng2g4.out))); clear Bg4_52; have Bg2_53 := Aside0.mk hst; clear hst hu Bg2_52) | ((with_reducible refine gate_dst (N := 22) rfl ?_); refine load1_event rfl _ _ rfl g2 0 rfl _ _ _ _ Bg2_53.out rfl Try.underlying22 rfl ?_) | (go_at_call 51; refine (rot32 a1 a2 _ Ha2.out).mono ?_; rintro e w_ ⟨rfl, rfl⟩) | ((with_reducible refine gate_store (t := 22) (p := 24) rfl ?_); refine store1_event rfl _ _ _ rfl g2 0 rfl (.int .u64 a2) _ ?hy _ _ #[.int .u64 a2, .int .u64 b1, .int .u64 vc, .int .u64 vd] Bg2_53.out rfl (by kernel_rfl) rfl rfl rfl ?_; (case hy => first | (with_reducible rfl) | rfl | (refine congrArg (Value.int _) ?_; omega)); intro wx54 hst hu; have HB_54 := Aside0.mk (below_upd HB_53.out hu (below_size HB_53.out) (fun k hk => by cases hk; exact Lg2.out)); clear HB_53; have Bg4_54 := Aside0.mk (Upd.blk hu Bg4_53.out (One.not (Ne.symm Ng2g4.out))); clear Bg4_53; have Bg2_54 := Aside0.mk hst; clear hst hu Bg2_53))
    go_upto_region 7 with (first | ((with_reducible refine gate_dst (N := 26) rfl ?_); refine load1_event rfl _ _ rfl g2 2 rfl _ _ _ _ Bg2_54.out rfl Try.underlying22 rfl ?_) | ((with_reducible refine gate_dst (N := 28) rfl ?_); refine load1_event rfl _ _ rfl g2 3 rfl _ _ _ _ Bg2_54.out rfl Try.underlying22 rfl ?_) | ((with_reducible refine gate_store (t := 22) (p := 30) rfl ?_); refine store1_event rfl _ _ _ rfl g2 2 rfl (.int .u64 c1) _ ?hy _ _ #[.int .u64 a2, .int .u64 b1, .int .u64 c1, .int .u64 vd] Bg2_54.out rfl (by kernel_rfl) rfl rfl rfl ?_; (case hy => first | (with_reducible rfl) | rfl | (refine congrArg (Value.int _) ?_; omega)); intro wx55 hst hu; have HB_55 := Aside0.mk (below_upd HB_54.out hu (below_size HB_54.out) (fun k hk => by cases hk; exact Lg2.out)); clear HB_54; have Bg4_55 := Aside0.mk (Upd.blk hu Bg4_54.out (One.not (Ne.symm Ng2g4.out))); clear Bg4_54; have Bg2_55 := Aside0.mk hst; clear hst hu Bg2_54))
    refine wp_region_rg_list 7 (by kernel_rfl) (fun x y => Below x.heap.size x y) (fun (i : Nat) (v : Value) (w1 : World) => match i with | 0 => v = (.pointer (some ⟨g2, 3, none⟩)) | 1 => v = (.int .u64 vd) | 2 => v = (.int .u64 r2) | 3 => v = (.pointer (some ⟨g2, 2, none⟩)) | 4 => v = (.int .u64 c1) | 5 => v = (.int .u64 d1) | 6 => v = (.pointer (some ⟨g2, 3, none⟩)) | _ => True) (by kernel_rfl) (by kernel_rfl) (by kernel_rfl) (by kernel_rfl) below_tr (Below.refl _ _).drew ?hJst6 ?hObl6 ?hEnd6
    case hJst6 =>
      intro i v wx wy hi hs0 hs1 hJi
      match i, hi with
      | 0, _ => exact hJi
      | 1, _ => exact hJi
      | 2, _ => exact hJi
      | 3, _ => exact hJi
      | 4, _ => exact hJi
      | 5, _ => exact hJi
      | 6, _ => exact hJi
      | _ + 7, hi => exact absurd hi (by simp)
    case hObl6 =>
      refine ⟨?_, ?_, ?_, ?_, ?_, ?_, ?_,  trivial⟩
      · intro listed vals a wq K hD hst hj haft hun hK
        have h2 := hD.out 2 rfl rfl
        clear hD hj haft hun
        have e2 := eval_of h2
        refine step_now (v := .pointer (some ⟨g2, 3, none⟩)) (w' := wq) (wanted_free rfl) ?_ (hK _ _ (Below.refl _ _) rfl)
        clear hK
        first | (go_simp; done) | (go_simp; rfl)
      · intro listed vals a wq K hD hst hj haft hun hK
        obtain ⟨v31, h31, j31⟩ := hD.dep hj haft 0 31 rfl rfl
        replace j31 : v31 = (.pointer (some ⟨g2, 3, none⟩)) := j31
        subst j31
        replace hst : Below _ _ wq := hst
        clear hD hj haft hun
        have e31 := eval_of h31
        exact step_now (v := .int .u64 vd) (w' := wq) (wanted_free rfl) (rg_load rfl e31 (blk_below Bg2_55.out hst) rfl Try.underlying22 rfl) (hK _ _ (Below.refl _ _) rfl)
      · intro listed vals a wq K hD hst hj haft hun hK
        obtain ⟨v32, h32, j32⟩ := hD.dep hj haft 1 32 rfl rfl
        replace j32 : v32 = (.int .u64 vd) := j32
        subst j32
        clear hD hj haft hun
        have e32 := eval_of h32
        refine step_call (f := 51) (args := #[.int .u64 vd, .int .i64 16]) (wanted_free rfl) ?_ (rot16 vd r2 wq Hr2.out) ?_
        · clear hK; first | (go_simp; done) | (go_simp; rfl)
        · rintro e w' ⟨rfl, rfl⟩; exact ⟨_, rfl, hK _ _ (Below.refl _ _) rfl⟩
      · intro listed vals a wq K hD hst hj haft hun hK
        have h2 := hD.out 2 rfl rfl
        clear hD hj haft hun
        have e2 := eval_of h2
        refine step_now (v := .pointer (some ⟨g2, 2, none⟩)) (w' := wq) (wanted_free rfl) ?_ (hK _ _ (Below.refl _ _) rfl)
        clear hK
        first | (go_simp; done) | (go_simp; rfl)
      · intro listed vals a wq K hD hst hj haft hun hK
        obtain ⟨v34, h34, j34⟩ := hD.dep hj haft 3 34 rfl rfl
        replace j34 : v34 = (.pointer (some ⟨g2, 2, none⟩)) := j34
        subst j34
        replace hst : Below _ _ wq := hst
        clear hD hj haft hun
        have e34 := eval_of h34
        exact step_now (v := .int .u64 c1) (w' := wq) (wanted_free rfl) (rg_load rfl e34 (blk_below Bg2_55.out hst) rfl Try.underlying22 rfl) (hK _ _ (Below.refl _ _) rfl)
      · intro listed vals a wq K hD hst hj haft hun hK
        obtain ⟨v33, h33, j33⟩ := hD.dep hj haft 2 33 rfl rfl
        replace j33 : v33 = (.int .u64 r2) := j33
        subst j33
        obtain ⟨v35, h35, j35⟩ := hD.dep hj haft 4 35 rfl rfl
        replace j35 : v35 = (.int .u64 c1) := j35
        subst j35
        clear hD hj haft hun
        have e33 := eval_of h33
        have e35 := eval_of h35
        refine step_now (v := .int .u64 d1) (w' := wq) (wanted_free rfl) ?_ (hK _ _ (Below.refl _ _) rfl)
        clear hK
        first | (go_simp; done) | (go_simp; rfl) | (go_simp; (try simp only [IntKind.wrap_u32]); omega)
      · intro listed vals a wq K hD hst hj haft hun hK
        have h2 := hD.out 2 rfl rfl
        clear hD hj haft hun
        have e2 := eval_of h2
        refine step_now (v := .pointer (some ⟨g2, 3, none⟩)) (w' := wq) (wanted_free rfl) ?_ (hK _ _ (Below.refl _ _) rfl)
        clear hK
        first | (go_simp; done) | (go_simp; rfl)
    intro vals wend hst hj
    have j0 : vals 0 = (.pointer (some ⟨g2, 3, none⟩)) := hj 0 (by decide)
    have j1 : vals 1 = (.int .u64 vd) := hj 1 (by decide)
    have j2 : vals 2 = (.int .u64 r2) := hj 2 (by decide)
    have j3 : vals 3 = (.pointer (some ⟨g2, 2, none⟩)) := hj 3 (by decide)
    have j4 : vals 4 = (.int .u64 c1) := hj 4 (by decide)
    have j5 : vals 5 = (.int .u64 d1) := hj 5 (by decide)
    have j6 : vals 6 = (.pointer (some ⟨g2, 3, none⟩)) := hj 6 (by decide)
    replace hst : Below _ _ wend := hst
    clear hj
    simp only [List.take_succ_cons, List.take_zero, List.drop_succ_cons, List.drop_zero, putL, Act.put, List.setIfInBounds_toArray, List.set_cons_zero, List.set_cons_succ, j0, j1, j2, j3, j4, j5, j6]
    clear j0 j1 j2 j3 j4 j5 j6
    have HB_56 := Aside0.mk (below_step HB_55.out hst)
    clear HB_55
    have Bg2_56 := Aside0.mk (blk_below Bg2_55.out hst)
    clear Bg2_55
    have Bg4_56 := Aside0.mk (blk_below Bg4_55.out hst)
    clear Bg4_55
    clear hst
    go_upto_region 9 with (first | ((with_reducible refine gate_store (t := 22) (p := 37) rfl ?_); refine store1_event rfl _ _ _ rfl g2 3 rfl (.int .u64 d1) _ ?hy _ _ #[.int .u64 a2, .int .u64 b1, .int .u64 c1, .int .u64 d1] Bg2_56.out rfl (by kernel_rfl) rfl rfl rfl ?_; (case hy => first | (with_reducible rfl) | rfl | (refine congrArg (Value.int _) ?_; omega)); intro wx57 hst hu; have HB_57 := Aside0.mk (below_upd HB_56.out hu (below_size HB_56.out) (fun k hk => by cases hk; exact Lg2.out)); clear HB_56; have Bg4_57 := Aside0.mk (Upd.blk hu Bg4_56.out (One.not (Ne.symm Ng2g4.out))); clear Bg4_56; have Bg2_57 := Aside0.mk hst; clear hst hu Bg2_56) | ((with_reducible refine gate_dst (N := 39) rfl ?_); refine load1_event rfl _ _ rfl g2 0 rfl _ _ _ _ Bg2_57.out rfl Try.underlying22 rfl ?_) | ((with_reducible refine gate_dst (N := 41) rfl ?_); refine load1_event rfl _ _ rfl g2 3 rfl _ _ _ _ Bg2_57.out rfl Try.underlying22 rfl ?_) | ((with_reducible refine gate_store (t := 22) (p := 43) rfl ?_); refine store1_event rfl _ _ _ rfl g2 0 rfl (.int .u64 a3) _ ?hy _ _ #[.int .u64 a3, .int .u64 b1, .int .u64 c1, .int .u64 d1] Bg2_57.out rfl (by kernel_rfl) rfl rfl rfl ?_; (case hy => first | (with_reducible rfl) | rfl | (refine congrArg (Value.int _) ?_; omega)); intro wx58 hst hu; have HB_58 := Aside0.mk (below_upd HB_57.out hu (below_size HB_57.out) (fun k hk => by cases hk; exact Lg2.out)); clear HB_57; have Bg4_58 := Aside0.mk (Upd.blk hu Bg4_57.out (One.not (Ne.symm Ng2g4.out))); clear Bg4_57; have Bg2_58 := Aside0.mk hst; clear hst hu Bg2_57))
    refine wp_region_rg_list 7 (by kernel_rfl) (fun x y => Below x.heap.size x y) (fun (i : Nat) (v : Value) (w1 : World) => match i with | 0 => v = (.pointer (some ⟨g2, 3, none⟩)) | 1 => v = (.int .u64 d1) | 2 => v = (.int .u64 r3) | 3 => v = (.pointer (some ⟨g2, 0, none⟩)) | 4 => v = (.int .u64 a3) | 5 => v = (.int .u64 d2) | 6 => v = (.pointer (some ⟨g2, 3, none⟩)) | _ => True) (by kernel_rfl) (by kernel_rfl) (by kernel_rfl) (by kernel_rfl) below_tr (Below.refl _ _).drew ?hJst7 ?hObl7 ?hEnd7
    case hJst7 =>
      intro i v wx wy hi hs0 hs1 hJi
      match i, hi with
      | 0, _ => exact hJi
      | 1, _ => exact hJi
      | 2, _ => exact hJi
      | 3, _ => exact hJi
      | 4, _ => exact hJi
      | 5, _ => exact hJi
      | 6, _ => exact hJi
      | _ + 7, hi => exact absurd hi (by simp)
    case hObl7 =>
      refine ⟨?_, ?_, ?_, ?_, ?_, ?_, ?_,  trivial⟩
      · intro listed vals a wq K hD hst hj haft hun hK
        have h2 := hD.out 2 rfl rfl
        clear hD hj haft hun
        have e2 := eval_of h2
        refine step_now (v := .pointer (some ⟨g2, 3, none⟩)) (w' := wq) (wanted_free rfl) ?_ (hK _ _ (Below.refl _ _) rfl)
        clear hK
        first | (go_simp; done) | (go_simp; rfl)
      · intro listed vals a wq K hD hst hj haft hun hK
        obtain ⟨v44, h44, j44⟩ := hD.dep hj haft 0 44 rfl rfl
        replace j44 : v44 = (.pointer (some ⟨g2, 3, none⟩)) := j44
        subst j44
        replace hst : Below _ _ wq := hst
        clear hD hj haft hun
        have e44 := eval_of h44
        exact step_now (v := .int .u64 d1) (w' := wq) (wanted_free rfl) (rg_load rfl e44 (blk_below Bg2_58.out hst) rfl Try.underlying22 rfl) (hK _ _ (Below.refl _ _) rfl)
      · intro listed vals a wq K hD hst hj haft hun hK
        obtain ⟨v45, h45, j45⟩ := hD.dep hj haft 1 45 rfl rfl
        replace j45 : v45 = (.int .u64 d1) := j45
        subst j45
        clear hD hj haft hun
        have e45 := eval_of h45
        refine step_call (f := 51) (args := #[.int .u64 d1, .int .i64 21]) (wanted_free rfl) ?_ (rot21 d1 r3 wq Hr3.out) ?_
        · clear hK; first | (go_simp; done) | (go_simp; rfl)
        · rintro e w' ⟨rfl, rfl⟩; exact ⟨_, rfl, hK _ _ (Below.refl _ _) rfl⟩
      · intro listed vals a wq K hD hst hj haft hun hK
        have h2 := hD.out 2 rfl rfl
        clear hD hj haft hun
        have e2 := eval_of h2
        refine step_now (v := .pointer (some ⟨g2, 0, none⟩)) (w' := wq) (wanted_free rfl) ?_ (hK _ _ (Below.refl _ _) rfl)
        clear hK
        first | (go_simp; done) | (go_simp; rfl)
      · intro listed vals a wq K hD hst hj haft hun hK
        obtain ⟨v47, h47, j47⟩ := hD.dep hj haft 3 47 rfl rfl
        replace j47 : v47 = (.pointer (some ⟨g2, 0, none⟩)) := j47
        subst j47
        replace hst : Below _ _ wq := hst
        clear hD hj haft hun
        have e47 := eval_of h47
        exact step_now (v := .int .u64 a3) (w' := wq) (wanted_free rfl) (rg_load rfl e47 (blk_below Bg2_58.out hst) rfl Try.underlying22 rfl) (hK _ _ (Below.refl _ _) rfl)
      · intro listed vals a wq K hD hst hj haft hun hK
        obtain ⟨v46, h46, j46⟩ := hD.dep hj haft 2 46 rfl rfl
        replace j46 : v46 = (.int .u64 r3) := j46
        subst j46
        obtain ⟨v48, h48, j48⟩ := hD.dep hj haft 4 48 rfl rfl
        replace j48 : v48 = (.int .u64 a3) := j48
        subst j48
        clear hD hj haft hun
        have e46 := eval_of h46
        have e48 := eval_of h48
        refine step_now (v := .int .u64 d2) (w' := wq) (wanted_free rfl) ?_ (hK _ _ (Below.refl _ _) rfl)
        clear hK
        first | (go_simp; done) | (go_simp; rfl) | (go_simp; (try simp only [IntKind.wrap_u32]); omega)
      · intro listed vals a wq K hD hst hj haft hun hK
        have h2 := hD.out 2 rfl rfl
        clear hD hj haft hun
        have e2 := eval_of h2
        refine step_now (v := .pointer (some ⟨g2, 3, none⟩)) (w' := wq) (wanted_free rfl) ?_ (hK _ _ (Below.refl _ _) rfl)
        clear hK
        first | (go_simp; done) | (go_simp; rfl)
    intro vals wend hst hj
    have j0 : vals 0 = (.pointer (some ⟨g2, 3, none⟩)) := hj 0 (by decide)
    have j1 : vals 1 = (.int .u64 d1) := hj 1 (by decide)
    have j2 : vals 2 = (.int .u64 r3) := hj 2 (by decide)
    have j3 : vals 3 = (.pointer (some ⟨g2, 0, none⟩)) := hj 3 (by decide)
    have j4 : vals 4 = (.int .u64 a3) := hj 4 (by decide)
    have j5 : vals 5 = (.int .u64 d2) := hj 5 (by decide)
    have j6 : vals 6 = (.pointer (some ⟨g2, 3, none⟩)) := hj 6 (by decide)
    replace hst : Below _ _ wend := hst
    clear hj
    simp only [List.take_succ_cons, List.take_zero, List.drop_succ_cons, List.drop_zero, putL, Act.put, List.setIfInBounds_toArray, List.set_cons_zero, List.set_cons_succ, j0, j1, j2, j3, j4, j5, j6]
    clear j0 j1 j2 j3 j4 j5 j6
    have HB_59 := Aside0.mk (below_step HB_58.out hst)
    clear HB_58
    have Bg2_59 := Aside0.mk (blk_below Bg2_58.out hst)
    clear Bg2_58
    have Bg4_59 := Aside0.mk (blk_below Bg4_58.out hst)
    clear Bg4_58
    clear hst
    go_upto_region 11 with (first | ((with_reducible refine gate_store (t := 22) (p := 50) rfl ?_); refine store1_event rfl _ _ _ rfl g2 3 rfl (.int .u64 d2) _ ?hy _ _ #[.int .u64 a3, .int .u64 b1, .int .u64 c1, .int .u64 d2] Bg2_59.out rfl (by kernel_rfl) rfl rfl rfl ?_; (case hy => first | (with_reducible rfl) | rfl | (refine congrArg (Value.int _) ?_; omega)); intro wx60 hst hu; have HB_60 := Aside0.mk (below_upd HB_59.out hu (below_size HB_59.out) (fun k hk => by cases hk; exact Lg2.out)); clear HB_59; have Bg4_60 := Aside0.mk (Upd.blk hu Bg4_59.out (One.not (Ne.symm Ng2g4.out))); clear Bg4_59; have Bg2_60 := Aside0.mk hst; clear hst hu Bg2_59) | ((with_reducible refine gate_dst (N := 52) rfl ?_); refine load1_event rfl _ _ rfl g2 2 rfl _ _ _ _ Bg2_60.out rfl Try.underlying22 rfl ?_) | ((with_reducible refine gate_dst (N := 54) rfl ?_); refine load1_event rfl _ _ rfl g2 1 rfl _ _ _ _ Bg2_60.out rfl Try.underlying22 rfl ?_) | ((with_reducible refine gate_store (t := 22) (p := 56) rfl ?_); refine store1_event rfl _ _ _ rfl g2 2 rfl (.int .u64 c2) _ ?hy _ _ #[.int .u64 a3, .int .u64 b1, .int .u64 c2, .int .u64 d2] Bg2_60.out rfl (by kernel_rfl) rfl rfl rfl ?_; (case hy => first | (with_reducible rfl) | rfl | (refine congrArg (Value.int _) ?_; omega)); intro wx61 hst hu; have HB_61 := Aside0.mk (below_upd HB_60.out hu (below_size HB_60.out) (fun k hk => by cases hk; exact Lg2.out)); clear HB_60; have Bg4_61 := Aside0.mk (Upd.blk hu Bg4_60.out (One.not (Ne.symm Ng2g4.out))); clear Bg4_60; have Bg2_61 := Aside0.mk hst; clear hst hu Bg2_60))
    refine wp_region_rg_list 7 (by kernel_rfl) (fun x y => Below x.heap.size x y) (fun (i : Nat) (v : Value) (w1 : World) => match i with | 0 => v = (.pointer (some ⟨g2, 1, none⟩)) | 1 => v = (.int .u64 b1) | 2 => v = (.int .u64 r4) | 3 => v = (.pointer (some ⟨g2, 2, none⟩)) | 4 => v = (.int .u64 c2) | 5 => v = (.int .u64 b2) | 6 => v = (.pointer (some ⟨g2, 1, none⟩)) | _ => True) (by kernel_rfl) (by kernel_rfl) (by kernel_rfl) (by kernel_rfl) below_tr (Below.refl _ _).drew ?hJst8 ?hObl8 ?hEnd8
    case hJst8 =>
      intro i v wx wy hi hs0 hs1 hJi
      match i, hi with
      | 0, _ => exact hJi
      | 1, _ => exact hJi
      | 2, _ => exact hJi
      | 3, _ => exact hJi
      | 4, _ => exact hJi
      | 5, _ => exact hJi
      | 6, _ => exact hJi
      | _ + 7, hi => exact absurd hi (by simp)
    case hObl8 =>
      refine ⟨?_, ?_, ?_, ?_, ?_, ?_, ?_,  trivial⟩
      · intro listed vals a wq K hD hst hj haft hun hK
        have h2 := hD.out 2 rfl rfl
        clear hD hj haft hun
        have e2 := eval_of h2
        refine step_now (v := .pointer (some ⟨g2, 1, none⟩)) (w' := wq) (wanted_free rfl) ?_ (hK _ _ (Below.refl _ _) rfl)
        clear hK
        first | (go_simp; done) | (go_simp; rfl)
      · intro listed vals a wq K hD hst hj haft hun hK
        obtain ⟨v57, h57, j57⟩ := hD.dep hj haft 0 57 rfl rfl
        replace j57 : v57 = (.pointer (some ⟨g2, 1, none⟩)) := j57
        subst j57
        replace hst : Below _ _ wq := hst
        clear hD hj haft hun
        have e57 := eval_of h57
        exact step_now (v := .int .u64 b1) (w' := wq) (wanted_free rfl) (rg_load rfl e57 (blk_below Bg2_61.out hst) rfl Try.underlying22 rfl) (hK _ _ (Below.refl _ _) rfl)
      · intro listed vals a wq K hD hst hj haft hun hK
        obtain ⟨v58, h58, j58⟩ := hD.dep hj haft 1 58 rfl rfl
        replace j58 : v58 = (.int .u64 b1) := j58
        subst j58
        clear hD hj haft hun
        have e58 := eval_of h58
        refine step_call (f := 51) (args := #[.int .u64 b1, .int .i64 17]) (wanted_free rfl) ?_ (rot17 b1 r4 wq Hr4.out) ?_
        · clear hK; first | (go_simp; done) | (go_simp; rfl)
        · rintro e w' ⟨rfl, rfl⟩; exact ⟨_, rfl, hK _ _ (Below.refl _ _) rfl⟩
      · intro listed vals a wq K hD hst hj haft hun hK
        have h2 := hD.out 2 rfl rfl
        clear hD hj haft hun
        have e2 := eval_of h2
        refine step_now (v := .pointer (some ⟨g2, 2, none⟩)) (w' := wq) (wanted_free rfl) ?_ (hK _ _ (Below.refl _ _) rfl)
        clear hK
        first | (go_simp; done) | (go_simp; rfl)
      · intro listed vals a wq K hD hst hj haft hun hK
        obtain ⟨v60, h60, j60⟩ := hD.dep hj haft 3 60 rfl rfl
        replace j60 : v60 = (.pointer (some ⟨g2, 2, none⟩)) := j60
        subst j60
        replace hst : Below _ _ wq := hst
        clear hD hj haft hun
        have e60 := eval_of h60
        exact step_now (v := .int .u64 c2) (w' := wq) (wanted_free rfl) (rg_load rfl e60 (blk_below Bg2_61.out hst) rfl Try.underlying22 rfl) (hK _ _ (Below.refl _ _) rfl)
      · intro listed vals a wq K hD hst hj haft hun hK
        obtain ⟨v59, h59, j59⟩ := hD.dep hj haft 2 59 rfl rfl
        replace j59 : v59 = (.int .u64 r4) := j59
        subst j59
        obtain ⟨v61, h61, j61⟩ := hD.dep hj haft 4 61 rfl rfl
        replace j61 : v61 = (.int .u64 c2) := j61
        subst j61
        clear hD hj haft hun
        have e59 := eval_of h59
        have e61 := eval_of h61
        refine step_now (v := .int .u64 b2) (w' := wq) (wanted_free rfl) ?_ (hK _ _ (Below.refl _ _) rfl)
        clear hK
        first | (go_simp; done) | (go_simp; rfl) | (go_simp; (try simp only [IntKind.wrap_u32]); omega)
      · intro listed vals a wq K hD hst hj haft hun hK
        have h2 := hD.out 2 rfl rfl
        clear hD hj haft hun
        have e2 := eval_of h2
        refine step_now (v := .pointer (some ⟨g2, 1, none⟩)) (w' := wq) (wanted_free rfl) ?_ (hK _ _ (Below.refl _ _) rfl)
        clear hK
        first | (go_simp; done) | (go_simp; rfl)
    intro vals wend hst hj
    have j0 : vals 0 = (.pointer (some ⟨g2, 1, none⟩)) := hj 0 (by decide)
    have j1 : vals 1 = (.int .u64 b1) := hj 1 (by decide)
    have j2 : vals 2 = (.int .u64 r4) := hj 2 (by decide)
    have j3 : vals 3 = (.pointer (some ⟨g2, 2, none⟩)) := hj 3 (by decide)
    have j4 : vals 4 = (.int .u64 c2) := hj 4 (by decide)
    have j5 : vals 5 = (.int .u64 b2) := hj 5 (by decide)
    have j6 : vals 6 = (.pointer (some ⟨g2, 1, none⟩)) := hj 6 (by decide)
    replace hst : Below _ _ wend := hst
    clear hj
    simp only [List.take_succ_cons, List.take_zero, List.drop_succ_cons, List.drop_zero, putL, Act.put, List.setIfInBounds_toArray, List.set_cons_zero, List.set_cons_succ, j0, j1, j2, j3, j4, j5, j6]
    clear j0 j1 j2 j3 j4 j5 j6
    have HB_62 := Aside0.mk (below_step HB_61.out hst)
    clear HB_61
    have Bg2_62 := Aside0.mk (blk_below Bg2_61.out hst)
    clear Bg2_61
    have Bg4_62 := Aside0.mk (blk_below Bg4_61.out hst)
    clear Bg4_61
    clear hst
    go_wp2_with (first | ((with_reducible refine gate_store (t := 22) (p := 63) rfl ?_); refine store1_event rfl _ _ _ rfl g2 1 rfl (.int .u64 b2) _ ?hy _ _ #[.int .u64 a3, .int .u64 b2, .int .u64 c2, .int .u64 d2] Bg2_62.out rfl (by kernel_rfl) rfl rfl rfl ?_; (case hy => first | (with_reducible rfl) | rfl | (refine congrArg (Value.int _) ?_; omega)); intro wx63 hst hu; have HB_63 := Aside0.mk (below_upd HB_62.out hu (below_size HB_62.out) (fun k hk => by cases hk; exact Lg2.out)); clear HB_62; have Bg4_63 := Aside0.mk (Upd.blk hu Bg4_62.out (One.not (Ne.symm Ng2g4.out))); clear Bg4_62; have Bg2_63 := Aside0.mk hst; clear hst hu Bg2_62) | ((with_reducible refine gate_dst (N := 65) rfl ?_); refine load1_event rfl _ _ rfl g2 2 rfl _ _ _ _ Bg2_63.out rfl Try.underlying22 rfl ?_) | (go_at_call 51; refine (rot32 c2 c3 _ Hc3.out).mono ?_; rintro e w_ ⟨rfl, rfl⟩) | ((with_reducible refine gate_store (t := 22) (p := 67) rfl ?_); refine store1_event rfl _ _ _ rfl g2 2 rfl (.int .u64 c3) _ ?hy _ _ #[.int .u64 a3, .int .u64 b2, .int .u64 c3, .int .u64 d2] Bg2_63.out rfl (by kernel_rfl) rfl rfl rfl ?_; (case hy => first | (with_reducible rfl) | rfl | (refine congrArg (Value.int _) ?_; omega)); intro wx64 hst hu; have HB_64 := Aside0.mk (below_upd HB_63.out hu (below_size HB_63.out) (fun k hk => by cases hk; exact Lg2.out)); clear HB_63; have Bg4_64 := Aside0.mk (Upd.blk hu Bg4_63.out (One.not (Ne.symm Ng2g4.out))); clear Bg4_63; have Bg2_64 := Aside0.mk hst; clear hst hu Bg2_63))
    go_roundw
    case rel => exact ⟨k + 1, by have := HLT.out; omega, by go_num, ⟨a3, b2, c3, d2, by rw [rounds, HRK.out, HRND.out], Bg2_64.out⟩, Bg4_64, HB_64⟩
    case measure => have := HLT.out; simp [intOf]; omega
theorem round2 (v : V4) (w : World) : Calls Try.prog 34 #[v.val, .int .i64 2] w fun e w' => e = .returned (rnd (rnd v)).val ∧ Below w.heap.size w w' := round_any v 2 (by omega) w
theorem round4 (v : V4) (w : World) : Calls Try.prog 34 #[v.val, .int .i64 4] w fun e w' => e = .returned (rnd (rnd (rnd (rnd v)))).val ∧ Below w.heap.size w w' := round_any v 4 (by omega) w
theorem round2w (v u : V4) (h : rnd (rnd v) = u) (w : World) : Calls Try.prog 34 #[v.val, .int .i64 2] w fun e w' => e = .returned u.val ∧ Below w.heap.size w w' := by
  subst h; exact round2 v w
theorem rround_w (v u : V4) (h : rnd v = u) (w : World) : Calls Try.prog 36 #[v.val] w fun e w' => e = .returned u.val ∧ Below w.heap.size w w' := by
  subst h; exact rround_any v w
set_option maxRecDepth 100000 in
set_option maxHeartbeats 8000000 in
theorem take_ways (va vb vc vd m xd wa wb wc wd ya : Int) (w : World) (hx : bits .xor .u64 vd m = xd) (hr : Aside0 (rnd (rnd ⟨va, vb, vc, xd⟩) = ⟨wa, wb, wc, wd⟩)) (hy : bits .xor .u64 wa m = ya) : Calls Try.prog 32 #[.agg #[.int .u64 va, .int .u64 vb, .int .u64 vc, .int .u64 vd], .int .u64 m] w fun e w' => e = .returned (.agg #[.int .u64 ya, .int .u64 wb, .int .u64 wc, .int .u64 wd]) ∧ Below w.heap.size w w' := by
  go_enter Try.func32, Try.ntmps32
  go_upto_region 2 with (first | ((with_reducible refine gate_dst (N := 2) rfl ?_); refine box_event ?hg (N := 2) ?hd (cs := #[.int .u64 va, .int .u64 vb, .int .u64 vc, .int .u64 vd]) (t := 82) ?hr ?_; (case hd => rfl); (case hg => rfl); (case hr => first | (go_simp; done) | (go_simp; rfl)); intro g2 hgg wx1 hbox hb; have Lg2 := Aside0.mk (show w.heap.size ≤ g2 by rw [hgg]; exact Nat.le_refl _); have HB_1 := Aside0.mk (hb); have Bg2_1 := Aside0.mk hbox; clear hbox hb hgg) | ((with_reducible refine gate_dst (N := 4) rfl ?_); refine box_event ?hg (N := 4) ?hd (cs := #[.int .u64 0, .int .u64 0, .int .u64 0, .int .u64 0]) (t := 82) ?hr ?_; (case hd => rfl); (case hg => rfl); (case hr => first | (go_simp; done) | (go_simp; rfl)); intro g4 hgg wx2 hbox hb; have Ng2g4 := Aside0.mk (show g2 ≠ g4 by rw [hgg]; exact Nat.ne_of_lt (blk_lt Bg2_1.out)); have Lg4 := Aside0.mk (show w.heap.size ≤ g4 by rw [hgg]; exact below_size HB_1.out); have HB_2 := Aside0.mk (below_step HB_1.out hb); clear HB_1; have Bg2_2 := Aside0.mk (blk_below Bg2_1.out hb); clear Bg2_1; have Bg4_2 := Aside0.mk hbox; clear hbox hb hgg) | ((with_reducible refine gate_dst (N := 6) rfl ?_); refine load1_event rfl _ _ rfl g2 3 rfl _ _ _ _ Bg2_2.out rfl Try.underlying22 rfl ?_) | ((with_reducible refine gate_store (t := 22) (p := 9) rfl ?_); refine store1_event rfl _ _ _ rfl g2 3 rfl (.int .u64 xd) _ ?hy _ _ #[.int .u64 va, .int .u64 vb, .int .u64 vc, .int .u64 xd] Bg2_2.out rfl (by kernel_rfl) rfl rfl rfl ?_; (case hy => first | (with_reducible rfl) | rfl | (refine congrArg (Value.int _) ?_; omega)); intro wx3 hst hu; have HB_3 := Aside0.mk (below_upd HB_2.out hu (below_size HB_2.out) (fun k hk => by cases hk; exact Lg2.out)); clear HB_2; have Bg4_3 := Aside0.mk (Upd.blk hu Bg4_2.out (One.not (Ne.symm Ng2g4.out))); clear Bg4_2; have Bg2_3 := Aside0.mk hst; clear hst hu Bg2_2))
  go_upto_region 3 with (first | ((with_reducible refine gate_dst (N := 10) rfl ?_); refine load_event rfl 82 _ rfl g2 rfl _ _ _ Bg2_3.out Try.underlying82 rfl (by kernel_rfl) ?_) | (go_at_call 34; refine (round2w ⟨va, vb, vc, xd⟩ ⟨wa, wb, wc, wd⟩ hr.out _).mono ?_; rintro e wx4 ⟨rfl, hb⟩; have HB_4 := Aside0.mk (below_step HB_3.out hb); clear HB_3; have Bg2_4 := Aside0.mk (blk_below Bg2_3.out hb); clear Bg2_3; have Bg4_4 := Aside0.mk (blk_below Bg4_3.out hb); clear Bg4_3; clear hb) | ((with_reducible refine gate_store (t := 82) (p := 2) rfl ?_); refine store_event rfl 82 _ _ rfl g2 _ rfl rfl _ _ Bg2_4.out (by kernel_rfl) rfl rfl ?_; intro wx5 hst hu; have HB_5 := Aside0.mk (below_upd HB_4.out hu (below_size HB_4.out) (fun k hk => by cases hk; exact Lg2.out)); clear HB_4; have Bg4_5 := Aside0.mk (Upd.blk hu Bg4_4.out (One.not (Ne.symm Ng2g4.out))); clear Bg4_4; have Bg2_5 := Aside0.mk hst; clear hst hu Bg2_4))
  go_upto_region 4 with (first | ((with_reducible refine gate_dst (N := 13) rfl ?_); refine load1_event rfl _ _ rfl g2 0 rfl _ _ _ _ Bg2_5.out rfl Try.underlying22 rfl ?_) | ((with_reducible refine gate_store (t := 22) (p := 16) rfl ?_); refine store1_event rfl _ _ _ rfl g2 0 rfl (.int .u64 ya) _ ?hy _ _ #[.int .u64 ya, .int .u64 wb, .int .u64 wc, .int .u64 wd] Bg2_5.out rfl (by kernel_rfl) rfl rfl rfl ?_; (case hy => first | (with_reducible rfl) | rfl | (refine congrArg (Value.int _) ?_; omega)); intro wx6 hst hu; have HB_6 := Aside0.mk (below_upd HB_5.out hu (below_size HB_5.out) (fun k hk => by cases hk; exact Lg2.out)); clear HB_5; have Bg4_6 := Aside0.mk (Upd.blk hu Bg4_5.out (One.not (Ne.symm Ng2g4.out))); clear Bg4_5; have Bg2_6 := Aside0.mk hst; clear hst hu Bg2_5))
  go_wp2_with (first | ((with_reducible refine gate_dst (N := 17) rfl ?_); refine load_event rfl 82 _ rfl g2 rfl _ _ _ Bg2_6.out Try.underlying82 rfl (by kernel_rfl) ?_) | ((with_reducible refine gate_store (t := 82) (p := 4) rfl ?_); refine store_event rfl 82 _ _ rfl g4 _ rfl rfl _ _ Bg4_6.out (by kernel_rfl) rfl rfl ?_; intro wx7 hst hu; have HB_7 := Aside0.mk (below_upd HB_6.out hu (below_size HB_6.out) (fun k hk => by cases hk; exact Lg4.out)); clear HB_6; have Bg2_7 := Aside0.mk (Upd.blk hu Bg2_6.out (One.not Ng2g4.out)); clear Bg2_6; have Bg4_7 := Aside0.mk hst; clear hst hu Bg4_6))
  exact bodyPost_ret (results_cell_row rfl _ _ g4 82 _ (0, 0) _ rfl Bg4_7.out Try.underlying82 rfl (by kernel_rfl)) rfl ⟨rfl, HB_7.out⟩
theorem take_any (v : V4) (m : Int) (w : World) : Calls Try.prog 32 #[v.val, .int .u64 m] w fun e w' => e = .returned (tk v m).val ∧ Below w.heap.size w w' :=
  take_ways v.a v.b v.c v.d m _ _ _ _ _ _ w rfl ⟨rfl⟩ rfl
set_option maxRecDepth 100000 in
set_option maxHeartbeats 8000000 in
theorem rtake_ways (va vb vc vd m xd wa wb wc wd ya : Int) (w : World) (hx : bits .xor .u64 vd m = xd) (hr : Aside0 (rnd (rnd ⟨va, vb, vc, xd⟩) = ⟨wa, wb, wc, wd⟩)) (hy : bits .xor .u64 wa m = ya) : Calls Try.prog 35 #[.agg #[.int .u64 va, .int .u64 vb, .int .u64 vc, .int .u64 vd], .int .u64 m] w fun e w' => e = .returned (.agg #[.int .u64 ya, .int .u64 wb, .int .u64 wc, .int .u64 wd]) ∧ Below w.heap.size w w' := by
  go_enter Try.func35, Try.ntmps35
  go_upto_region 2 with (first | ((with_reducible refine gate_dst (N := 2) rfl ?_); refine box_event ?hg (N := 2) ?hd (cs := #[.int .u64 va, .int .u64 vb, .int .u64 vc, .int .u64 vd]) (t := 88) ?hr ?_; (case hd => rfl); (case hg => rfl); (case hr => first | (go_simp; done) | (go_simp; rfl)); intro g2 hgg wx1 hbox hb; have Lg2 := Aside0.mk (show w.heap.size ≤ g2 by rw [hgg]; exact Nat.le_refl _); have HB_1 := Aside0.mk (hb); have Bg2_1 := Aside0.mk hbox; clear hbox hb hgg) | ((with_reducible refine gate_dst (N := 4) rfl ?_); refine box_event ?hg (N := 4) ?hd (cs := #[.int .u64 0, .int .u64 0, .int .u64 0, .int .u64 0]) (t := 88) ?hr ?_; (case hd => rfl); (case hg => rfl); (case hr => first | (go_simp; done) | (go_simp; rfl)); intro g4 hgg wx2 hbox hb; have Ng2g4 := Aside0.mk (show g2 ≠ g4 by rw [hgg]; exact Nat.ne_of_lt (blk_lt Bg2_1.out)); have Lg4 := Aside0.mk (show w.heap.size ≤ g4 by rw [hgg]; exact below_size HB_1.out); have HB_2 := Aside0.mk (below_step HB_1.out hb); clear HB_1; have Bg2_2 := Aside0.mk (blk_below Bg2_1.out hb); clear Bg2_1; have Bg4_2 := Aside0.mk hbox; clear hbox hb hgg) | ((with_reducible refine gate_dst (N := 6) rfl ?_); refine load1_event rfl _ _ rfl g2 3 rfl _ _ _ _ Bg2_2.out rfl Try.underlying22 rfl ?_) | ((with_reducible refine gate_store (t := 22) (p := 9) rfl ?_); refine store1_event rfl _ _ _ rfl g2 3 rfl (.int .u64 xd) _ ?hy _ _ #[.int .u64 va, .int .u64 vb, .int .u64 vc, .int .u64 xd] Bg2_2.out rfl (by kernel_rfl) rfl rfl rfl ?_; (case hy => first | (with_reducible rfl) | rfl | (refine congrArg (Value.int _) ?_; omega)); intro wx3 hst hu; have HB_3 := Aside0.mk (below_upd HB_2.out hu (below_size HB_2.out) (fun k hk => by cases hk; exact Lg2.out)); clear HB_2; have Bg4_3 := Aside0.mk (Upd.blk hu Bg4_2.out (One.not (Ne.symm Ng2g4.out))); clear Bg4_2; have Bg2_3 := Aside0.mk hst; clear hst hu Bg2_2))
  go_upto_region 3 with (first | ((with_reducible refine gate_dst (N := 10) rfl ?_); refine load_event rfl 88 _ rfl g2 rfl _ _ _ Bg2_3.out Try.underlying88 rfl (by kernel_rfl) ?_) | (go_at_call 36; with_reducible refine (rround_w (rnd ⟨va, vb, vc, xd⟩) ⟨wa, wb, wc, wd⟩ hr.out _).mono ?_; rintro e wx5 ⟨rfl, hb⟩; have HB_5 := Aside0.mk (below_step HB_4.out hb); clear HB_4; have Bg2_5 := Aside0.mk (blk_below Bg2_4.out hb); clear Bg2_4; have Bg4_5 := Aside0.mk (blk_below Bg4_4.out hb); clear Bg4_4; clear hb) | (go_at_call 36; refine (rround_any ⟨va, vb, vc, xd⟩ _).mono ?_; rintro e wx4 ⟨rfl, hb⟩; have HB_4 := Aside0.mk (below_step HB_3.out hb); clear HB_3; have Bg2_4 := Aside0.mk (blk_below Bg2_3.out hb); clear Bg2_3; have Bg4_4 := Aside0.mk (blk_below Bg4_3.out hb); clear Bg4_3; clear hb) | ((with_reducible refine gate_store (t := 88) (p := 2) rfl ?_); refine store_event rfl 88 _ _ rfl g2 _ rfl rfl _ _ Bg2_5.out (by kernel_rfl) rfl rfl ?_; intro wx6 hst hu; have HB_6 := Aside0.mk (below_upd HB_5.out hu (below_size HB_5.out) (fun k hk => by cases hk; exact Lg2.out)); clear HB_5; have Bg4_6 := Aside0.mk (Upd.blk hu Bg4_5.out (One.not (Ne.symm Ng2g4.out))); clear Bg4_5; have Bg2_6 := Aside0.mk hst; clear hst hu Bg2_5))
  go_upto_region 4 with (first | ((with_reducible refine gate_dst (N := 14) rfl ?_); refine load1_event rfl _ _ rfl g2 0 rfl _ _ _ _ Bg2_6.out rfl Try.underlying22 rfl ?_) | ((with_reducible refine gate_store (t := 22) (p := 17) rfl ?_); refine store1_event rfl _ _ _ rfl g2 0 rfl (.int .u64 ya) _ ?hy _ _ #[.int .u64 ya, .int .u64 wb, .int .u64 wc, .int .u64 wd] Bg2_6.out rfl (by kernel_rfl) rfl rfl rfl ?_; (case hy => first | (with_reducible rfl) | rfl | (refine congrArg (Value.int _) ?_; omega)); intro wx7 hst hu; have HB_7 := Aside0.mk (below_upd HB_6.out hu (below_size HB_6.out) (fun k hk => by cases hk; exact Lg2.out)); clear HB_6; have Bg4_7 := Aside0.mk (Upd.blk hu Bg4_6.out (One.not (Ne.symm Ng2g4.out))); clear Bg4_6; have Bg2_7 := Aside0.mk hst; clear hst hu Bg2_6))
  go_wp2_with (first | ((with_reducible refine gate_dst (N := 18) rfl ?_); refine load_event rfl 88 _ rfl g2 rfl _ _ _ Bg2_7.out Try.underlying88 rfl (by kernel_rfl) ?_) | ((with_reducible refine gate_store (t := 88) (p := 4) rfl ?_); refine store_event rfl 88 _ _ rfl g4 _ rfl rfl _ _ Bg4_7.out (by kernel_rfl) rfl rfl ?_; intro wx8 hst hu; have HB_8 := Aside0.mk (below_upd HB_7.out hu (below_size HB_7.out) (fun k hk => by cases hk; exact Lg4.out)); clear HB_7; have Bg2_8 := Aside0.mk (Upd.blk hu Bg2_7.out (One.not Ng2g4.out)); clear Bg2_7; have Bg4_8 := Aside0.mk hst; clear hst hu Bg4_7))
  exact bodyPost_ret (results_cell_row rfl _ _ g4 88 _ (0, 0) _ rfl Bg4_8.out Try.underlying88 rfl (by kernel_rfl)) rfl ⟨rfl, HB_8.out⟩
theorem rtake_any (v : V4) (m : Int) (w : World) : Calls Try.prog 35 #[v.val, .int .u64 m] w fun e w' => e = .returned (tk v m).val ∧ Below w.heap.size w w' :=
  rtake_ways v.a v.b v.c v.d m _ _ _ _ _ _ w rfl ⟨rfl⟩ rfl
end Go.Proofs.Ytainkpgplmkiaaa.Cook
