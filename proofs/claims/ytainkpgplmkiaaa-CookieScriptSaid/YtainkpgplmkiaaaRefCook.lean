/- The reference's put and Cookie: contracts. No condition. -/
import Derived.Test.YtainkpgplmkiaaaCookCookie
namespace Go.Proofs.Ytainkpgplmkiaaa.RefCook
open Go Go.RowKit Go.Deep Go.Proofs.YtainkpgplmkiaaaW.PrintWords Go.Proofs.YtainkpgplmkiaaaW.PrintLast Go.Proofs.YtainkpgplmkiaaaW.PrintMore Go.Proofs.Ytainkpgplmkiaaa.MWorld Go.Proofs.Ytainkpgplmkiaaa.Ev Go.Proofs.Ytainkpgplmkiaaa.Rg Go.Proofs.Ytainkpgplmkiaaa.Rgw Go.Proofs.Ytainkpgplmkiaaa.Done Go.Proofs.Ytainkpgplmkiaaa.Cook Go.Proofs.Ytainkpgplmkiaaa.HashDef Go.Proofs.Ytainkpgplmkiaaa.CookLow Go.Proofs.Ytainkpgplmkiaaa.CookHash Go.Proofs.Ytainkpgplmkiaaa.CookPut Go.Proofs.Ytainkpgplmkiaaa.CookCookie
set_option linter.unusedVariables false
set_option linter.unusedSimpArgs false
def Kq (N : Nat → Prop) (w w' : World) : Prop := w.heap.size ≤ w'.heap.size ∧ ∀ k, N k → w'.heap[k]? = w.heap[k]?
theorem kq_refl (N : Nat → Prop) (w : World) : Kq N w w := ⟨Nat.le_refl _, fun _ _ => rfl⟩
theorem kq_trans {N : Nat → Prop} {a b c : World} (h : Kq N a b) (k : Kq N b c) : Kq N a c := ⟨Nat.le_trans h.1 k.1, fun x hx => (k.2 x hx).trans (h.2 x hx)⟩
theorem kq_below {N : Nat → Prop} {a b : World} (hN : ∀ k, N k → k < a.heap.size) (h : Below a.heap.size a b) : Kq N a b := ⟨h.size, fun x hx => h.block x (hN x hx)⟩
set_option maxRecDepth 100000 in
set_option maxHeartbeats 8000000 in
theorem rput_any (v0 : Value) (n : Int) (many : Nat) (hm : many ≤ 8) (xs0 : List Int) (hx : xs0.length < 1000) (w0 w : World) (hB : Below w0.heap.size w0 w) (N : Nat → Prop) (hN : ∀ k, N k → k < w.heap.size) (hR : Kd.R (Kd.int .u8) 5 w w0.heap.size (fun k => ¬ N k) v0 xs0) :
    Calls Try.prog 38 #[v0, .int .u64 n, .int .i64 (many : Int)] w fun e w' => ∃ v' : Value, e = .returned v' ∧ Kd.R (Kd.int .u8) 5 w' w0.heap.size (fun k => ¬ N k) v' (xs0 ++ digits n many) ∧ Below w0.heap.size w0 w' ∧ Kq N w w' := by
  have HNN := Aside0.mk hN
  have HRo := Aside0.mk hR
  have HBo := Aside0.mk hB
  have HXL := Aside0.mk hx
  have HM := Aside0.mk hm
  have HK0 : Aside0 (Kq N w w) := ⟨kq_refl _ _⟩
  have hi0 : IntKind.i64.wrap ((many : Int) - 1) = (many : Int) - 1 := by rw [IntKind.wrap_i64]; omega
  have HI0 : Aside0 (-1 ≤ (many : Int) - 1 ∧ (many : Int) - 1 < 8 ∧ xs0 ++ digits n (((many : Int) - 1) + 1).toNat = xs0 ++ digits n many) := ⟨by omega, by omega, by rw [show (((many : Int) - 1) + 1).toNat = many by omega]⟩
  clear hR hB hx hm hN
  go_enter Try.func38, Try.ntmps38
  go_upto_region 2 with fail
  go_loopw [0, 7] (fun b v wr => ∃ (ii : Int) (xs : List Int), v = .int .i64 ii ∧ Aside0 (-1 ≤ ii ∧ ii < 8 ∧ xs ++ digits n (ii + 1).toNat = xs0 ++ digits n many) ∧ Aside0 (Kd.R (Kd.int .u8) 5 wr w0.heap.size (fun k => ¬ N k) b xs) ∧ Aside0 (Kq N w wr) ∧ Aside0 (Below w0.heap.size w0 wr)) (fun _ v _ => (intOf v + 1).toNat)
  case atStart => exact ⟨_, xs0, rfl, HI0, HRo, HK0, HBo⟩
  case round =>
    clear HI0 HRo HBo HK0 hi0
    obtain ⟨ii, xs, rfl, HI, HR, HKE, HB⟩ := hrel
    by_cases hi : 0 ≤ ii
    case neg =>
      have hid : decide (0 ≤ ii) = false := decide_eq_false hi
      have hfin : xs = xs0 ++ digits n many := by
        have := HI.out
        rw [show (ii + 1).toNat = 0 by omega] at this
        simpa [digits] using this.2.2
      have HF := Aside0.mk hfin
      clear hi hfin
      go_wp2
      go_ret
      exact ⟨_, rfl, by rw [← HF.out]; exact HR.out, HB.out, HKE.out⟩
    have hid : decide (0 ≤ ii) = true := decide_eq_true hi
    obtain ⟨s8, hs8⟩ : ∃ s : Int, IntKind.i64.wrap (8 * ii) = s := ⟨_, rfl⟩
    have hs8' : s8 = 8 * ii := by have := HI.out; rw [← hs8, IntKind.wrap_i64]; omega
    have hsT : (0 ≤ s8) = True := eq_true (by omega)
    have hsD : decide (0 ≤ s8) = true := decide_eq_true (by omega)
    obtain ⟨q, hq⟩ : ∃ q : Int, n / 2 ^ min s8.toNat 64 = q := ⟨_, rfl⟩
    have hqz : s8 ≤ 64 → n / 2 ^ s8.toNat = q := fun h => by rw [← hq, show min s8.toNat 64 = s8.toNat by omega]
    have hi1 : IntKind.i64.wrap (ii - 1) = ii - 1 := by have := HI.out; rw [IntKind.wrap_i64]; omega
    have HQ : Aside0 (q = n / 2 ^ (8 * ii.toNat)) := ⟨by rw [← hq, show min s8.toNat 64 = 8 * ii.toNat by have := HI.out; omega]⟩
    have HI1 := Aside0.mk hi
    have HXX : Aside0 (xs.length < 2000) := ⟨by
      have h1 := congrArg List.length HI.out.2.2
      rw [List.length_append, List.length_append] at h1
      have h2 := digits_len n many
      have h3 := HXL.out
      have h4 := HM.out
      omega⟩
    clear hi hs8'
    go_wp2_with ((with_reducible refine gate_builtin (b := .append) (xs := #[.tmp 14, .tmp 20]) rfl ?_); at_builtin; refine Kd.R_append (Kd.int .u8) (w0 := w0) w0.heap.size rfl (.tmp 14) (.tmp 20) 25 5 (.int .u8 0) 1 rfl Try.underlying25 inf5 rfl (by decide) (by omega) u0 xs (q % 256) [.int .u8 (q % 256)] (fun k => ¬ N k) (fun _ => False) rfl rfl ?aP (fun _ hk => hk.elim) ?aF ?aO ?aB ?aS ?aL ?_; (case aP => exact rfl); (case aF => exact (fun k hk h2 => absurd (Nat.lt_of_lt_of_le (HNN.out k h2) (Nat.le_trans HKE.out.1 hk)) (Nat.lt_irrefl _))); (case aO => exact HR.out); (case aB => exact HB.out); (case aS => exact below_size HB.out); (case aL => have := HXX.out; omega); intro v1 w9 ho hb hg hat; have HO := Aside0.mk ho; have HB9 := Aside0.mk hb; have HK9 : Aside0 (Kq N w w9) := ⟨Nat.le_trans HKE.out.1 hg.size, fun k hk => (hg.block k (Nat.lt_of_lt_of_le (HNN.out k hk) HKE.out.1) (fun h => HR.out.1 k h.symm hk)).trans (HKE.out.2 k hk)⟩; clear ho hb hg hat)
    go_roundw
    case measure => have := HI1.out; simp [intOf]; omega
    case rel => exact ⟨ii - 1, xs ++ [q % 256], by go_num, ⟨by have := HI1.out; omega, by have := HI.out; omega, by rw [← HI.out.2.2, HQ.out, show (ii + 1).toNat = ii.toNat + 1 by have := HI1.out; omega, show (ii - 1 + 1).toNat = ii.toNat by omega, List.append_assoc]; rfl⟩, HO, HK9, HB9⟩
/-- A region in which operation 4 appends: what the rows are. -/
def RcV (w0 : World) (N : Nat → Prop) (v7 : Value) (ys7 ys8 : List Int) (d : Nat → Bool) (vals : Nat → Value) (w : World) : Prop :=
  if d 4 = true then Kd.R (Kd.int .u8) 5 w w0.heap.size (fun k => ¬ N k) (vals 4) ys8 else Kd.R (Kd.int .u8) 5 w w0.heap.size (fun k => ¬ N k) v7 ys7
def RcSt (w0 : World) (N : Nat → Prop) (x y : World) : Prop := Kq N x y ∧ (Below w0.heap.size w0 x → Below w0.heap.size w0 y)
section
variable {w0 w w' : World} {N : Nat → Prop} {v7 : Value} {ys7 ys8 : List Int} {d : Nat → Bool} {vals : Nat → Value}
theorem rcst_refl (w0 : World) (N : Nat → Prop) (x : World) : RcSt w0 N x x := ⟨kq_refl _ _, id⟩
theorem rcst_trans (x y z : World) (h : RcSt w0 N x y) (k : RcSt w0 N y z) : RcSt w0 N x z := ⟨kq_trans h.1 k.1, fun q => k.2 (h.2 q)⟩
theorem rcst_drew (x : World) : RcSt w0 N x x.drew := ⟨⟨Nat.le_refl _, fun _ _ => rfl⟩, fun h => below_drew h⟩
theorem rc_other {i : Nat} {v : Value} (h4 : 4 ≠ i) (h : RcV w0 N v7 ys7 ys8 d vals w) : RcV w0 N v7 ys7 ys8 (fun j => if j = i then true else d j) (fun j => if j = i then v else vals j) w := by
  unfold RcV at h ⊢; simp only [if_neg h4]; exact h
theorem rc_below {i : Nat} {v : Value} (h4 : 4 ≠ i) (h : RcV w0 N v7 ys7 ys8 d vals w) (hb : Below w.heap.size w w') : RcV w0 N v7 ys7 ys8 (fun j => if j = i then true else d j) (fun j => if j = i then v else vals j) w' := by
  unfold RcV at h ⊢; simp only [if_neg h4]
  split at h
  · rename_i e; rw [if_pos e]; exact Kd.R_below h hb
  · rename_i e; rw [if_neg e]; exact Kd.R_below h hb
theorem rc_made {v : Value} (h : Kd.R (Kd.int .u8) 5 w w0.heap.size (fun k => ¬ N k) v ys8) : RcV w0 N v7 ys7 ys8 (fun j => if j = 4 then true else d j) (fun j => if j = 4 then v else vals j) w := by
  unfold RcV; simp only [if_true]; exact h
theorem rc_start (h : Kd.R (Kd.int .u8) 5 w w0.heap.size (fun k => ¬ N k) v7 ys7) : RcV w0 N v7 ys7 ys8 (fun _ => false) vals w := by
  unfold RcV; rw [if_neg (by decide)]; exact h
theorem rc_pre (h : RcV w0 N v7 ys7 ys8 d vals w) (h4 : d 4 = false) : Kd.R (Kd.int .u8) 5 w w0.heap.size (fun k => ¬ N k) v7 ys7 := by
  unfold RcV at h; rw [if_neg (by rw [h4]; decide)] at h; exact h
theorem rc_done (h : RcV w0 N v7 ys7 ys8 d vals w) (h4 : d 4 = true) : Kd.R (Kd.int .u8) 5 w w0.heap.size (fun k => ¬ N k) (vals 4) ys8 := by
  unfold RcV at h; rw [if_pos h4] at h; exact h
end
set_option maxRecDepth 100000 in
set_option maxHeartbeats 16000000 in
theorem rcookie_any (sa sb p sh sl dh dl sp dp wn : Int) (w : World) : Calls Try.prog 14 #[.agg #[.int .u64 sa, .int .u64 sb], .agg #[.int .i64 p, .int .u64 sh, .int .u64 sl, .int .u64 dh, .int .u64 dl, .int .i64 sp, .int .i64 dp], .int .i64 wn] w fun e w' => e = .returned (.int .u32 (ck sa sb p sh sl dh dl sp dp wn)) ∧ Below w.heap.size w w' := by
  obtain ⟨np, hnp⟩ : ∃ x : Int, IntKind.u64.wrap p = x := ⟨_, rfl⟩
  obtain ⟨ns, hns⟩ : ∃ x : Int, IntKind.u64.wrap sp = x := ⟨_, rfl⟩
  obtain ⟨nd, hnd⟩ : ∃ x : Int, IntKind.u64.wrap dp = x := ⟨_, rfl⟩
  obtain ⟨nw, hnw⟩ : ∃ x : Int, IntKind.u64.wrap wn = x := ⟨_, rfl⟩
  go_enter Try.func14, Try.ntmps14
  go_upto_region 1 with (first | ((with_reducible refine gate_dst (N := 3) rfl ?_); refine box_event ?hg (N := 3) ?hd (cs := #[.int .u64 sa, .int .u64 sb]) (t := 30) ?hr ?_; (case hd => rfl); (case hg => rfl); (case hr => first | (go_simp; done) | (go_simp; rfl)); intro g3 hgg wx1 hbox hb; have Lg3 := Aside0.mk (show w.heap.size ≤ g3 by rw [hgg]; exact Nat.le_refl _); have HB_1 := Aside0.mk (hb); have Bg3_1 := Aside0.mk hbox; clear hbox hb hgg) | ((with_reducible refine gate_dst (N := 4) rfl ?_); refine box_event ?hg (N := 4) ?hd (cs := #[.int .i64 p, .int .u64 sh, .int .u64 sl, .int .u64 dh, .int .u64 dl, .int .i64 sp, .int .i64 dp]) (t := 29) ?hr ?_; (case hd => rfl); (case hg => rfl); (case hr => first | (go_simp; done) | (go_simp; rfl)); intro g4 hgg wx2 hbox hb; have Ng3g4 := Aside0.mk (show g3 ≠ g4 by rw [hgg]; exact Nat.ne_of_lt (blk_lt Bg3_1.out)); have Lg4 := Aside0.mk (show w.heap.size ≤ g4 by rw [hgg]; exact below_size HB_1.out); have HB_2 := Aside0.mk (below_step HB_1.out hb); clear HB_1; have Bg3_2 := Aside0.mk (blk_below Bg3_1.out hb); clear Bg3_1; have Bg4_2 := Aside0.mk hbox; clear hbox hb hgg))
  go_upto_region 2 with (first | ((with_reducible refine gate_dst (N := 8) rfl ?_); refine Kd.R_lit (Kd.int .u8) (w0 := w) w.heap.size 5 ?hg (N := 8) ?hd (xs := ([] : List Int)) (inner := []) (ok := fun k => ¬ (Nof g3 g4 g3 g3) k) (okp := fun _ => False) ?hr ?hp (fun _ hk => hk.elim) ?hf HB_2.out (below_size HB_2.out) (by simp) ?_; (case hd => rfl); (case hg => rfl); (case hr => first | (go_simp; done) | (go_simp; rfl)); (case hp => exact (Reps.none _ _)); (case hf => exact (fun h => absurd ((nof_lt (blk_lt Bg3_2.out) (blk_lt Bg4_2.out) (blk_lt Bg3_2.out) (blk_lt Bg3_2.out)) _ h) (Nat.lt_irrefl _))); intro v100 wz100 ho hb hg hnew; have HR_100 := Aside0.mk ho; have Bg3_100 := Aside0.mk ((hg.block g3 (blk_lt Bg3_2.out) (by simp)).trans Bg3_2.out); clear Bg3_2; have Bg4_100 := Aside0.mk ((hg.block g4 (blk_lt Bg4_2.out) (by simp)).trans Bg4_2.out); clear Bg4_2; have HB_100 := Aside0.mk hb; clear ho hb hg hnew HB_2) | ((with_reducible refine gate_dst (N := 10) rfl ?_); refine load1_event rfl _ _ rfl g4 0 rfl _ _ _ _ Bg4_100.out rfl Try.underlying3 rfl ?_) | (go_at_call 38; refine (rput_any v100 np 2 (by decide) ([] : List Int) (by simp [digits_len]) w _ HB_100.out (Nof g3 g4 g3 g3) (nof_lt (blk_lt Bg3_100.out) (blk_lt Bg4_100.out) (blk_lt Bg3_100.out) (blk_lt Bg3_100.out)) HR_100.out).mono ?_; rintro e wz101 ⟨v101, rfl, hr, hb, hk⟩; have Bg3_101 := Aside0.mk ((hk.2 g3 (.inl rfl)).trans Bg3_100.out); clear Bg3_100; have Bg4_101 := Aside0.mk ((hk.2 g4 (.inr (.inl rfl))).trans Bg4_100.out); clear Bg4_100; have HR_101 := Aside0.mk hr; have HB_101 := Aside0.mk hb; clear hr hb hk HR_100 HB_100))
  go_upto_region 3 with (first | ((with_reducible refine gate_dst (N := 16) rfl ?_); refine load1_event rfl _ _ rfl g4 1 rfl _ _ _ _ Bg4_101.out rfl Try.underlying22 rfl ?_) | (go_at_call 38; refine (rput_any v101 sh 8 (by decide) (([] : List Int) ++ digits np 2) (by simp [digits_len]) w _ HB_101.out (Nof g3 g4 g3 g3) (nof_lt (blk_lt Bg3_101.out) (blk_lt Bg4_101.out) (blk_lt Bg3_101.out) (blk_lt Bg3_101.out)) HR_101.out).mono ?_; rintro e wz102 ⟨v102, rfl, hr, hb, hk⟩; have Bg3_102 := Aside0.mk ((hk.2 g3 (.inl rfl)).trans Bg3_101.out); clear Bg3_101; have Bg4_102 := Aside0.mk ((hk.2 g4 (.inr (.inl rfl))).trans Bg4_101.out); clear Bg4_101; have HR_102 := Aside0.mk hr; have HB_102 := Aside0.mk hb; clear hr hb hk HR_101 HB_101))
  go_upto_region 4 with (first | ((with_reducible refine gate_dst (N := 21) rfl ?_); refine load1_event rfl _ _ rfl g4 2 rfl _ _ _ _ Bg4_102.out rfl Try.underlying22 rfl ?_) | (go_at_call 38; refine (rput_any v102 sl 8 (by decide) ((([] : List Int) ++ digits np 2) ++ digits sh 8) (by simp [digits_len]) w _ HB_102.out (Nof g3 g4 g3 g3) (nof_lt (blk_lt Bg3_102.out) (blk_lt Bg4_102.out) (blk_lt Bg3_102.out) (blk_lt Bg3_102.out)) HR_102.out).mono ?_; rintro e wz103 ⟨v103, rfl, hr, hb, hk⟩; have Bg3_103 := Aside0.mk ((hk.2 g3 (.inl rfl)).trans Bg3_102.out); clear Bg3_102; have Bg4_103 := Aside0.mk ((hk.2 g4 (.inr (.inl rfl))).trans Bg4_102.out); clear Bg4_102; have HR_103 := Aside0.mk hr; have HB_103 := Aside0.mk hb; clear hr hb hk HR_102 HB_102))
  go_upto_region 5 with (first | ((with_reducible refine gate_dst (N := 26) rfl ?_); refine load1_event rfl _ _ rfl g4 3 rfl _ _ _ _ Bg4_103.out rfl Try.underlying22 rfl ?_) | (go_at_call 38; refine (rput_any v103 dh 8 (by decide) (((([] : List Int) ++ digits np 2) ++ digits sh 8) ++ digits sl 8) (by simp [digits_len]) w _ HB_103.out (Nof g3 g4 g3 g3) (nof_lt (blk_lt Bg3_103.out) (blk_lt Bg4_103.out) (blk_lt Bg3_103.out) (blk_lt Bg3_103.out)) HR_103.out).mono ?_; rintro e wz104 ⟨v104, rfl, hr, hb, hk⟩; have Bg3_104 := Aside0.mk ((hk.2 g3 (.inl rfl)).trans Bg3_103.out); clear Bg3_103; have Bg4_104 := Aside0.mk ((hk.2 g4 (.inr (.inl rfl))).trans Bg4_103.out); clear Bg4_103; have HR_104 := Aside0.mk hr; have HB_104 := Aside0.mk hb; clear hr hb hk HR_103 HB_103))
  go_upto_region 6 with (first | ((with_reducible refine gate_dst (N := 31) rfl ?_); refine load1_event rfl _ _ rfl g4 4 rfl _ _ _ _ Bg4_104.out rfl Try.underlying22 rfl ?_) | (go_at_call 38; refine (rput_any v104 dl 8 (by decide) ((((([] : List Int) ++ digits np 2) ++ digits sh 8) ++ digits sl 8) ++ digits dh 8) (by simp [digits_len]) w _ HB_104.out (Nof g3 g4 g3 g3) (nof_lt (blk_lt Bg3_104.out) (blk_lt Bg4_104.out) (blk_lt Bg3_104.out) (blk_lt Bg3_104.out)) HR_104.out).mono ?_; rintro e wz105 ⟨v105, rfl, hr, hb, hk⟩; have Bg3_105 := Aside0.mk ((hk.2 g3 (.inl rfl)).trans Bg3_104.out); clear Bg3_104; have Bg4_105 := Aside0.mk ((hk.2 g4 (.inr (.inl rfl))).trans Bg4_104.out); clear Bg4_104; have HR_105 := Aside0.mk hr; have HB_105 := Aside0.mk hb; clear hr hb hk HR_104 HB_104))
  go_upto_region 7 with (first | ((with_reducible refine gate_dst (N := 35) rfl ?_); refine load1_event rfl _ _ rfl g4 5 rfl _ _ _ _ Bg4_105.out rfl Try.underlying3 rfl ?_) | (go_at_call 38; refine (rput_any v105 ns 2 (by decide) (((((([] : List Int) ++ digits np 2) ++ digits sh 8) ++ digits sl 8) ++ digits dh 8) ++ digits dl 8) (by simp [digits_len]) w _ HB_105.out (Nof g3 g4 g3 g3) (nof_lt (blk_lt Bg3_105.out) (blk_lt Bg4_105.out) (blk_lt Bg3_105.out) (blk_lt Bg3_105.out)) HR_105.out).mono ?_; rintro e wz106 ⟨v106, rfl, hr, hb, hk⟩; have Bg3_106 := Aside0.mk ((hk.2 g3 (.inl rfl)).trans Bg3_105.out); clear Bg3_105; have Bg4_106 := Aside0.mk ((hk.2 g4 (.inr (.inl rfl))).trans Bg4_105.out); clear Bg4_105; have HR_106 := Aside0.mk hr; have HB_106 := Aside0.mk hb; clear hr hb hk HR_105 HB_105))
  go_upto_region 8 with (first | ((with_reducible refine gate_dst (N := 40) rfl ?_); refine load1_event rfl _ _ rfl g4 6 rfl _ _ _ _ Bg4_106.out rfl Try.underlying3 rfl ?_) | (go_at_call 38; refine (rput_any v106 nd 2 (by decide) ((((((([] : List Int) ++ digits np 2) ++ digits sh 8) ++ digits sl 8) ++ digits dh 8) ++ digits dl 8) ++ digits ns 2) (by simp [digits_len]) w _ HB_106.out (Nof g3 g4 g3 g3) (nof_lt (blk_lt Bg3_106.out) (blk_lt Bg4_106.out) (blk_lt Bg3_106.out) (blk_lt Bg3_106.out)) HR_106.out).mono ?_; rintro e wz107 ⟨v107, rfl, hr, hb, hk⟩; have Bg3_107 := Aside0.mk ((hk.2 g3 (.inl rfl)).trans Bg3_106.out); clear Bg3_106; have Bg4_107 := Aside0.mk ((hk.2 g4 (.inr (.inl rfl))).trans Bg4_106.out); clear Bg4_106; have HR_107 := Aside0.mk hr; have HB_107 := Aside0.mk hb; clear hr hb hk HR_106 HB_106))
  refine wp_region_rgw 8 (by kernel_rfl) (RcSt w (Nof g3 g4 g3 g3)) (RcV w (Nof g3 g4 g3 g3) v107 (((((((([] : List Int) ++ digits np 2) ++ digits sh 8) ++ digits sl 8) ++ digits dh 8) ++ digits dl 8) ++ digits ns 2) ++ digits nd 2) ((((((((([] : List Int) ++ digits np 2) ++ digits sh 8) ++ digits sl 8) ++ digits dh 8) ++ digits dl 8) ++ digits ns 2) ++ digits nd 2) ++ digits nw 8)) (fun (i : Nat) (v : Value) (w1 : World) => match i with | 0 => v = (.agg #[.int .u64 sa, .int .u64 sb]) | 1 => v = (v107) | 2 => v = (.int .i64 wn) | 3 => v = (.int .u64 nw) | 4 => True | 5 => v = (.int .u64 (hsh sa sb ((((((((([] : List Int) ++ digits np 2) ++ digits sh 8) ++ digits sl 8) ++ digits dh 8) ++ digits dl 8) ++ digits ns 2) ++ digits nd 2) ++ digits nw 8))) | 6 => v = (.int .u32 (hsh sa sb ((((((((([] : List Int) ++ digits np 2) ++ digits sh 8) ++ digits sl 8) ++ digits dh 8) ++ digits dl 8) ++ digits ns 2) ++ digits nd 2) ++ digits nw 8) % 4294967296)) | 7 => v = (.int .u32 (hsh sa sb ((((((((([] : List Int) ++ digits np 2) ++ digits sh 8) ++ digits sl 8) ++ digits dh 8) ++ digits dl 8) ++ digits ns 2) ++ digits nd 2) ++ digits nw 8) % 4294967296)) | _ => True) (by kernel_rfl) (by kernel_rfl) (by kernel_rfl) (by kernel_rfl) rcst_trans (rcst_drew _) ((rc_start (Kd.R_drew HR_107.out))) ?hJst1 ?hObl1 ?hEnd1
  case hJst1 =>
    intro i v wx wy hi hs0 hs1 hJi
    match i, hi with
    | 0, _ => exact hJi
    | 1, _ => exact hJi
    | 2, _ => exact hJi
    | 3, _ => exact hJi
    | 4, _ => replace hJi : (fun (v : Value) (w1 : World) => True) v wx := hJi; exact trivial
    | 5, _ => exact hJi
    | 6, _ => exact hJi
    | 7, _ => exact hJi
    | _ + 8, hi => exact absurd hi (by simp)
  case hObl1 =>
    refine ⟨?_, ?_, ?_, ?_, ?_, ?_, ?_, ?_,  trivial⟩
    · intro listed vals a wq K hD hst hv hcl hj haft hun hK
      have hKv := fun v h => hK v wq (rcst_refl _ _ _) (rc_other (by decide) hv) h
      have h3 := hD.out 3 rfl rfl
      replace hst : RcSt w (Nof g3 g4 g3 g3) wz107 wq := hst
      clear hD hj haft
      have e3 := eval_of h3
      exact step_now (v := .agg #[.int .u64 sa, .int .u64 sb]) (w' := wq) (wanted_free rfl) (rg_loadall rfl e3 ((hst.1.2 g3 (.inl rfl)).trans Bg3_107.out) Try.underlying30 rfl (by kernel_rfl)) (hKv _ rfl)
    · intro listed vals a wq K hD hst hv hcl hj haft hun hK
      have hKv := fun v h => hK v wq (rcst_refl _ _ _) (rc_other (by decide) hv) h
      have h7 := hD.out 7 rfl rfl
      clear hD hj haft
      have e7 := eval_of h7
      refine step_now (v := v107) (w' := wq) (wanted_free rfl) ?_ (hKv _ rfl)
      clear hK hKv hv hcl hun
      first | (go_simp; done) | (go_simp; rfl)
    · intro listed vals a wq K hD hst hv hcl hj haft hun hK
      have hKv := fun v h => hK v wq (rcst_refl _ _ _) (rc_other (by decide) hv) h
      have h2 := hD.out 2 rfl rfl
      clear hD hj haft
      have e2 := eval_of h2
      refine step_now (v := .int .i64 wn) (w' := wq) (wanted_free rfl) ?_ (hKv _ rfl)
      clear hK hKv hv hcl hun
      first | (go_simp; done) | (go_simp; rfl) | (go_simp; (try simp only [IntKind.wrap_u32]); omega)
    · intro listed vals a wq K hD hst hv hcl hj haft hun hK
      have hKv := fun v h => hK v wq (rcst_refl _ _ _) (rc_other (by decide) hv) h
      obtain ⟨v45, h45, j45⟩ := hD.dep hj haft 2 45 rfl rfl
      replace j45 : v45 = (.int .i64 wn) := j45
      subst j45
      clear hD hj haft
      have e45 := eval_of h45
      refine step_now (v := .int .u64 nw) (w' := wq) (wanted_free rfl) ?_ (hKv _ rfl)
      clear hK hKv hv hcl hun
      first | (go_simp; done) | (go_simp; rfl) | (go_simp; (try simp only [IntKind.wrap_u32]); omega)
    · intro listed vals a wq K hD hst hv hcl hj haft hun hK
      obtain ⟨v44, h44, j44⟩ := hD.dep hj haft 1 44 rfl rfl
      replace j44 : v44 = (v107) := j44
      subst j44
      obtain ⟨v46, h46, j46⟩ := hD.dep hj haft 3 46 rfl rfl
      replace j46 : v46 = (.int .u64 nw) := j46
      subst j46
      replace hst : RcSt w (Nof g3 g4 g3 g3) wz107 wq := hst
      clear hD hj haft
      have e44 := eval_of h44
      have e46 := eval_of h46
      have hv7 := rc_pre hv (un_of hun)
      refine step_call (f := 38) (args := #[v44, .int .u64 nw, .int .i64 8]) (wanted_free rfl) ?_ (rput_any v44 nw 8 (by decide) (((((((([] : List Int) ++ digits np 2) ++ digits sh 8) ++ digits sl 8) ++ digits dh 8) ++ digits dl 8) ++ digits ns 2) ++ digits nd 2) (by simp [digits_len]) w wq (hst.2 HB_107.out) (Nof g3 g4 g3 g3) (fun k hk => Nat.lt_of_lt_of_le ((nof_lt (blk_lt Bg3_107.out) (blk_lt Bg4_107.out) (blk_lt Bg3_107.out) (blk_lt Bg3_107.out)) k hk) hst.1.1) hv7) ?_
      · clear hK; first | (go_simp; done) | (go_simp; rfl)
      · rintro e w' ⟨v', rfl, hr, hb, hk⟩; exact ⟨_, rfl, hK _ _ ⟨hk, fun _ => hb⟩ (rc_made hr) trivial⟩
    · intro listed vals a wq K hD hst hv hcl hj haft hun hK
      have hKv := fun v h => hK v wq (rcst_refl _ _ _) (rc_other (by decide) hv) h
      obtain ⟨v43, h43, j43⟩ := hD.dep hj haft 0 43 rfl rfl
      replace j43 : v43 = (.agg #[.int .u64 sa, .int .u64 sb]) := j43
      subst j43
      obtain ⟨v47, h47, j47⟩ := hD.dep hj haft 4 47 rfl rfl
      replace j47 : (fun (v : Value) (w1 : World) => True) v47 wq := j47
      simp only at j47
      have hq47 := done_val hD haft 4 47 rfl rfl
      replace hst : RcSt w (Nof g3 g4 g3 g3) wz107 wq := hst
      clear hD hj haft
      have e43 := eval_of h43
      have e47 := eval_of h47
      have hv8 := rc_done hv hq47.1
      obtain ⟨A9, c9, hv9, hc9, hr9⟩ := Kd.R_reads hv8
      have h47' := (Option.some.inj (h47.symm.trans hq47.2)).trans hv9
      subst h47'
      refine step_call (f := 12) (args := #[.agg #[.int .u64 sa, .int .u64 sb], .slice A9 ((((((((([] : List Int) ++ digits np 2) ++ digits sh 8) ++ digits sl 8) ++ digits dh 8) ++ digits dl 8) ++ digits ns 2) ++ digits nd 2) ++ digits nw 8).length c9]) (wanted_free rfl) ?_ (rhash_any sa sb A9 c9 ((((((((([] : List Int) ++ digits np 2) ++ digits sh 8) ++ digits sl 8) ++ digits dh 8) ++ digits dl 8) ++ digits ns 2) ++ digits nd 2) ++ digits nw 8) wq (reads_of hr9) hc9 (by simp [digits_len])) ?_
      · clear hK hKv hv hcl hun; first | (go_simp; done) | (go_simp; rfl)
      · rintro e w' ⟨rfl, hbq⟩; exact ⟨_, rfl, hK _ _ ⟨kq_below (fun k hk => Nat.lt_of_lt_of_le ((nof_lt (blk_lt Bg3_107.out) (blk_lt Bg4_107.out) (blk_lt Bg3_107.out) (blk_lt Bg3_107.out)) k hk) hst.1.1) hbq, fun h => below_step h hbq⟩ (rc_below (by decide) hv hbq) rfl⟩
    · intro listed vals a wq K hD hst hv hcl hj haft hun hK
      have hKv := fun v h => hK v wq (rcst_refl _ _ _) (rc_other (by decide) hv) h
      obtain ⟨v48, h48, j48⟩ := hD.dep hj haft 5 48 rfl rfl
      replace j48 : v48 = (.int .u64 (hsh sa sb ((((((((([] : List Int) ++ digits np 2) ++ digits sh 8) ++ digits sl 8) ++ digits dh 8) ++ digits dl 8) ++ digits ns 2) ++ digits nd 2) ++ digits nw 8))) := j48
      subst j48
      clear hD hj haft
      have e48 := eval_of h48
      refine step_now (v := .int .u32 (hsh sa sb ((((((((([] : List Int) ++ digits np 2) ++ digits sh 8) ++ digits sl 8) ++ digits dh 8) ++ digits dl 8) ++ digits ns 2) ++ digits nd 2) ++ digits nw 8) % 4294967296)) (w' := wq) (wanted_free rfl) ?_ (hKv _ rfl)
      clear hK hKv hv hcl hun
      first | (go_simp; done) | (go_simp; rfl) | (go_simp; (try simp only [IntKind.wrap_u32]); omega)
    · intro listed vals a wq K hD hst hv hcl hj haft hun hK
      have hKv := fun v h => hK v wq (rcst_refl _ _ _) (rc_other (by decide) hv) h
      obtain ⟨v49, h49, j49⟩ := hD.dep hj haft 6 49 rfl rfl
      replace j49 : v49 = (.int .u32 (hsh sa sb ((((((((([] : List Int) ++ digits np 2) ++ digits sh 8) ++ digits sl 8) ++ digits dh 8) ++ digits dl 8) ++ digits ns 2) ++ digits nd 2) ++ digits nw 8) % 4294967296)) := j49
      subst j49
      clear hD hj haft
      have e49 := eval_of h49
      refine step_now (v := .int .u32 (hsh sa sb ((((((((([] : List Int) ++ digits np 2) ++ digits sh 8) ++ digits sl 8) ++ digits dh 8) ++ digits dl 8) ++ digits ns 2) ++ digits nd 2) ++ digits nw 8) % 4294967296)) (w' := wq) (wanted_free rfl) ?_ (hKv _ rfl)
      clear hK hKv hv hcl hun
      first | (go_simp; done) | (go_simp; rfl) | (go_simp; (try simp only [IntKind.wrap_u32]); omega)
  intro vals wend dn hst hdn hv hj
  have j0 : vals 0 = (.agg #[.int .u64 sa, .int .u64 sb]) := hj 0 (by decide)
  have j1 : vals 1 = (v107) := hj 1 (by decide)
  have j2 : vals 2 = (.int .i64 wn) := hj 2 (by decide)
  have j3 : vals 3 = (.int .u64 nw) := hj 3 (by decide)
  have j4 : (fun (v : Value) (w1 : World) => True) (vals 4) wend := hj 4 (by decide)
  have j5 : vals 5 = (.int .u64 (hsh sa sb ((((((((([] : List Int) ++ digits np 2) ++ digits sh 8) ++ digits sl 8) ++ digits dh 8) ++ digits dl 8) ++ digits ns 2) ++ digits nd 2) ++ digits nw 8))) := hj 5 (by decide)
  have j6 : vals 6 = (.int .u32 (hsh sa sb ((((((((([] : List Int) ++ digits np 2) ++ digits sh 8) ++ digits sl 8) ++ digits dh 8) ++ digits dl 8) ++ digits ns 2) ++ digits nd 2) ++ digits nw 8) % 4294967296)) := hj 6 (by decide)
  have j7 : vals 7 = (.int .u32 (hsh sa sb ((((((((([] : List Int) ++ digits np 2) ++ digits sh 8) ++ digits sl 8) ++ digits dh 8) ++ digits dl 8) ++ digits ns 2) ++ digits nd 2) ++ digits nw 8) % 4294967296)) := hj 7 (by decide)
  replace hst : RcSt w (Nof g3 g4 g3 g3) wz107 wend := hst
  clear hj hv hdn
  simp only [List.take_succ_cons, List.take_zero, List.drop_succ_cons, List.drop_zero, putL, Act.put, List.setIfInBounds_toArray, List.set_cons_zero, List.set_cons_succ, j0, j1, j2, j3, j5, j6, j7]
  clear j0 j1 j2 j3 j5 j6 j7
  clear j4
  have HBF := Aside0.mk (hst.2 HB_107.out)
  have HKB : Aside0 (((((((((([] : List Int) ++ digits np 2) ++ digits sh 8) ++ digits sl 8) ++ digits dh 8) ++ digits dl 8) ++ digits ns 2) ++ digits nd 2) ++ digits nw 8) = CookCookie.keyBytes p sh sl dh dl sp dp wn) := ⟨by unfold CookCookie.keyBytes; rw [hnp, hns, hnd, hnw]⟩
  clear hst
  go_wp2
  go_ret
  exact ⟨by unfold ck; rw [← HKB.out]; rfl, HBF.out⟩
end Go.Proofs.Ytainkpgplmkiaaa.RefCook
