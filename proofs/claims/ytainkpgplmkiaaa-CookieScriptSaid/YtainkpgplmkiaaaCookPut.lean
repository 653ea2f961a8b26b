/- cookie's Cookie$1 (put): lays the lowest bytes of a number down, the highest one first: its contract. No condition. -/
import Derived.Test.YtainkpgplmkiaaaCook
import Derived.Test.YtainkpgplmkiaaaWGuard
import Derived.Test.YtainkpgplmkiaaaRgw
import Derived.Test.YtainkpgplmkiaaaDone
import Derived.Test.YtainkpgplmkiaaaWMore
namespace Go.Proofs.Ytainkpgplmkiaaa.CookPut
open Go Go.RowKit Go.Proofs.YtainkpgplmkiaaaW.PrintWords Go.Proofs.YtainkpgplmkiaaaW.PrintLast Go.Proofs.YtainkpgplmkiaaaW.PrintMore Go.Proofs.Ytainkpgplmkiaaa.MWorld Go.Proofs.Ytainkpgplmkiaaa.Ev Go.Proofs.Ytainkpgplmkiaaa.Rg Go.Proofs.Ytainkpgplmkiaaa.Rgw Go.Proofs.Ytainkpgplmkiaaa.Done Go.Proofs.Ytainkpgplmkiaaa.Cook
set_option linter.unusedVariables false
set_option linter.unusedSimpArgs false
/-- A region in which operation 6 makes a block and operation 7 appends it. -/
def AvV (w0 wd : World) (ob : Obj) (N : Nat → Prop) (ys : List Int) (d : Nat → Bool) (vals : Nat → Value) (w : World) : Prop :=
  if d 7 = true then (Kd.R (Kd.int .u8) 5 w w0.heap.size (fun k => ¬ N k) (vals 7) ys ∧ Below w0.heap.size w0 w ∧ wd.heap.size ≤ w.heap.size ∧ ∀ k, N k → w.heap[k]? = wd.heap[k]?)
  else w = if d 6 = true then wd.alloc ob else wd
section
variable {w0 wd w : World} {ob : Obj} {N : Nat → Prop} {g : Nat} {ys : List Int} {d : Nat → Bool} {vals : Nat → Value}
theorem av_other {i : Nat} {v : Value} (h6 : 6 ≠ i) (h7 : 7 ≠ i) (h : AvV w0 wd ob N ys d vals w) : AvV w0 wd ob N ys (fun j => if j = i then true else d j) (fun j => if j = i then v else vals j) w := by
  unfold AvV at h ⊢
  simp only [if_neg h6, if_neg h7]
  exact h
theorem av_start : AvV w0 w ob N ys (fun _ => false) vals w := rfl
theorem av_pre (h : AvV w0 wd ob N ys d vals w) (h7 : d 7 = false) : w = if d 6 = true then wd.alloc ob else wd := by
  unfold AvV at h; rw [if_neg (by rw [h7]; decide)] at h; exact h
theorem av_base (h : AvV w0 wd ob N ys d vals w) (h7 : d 7 = false) (h6 : d 6 = false) : w = wd := by
  have := av_pre h h7; rw [h6] at this; exact this
theorem av_alloc (h : AvV w0 wd ob N ys d vals w) (h7 : d 7 = false) (h6 : d 6 = true) : w = wd.alloc ob := by
  have := av_pre h h7; rw [h6] at this; exact this
theorem av_made {v : Value} (h7 : d 7 = false) : AvV w0 wd ob N ys (fun j => if j = 6 then true else d j) (fun j => if j = 6 then v else vals j) (wd.alloc ob) := by
  unfold AvV
  simp [h7]
theorem av_app {v : Value} (hR : Kd.R (Kd.int .u8) 5 w w0.heap.size (fun k => ¬ N k) v ys) (hB : Below w0.heap.size w0 w) (hs : wd.heap.size ≤ w.heap.size) (hc : ∀ k, N k → w.heap[k]? = wd.heap[k]?) : AvV w0 wd ob N ys (fun j => if j = 7 then true else d j) (fun j => if j = 7 then v else vals j) w := by
  unfold AvV
  simp only [if_true]
  exact ⟨hR, hB, hs, hc⟩
theorem av_end (h : AvV w0 wd ob N ys d vals w) (h7 : d 7 = true) : Kd.R (Kd.int .u8) 5 w w0.heap.size (fun k => ¬ N k) (vals 7) ys ∧ Below w0.heap.size w0 w ∧ wd.heap.size ≤ w.heap.size ∧ ∀ k, N k → w.heap[k]? = wd.heap[k]? := by
  unfold AvV at h; rw [if_pos h7] at h; exact h
theorem av_cell {o : Obj} (h : AvV w0 wd ob N ys d vals w) (h7 : d 7 = false) (hc : wd.heap[g]? = some o) : w.heap[g]? = some o := by
  have h1 := av_pre h h7
  split at h1
  · subst h1; exact blk_below hc ((Below.refl _ _).alloc (Nat.le_refl _) _)
  · subst h1; exact hc
end
theorem inf5 : (Try.prog.info? 5).map (fun i => (i.zero, i.size, i.bytes)) = some (some (.int .u8 0), 1, 1) := by kernel_rfl
/-- the bytes of n, many of them, the highest one first -/
def digits (n : Int) : Nat → List Int
  | 0 => []
  | m + 1 => (n / 2 ^ (8 * m)) % 256 :: digits n m
theorem digits_len (n : Int) : ∀ m, (digits n m).length = m
  | 0 => rfl
  | m + 1 => by rw [digits, List.length_cons, digits_len n m]
def Kp (g : Nat) (N : Nat → Prop) (w w' : World) : Prop := w.heap.size ≤ w'.heap.size ∧ ∀ k, N k → k ≠ g → w'.heap[k]? = w.heap[k]?
/-- What put leaves: the variable that it captured holds a row of the call's own. -/
def PutPost (g : Nat) (N : Nat → Prop) (ys : List Int) (w0 w w' : World) : Prop := ∃ v' : Value, w'.heap[g]? = some (.cells #[v'] 25 (0, 0)) ∧ Kd.R (Kd.int .u8) 5 w' w0.heap.size (fun k => ¬ N k) v' ys ∧ Below w0.heap.size w0 w' ∧ Kp g N w w'
theorem grown_blk {g : Nat} {W w1 : World} {row : Option Nat} {o : Obj} (hg : W.grownBy w1 row) (hc : W.heap[g]? = some o) (hne : ¬ row = some g) : w1.heap[g]? = some o := by
  rw [← hc]
  exact hg.block g (blk_lt hc) (fun h => hne h.symm)
set_option maxRecDepth 100000 in
set_option maxHeartbeats 8000000 in
theorem put_any (g : Nat) (n : Int) (many : Nat) (hm : many ≤ 8) (xs0 : List Int) (hx : xs0.length < 1000) (v0 : Value) (w0 w : World) (hB : Below w0.heap.size w0 w) (hg0 : w0.heap.size ≤ g) (hc : w.heap[g]? = some (.cells #[v0] 25 (0, 0))) (N : Nat → Prop) (hgN : N g) (hN : ∀ k, N k → k < w.heap.size) (hR : Kd.R (Kd.int .u8) 5 w w0.heap.size (fun k => ¬ N k) v0 xs0) :
    Calls Try.prog 37 #[.int .u64 n, .int .i64 (many : Int), .pointer (some ⟨g, 0, none⟩)] w fun e w' => e = .returned (.tuple #[]) ∧ PutPost g N (xs0 ++ digits n many) w0 w w' := by
  have HGN := Aside0.mk hgN
  have HNN := Aside0.mk hN
  have HC := Aside0.mk hc
  have HK0 : Aside0 (Kp g N w w) := ⟨Nat.le_refl _, fun _ _ _ => rfl⟩
  have HRo := Aside0.mk hR
  have HBo := Aside0.mk hB
  have HG0 := Aside0.mk hg0
  have HXL := Aside0.mk hx
  have HM := Aside0.mk hm
  have hi0 : IntKind.i64.wrap ((many : Int) - 1) = (many : Int) - 1 := by rw [IntKind.wrap_i64]; omega
  have HI0 : Aside0 (-1 ≤ (many : Int) - 1 ∧ (many : Int) - 1 < 8 ∧ xs0 ++ digits n (((many : Int) - 1) + 1).toNat = xs0 ++ digits n many) := ⟨by omega, by omega, by rw [show (((many : Int) - 1) + 1).toNat = many by omega]⟩
  clear hc hR hB hg0 hx hm hgN hN
  go_enter Try.func37, Try.ntmps37
  go_upto_region 1 with fail
  go_loopw [1] (fun v wr => ∃ (ii : Int) (xs : List Int) (v' : Value), v = .int .i64 ii ∧ Aside0 (-1 ≤ ii ∧ ii < 8 ∧ xs ++ digits n (ii + 1).toNat = xs0 ++ digits n many) ∧ Aside0 (wr.heap[g]? = some (.cells #[v'] 25 (0, 0))) ∧ Aside0 (Kd.R (Kd.int .u8) 5 wr w0.heap.size (fun k => ¬ N k) v' xs) ∧ Aside0 (Kp g N w wr) ∧ Aside0 (Below w0.heap.size w0 wr)) (fun v _ => (intOf v + 1).toNat)
  case atStart => exact ⟨_, xs0, v0, rfl, HI0, HC, HRo, HK0, HBo⟩
  case round =>
    clear HI0 HC HRo HK0 HBo hi0
    obtain ⟨ii, xs, v', rfl, HI, HC, HR, HKE, HB⟩ := hrel
    by_cases hi : 0 ≤ ii
    case neg =>
      have hid : decide (0 ≤ ii) = false := decide_eq_false hi
      have hfin : xs = xs0 ++ digits n many := by
        have := HI.out
        rw [show (ii + 1).toNat = 0 by omega] at this
        simpa [digits] using this.2.2
      have HF := Aside0.mk hfin
      clear hi hfin
      go_wp2
      go_end0
      exact ⟨rfl, v', HC.out, by rw [← HF.out]; exact HR.out, HB.out, HKE.out⟩
    have hid : decide (0 ≤ ii) = true := decide_eq_true hi
    obtain ⟨s8, hs8⟩ : ∃ s : Int, IntKind.i64.wrap (8 * ii) = s := ⟨_, rfl⟩
    have hs8' : s8 = 8 * ii := by have := HI.out; rw [← hs8, IntKind.wrap_i64]; omega
    have hsT : (0 ≤ s8) = True := eq_true (by omega)
    have hsD : decide (0 ≤ s8) = true := decide_eq_true (by omega)
    obtain ⟨q, hq⟩ : ∃ q : Int, n / 2 ^ min s8.toNat 64 = q := ⟨_, rfl⟩
    have hqz : s8 ≤ 64 → n / 2 ^ s8.toNat = q := fun h => by rw [← hq, show min s8.toNat 64 = s8.toNat by omega]
    have hi1 : IntKind.i64.wrap (ii - 1) = ii - 1 := by have := HI.out; rw [IntKind.wrap_i64]; omega
    have HQ : Aside0 (q = n / 2 ^ (8 * ii.toNat)) := ⟨by rw [← hq, show min s8.toNat 64 = 8 * ii.toNat by have := HI.out; omega]⟩
    have HI1 := Aside0.mk hi
    have HXX : Aside0 (xs.length < 2000) := ⟨by
      have h1 := congrArg List.length HI.out.2.2
      rw [List.length_append, List.length_append] at h1
      have h2 := digits_len n many
      have h3 := HXL.out
      have h4 := HM.out
      omega⟩
    clear hi hs8'
    go_upto_region 3 with fail
    have HCD : Aside0 (wr.drew.heap[g]? = some (.cells #[v'] 25 (0, 0))) := ⟨HC.out⟩
    have HRD : Aside0 (Kd.R (Kd.int .u8) 5 wr.drew w0.heap.size (fun k => ¬ N k) v' xs) := ⟨Kd.R_drew HR.out⟩
    have HBD : Aside0 (Below w0.heap.size w0 wr.drew) := ⟨below_drew HB.out⟩
    clear HC HR HB
    refine wp_region_rgw 8 (by kernel_rfl) (fun _ _ => True) (AvV w0 wr.drew (.cells #[.int .u8 (q % 256)] 5 (0, 0)) N (xs ++ [q % 256])) (fun (i : Nat) (v : Value) (w1 : World) => match i with | 0 => v = (v') | 1 => v = (.int .u64 n) | 2 => v = (.int .i64 ii) | 3 => v = (.int .i64 s8) | 4 => v = (.int .u64 q) | 5 => v = (.int .u8 (q % 256)) | 6 => v = (.slice (some ⟨wr.drew.heap.size, 0, none⟩) 1 1) | 7 => True | _ => True) (by kernel_rfl) (by kernel_rfl) (by kernel_rfl) (by kernel_rfl) (fun _ _ _ _ _ => trivial) trivial (av_start) ?hJst1 ?hObl1 ?hEnd1
    case hJst1 =>
      intro i v wx wy hi hs0 hs1 hJi
      match i, hi with
      | 0, _ => exact hJi
      | 1, _ => exact hJi
      | 2, _ => exact hJi
      | 3, _ => exact hJi
      | 4, _ => exact hJi
      | 5, _ => exact hJi
      | 6, _ => replace hJi : (fun (v : Value) (w1 : World) => v = (.slice (some ⟨wr.drew.heap.size, 0, none⟩) 1 1)) v wx := hJi; exact hJi
      | 7, _ => replace hJi : (fun (v : Value) (w1 : World) => True) v wx := hJi; exact trivial
      | _ + 8, hi => exact absurd hi (by simp)
    case hObl1 =>
      refine ⟨?_, ?_, ?_, ?_, ?_, ?_, ?_, ?_,  trivial⟩
      · intro listed vals a wq K hD hst hv hcl hj haft hun hK
        have hKv := fun v h => hK v wq trivial (av_other (by decide) (by decide) hv) h
        have h2 := hD.out 2 rfl rfl
        clear hD hj haft
        have e2 := eval_of h2
        exact step_now (v := v') (w' := wq) (wanted_free rfl) (rg_load rfl e2 (av_cell hv (not_yet (i := 0) (j := 7) hcl (by kernel_rfl) (by kernel_rfl) hun) HCD.out) rfl Try.underlying25 rfl) (hKv _ rfl)
      · intro listed vals a wq K hD hst hv hcl hj haft hun hK
        have hKv := fun v h => hK v wq trivial (av_other (by decide) (by decide) hv) h
        have h0 := hD.out 0 rfl rfl
        clear hD hj haft
        have e0 := eval_of h0
        refine step_now (v := .int .u64 n) (w' := wq) (wanted_free rfl) ?_ (hKv _ rfl)
        clear hK hKv hv hcl hun
        first | (go_simp; done) | (go_simp; rfl) | (go_simp; (try simp only [IntKind.wrap_u32]); omega)
      · intro listed vals a wq K hD hst hv hcl hj haft hun hK
        have hKv := fun v h => hK v wq trivial (av_other (by decide) (by decide) hv) h
        have h1 := hD.out 1 rfl rfl
        clear hD hj haft
        have e1 := eval_of h1
        refine step_now (v := .int .i64 ii) (w' := wq) (wanted_free rfl) ?_ (hKv _ rfl)
        clear hK hKv hv hcl hun
        first | (go_simp; done) | (go_simp; rfl) | (go_simp; (try simp only [IntKind.wrap_u32]); omega)
      · intro listed vals a wq K hD hst hv hcl hj haft hun hK
        have hKv := fun v h => hK v wq trivial (av_other (by decide) (by decide) hv) h
        obtain ⟨v13, h13, j13⟩ := hD.dep hj haft 2 13 rfl rfl
        replace j13 : v13 = (.int .i64 ii) := j13
        subst j13
        clear hD hj haft
        have e13 := eval_of h13
        refine step_now (v := .int .i64 s8) (w' := wq) (wanted_free rfl) ?_ (hKv _ rfl)
        clear hK hKv hv hcl hun
        first | (go_simp; done) | (go_simp; rfl) | (go_simp; (try simp only [IntKind.wrap_u32]); omega)
      · intro listed vals a wq K hD hst hv hcl hj haft hun hK
        have hKv := fun v h => hK v wq trivial (av_other (by decide) (by decide) hv) h
        obtain ⟨v12, h12, j12⟩ := hD.dep hj haft 1 12 rfl rfl
        replace j12 : v12 = (.int .u64 n) := j12
        subst j12
        obtain ⟨v14, h14, j14⟩ := hD.dep hj haft 3 14 rfl rfl
        replace j14 : v14 = (.int .i64 s8) := j14
        subst j14
        clear hD hj haft
        have e12 := eval_of h12
        have e14 := eval_of h14
        refine step_now (v := .int .u64 q) (w' := wq) (wanted_free rfl) ?_ (hKv _ rfl)
        clear hK hKv hv hcl hun
        first | (go_simp; done) | (go_simp; rfl) | (go_simp; (try simp only [IntKind.wrap_u32]); omega)
      · intro listed vals a wq K hD hst hv hcl hj haft hun hK
        have hKv := fun v h => hK v wq trivial (av_other (by decide) (by decide) hv) h
        obtain ⟨v15, h15, j15⟩ := hD.dep hj haft 4 15 rfl rfl
        replace j15 : v15 = (.int .u64 q) := j15
        subst j15
        clear hD hj haft
        have e15 := eval_of h15
        refine step_now (v := .int .u8 (q % 256)) (w' := wq) (wanted_free rfl) ?_ (hKv _ rfl)
        clear hK hKv hv hcl hun
        first | (go_simp; done) | (go_simp; rfl) | (go_simp; (try simp only [IntKind.wrap_u32]); omega)
      · intro listed vals a wq K hD hst hv hcl hj haft hun hK
        obtain ⟨v16, h16, j16⟩ := hD.dep hj haft 5 16 rfl rfl
        replace j16 : v16 = (.int .u8 (q % 256)) := j16
        subst j16
        clear hD hj haft
        have e16 := eval_of h16
        have hf7 := not_yet (i := 6) (j := 7) hcl (by kernel_rfl) (by kernel_rfl) hun
        obtain rfl := av_base hv hf7 (un_of hun)
        refine step_now (v := .slice (some ⟨wr.drew.heap.size, 0, none⟩) 1 1) (w' := wr.drew.alloc (.cells #[.int .u8 (q % 256)] 5 (0, 0))) (wanted_free rfl) ?_ (hK _ _ trivial (av_made hf7) rfl)
        clear hK
        first | (go_simp; done) | (go_simp; rfl)
      · intro listed vals a wq K hD hst hv hcl hj haft hun hK
        obtain ⟨v11, h11, j11⟩ := hD.dep hj haft 0 11 rfl rfl
        replace j11 : v11 = (v') := j11
        subst j11
        obtain ⟨v17, h17, j17⟩ := hD.dep hj haft 6 17 rfl rfl
        replace j17 : (fun (v : Value) (w1 : World) => v = (.slice (some ⟨wr.drew.heap.size, 0, none⟩) 1 1)) v17 wq := j17
        simp only at j17
        have hq17 := done_val hD haft 6 17 rfl rfl
        subst j17
        clear hD hj haft
        have e11 := eval_of h11
        have e17 := eval_of h17
        obtain rfl := av_alloc hv (un_of hun) hq17.1
        unfold StepTo
        refine Kd.R_append_step (Kd.int .u8) (w0 := w0) w0.heap.size (wanted_free rfl) (.tmp 11) (.tmp 17) 25 5 (.int .u8 0) 1 rfl Try.underlying25 inf5 rfl (by decide) (by decide) v11 xs (q % 256) [.int .u8 (q % 256)] (fun k => ¬ N k) (fun _ => False) e11 e17 rfl (fun _ hk => hk.elim) (fun k hk h2 => absurd (Nat.lt_of_lt_of_le (HNN.out k h2) (Nat.le_trans HKE.out.1 hk)) (Nat.lt_irrefl _)) HRD.out HBD.out (below_size HBD.out) (by have := HXX.out; omega) ?_
        intro v1 w9 ho hb hg hat
        exact hK _ _ trivial (av_app ho hb hg.size (fun k hk => hg.block k (Nat.lt_of_lt_of_le (HNN.out k hk) HKE.out.1) (fun h => HRD.out.1 k h.symm hk))) trivial
    intro vals wend dn hst hdn hv hj
    have j0 : vals 0 = (v') := hj 0 (by decide)
    have j1 : vals 1 = (.int .u64 n) := hj 1 (by decide)
    have j2 : vals 2 = (.int .i64 ii) := hj 2 (by decide)
    have j3 : vals 3 = (.int .i64 s8) := hj 3 (by decide)
    have j4 : vals 4 = (.int .u64 q) := hj 4 (by decide)
    have j5 : vals 5 = (.int .u8 (q % 256)) := hj 5 (by decide)
    have j6 : (fun (v : Value) (w1 : World) => v = (.slice (some ⟨wr.drew.heap.size, 0, none⟩) 1 1)) (vals 6) wend := hj 6 (by decide)
    have j7 : (fun (v : Value) (w1 : World) => True) (vals 7) wend := hj 7 (by decide)
    replace hst : True := hst
    obtain ⟨hr9, hb9, hs9, hn9⟩ := av_end hv (hdn 7 (by decide))
    clear hj hv hdn
    simp only [List.take_succ_cons, List.take_zero, List.drop_succ_cons, List.drop_zero, putL, Act.put, List.setIfInBounds_toArray, List.set_cons_zero, List.set_cons_succ, j0, j1, j2, j3, j4, j5]
    clear j0 j1 j2 j3 j4 j5
    have hc9 : wend.heap[g]? = some (.cells #[v'] 25 (0, 0)) := (hn9 g HGN.out).trans HCD.out
    have hk9 : Kp g N w wend := ⟨Nat.le_trans HKE.out.1 hs9, fun k hk hne => (hn9 k hk).trans (HKE.out.2 k hk hne)⟩
    clear j6 j7 HCD HRD HBD HKE hn9 hs9
    generalize vals 7 = v1 at *
    obtain ⟨A1, c1, rfl⟩ := Kd.R_slice hr9
    generalize hln : (xs ++ [q % 256]).length = ln at *
    clear hln
    have HO := Aside0.mk hr9
    have HB9 := Aside0.mk hb9
    have HC9 := Aside0.mk hc9
    have HKE := Aside0.mk hk9
    clear hr9 hb9 hc9 hk9 hst
    go_wp2_with ((with_reducible refine gate_store (t := 25) (p := 2) rfl ?_); refine store1_event rfl _ _ _ rfl g 0 rfl (.slice A1 ln c1) _ ?hy _ _ #[.slice A1 ln c1] HC9.out rfl (by kernel_rfl) rfl rfl rfl ?_; (case hy => rfl); intro w10 hst hu; have HCA := Aside0.mk hst; have HBA := Aside0.mk (below_upd HB9.out hu (below_size HB9.out) (fun k hk => by cases hk; exact HG0.out)); have HOA := Aside0.mk (Kd.R_step HO.out (fun k hk hl => hu.block k hl (One.not (fun h => hk (by rw [h]; exact HGN.out))))); have HKA : Aside0 (Kp g N w w10) := ⟨Nat.le_trans HKE.out.1 hu.size, fun k hk hne => (hu.block k (Nat.lt_of_lt_of_le (HNN.out k hk) HKE.out.1) (One.not hne)).trans (HKE.out.2 k hk hne)⟩; clear hst hu)
    go_roundw
    case measure => have := HI1.out; simp [intOf]; omega
    case rel => exact ⟨ii - 1, xs ++ [q % 256], _, by go_num, ⟨by have := HI1.out; omega, by have := HI.out; omega, by rw [← HI.out.2.2, HQ.out, show (ii + 1).toNat = ii.toNat + 1 by have := HI1.out; omega, show (ii - 1 + 1).toNat = ii.toNat by omega, List.append_assoc]; rfl⟩, HCA, HOA, HKA, HBA⟩
end Go.Proofs.Ytainkpgplmkiaaa.CookPut
