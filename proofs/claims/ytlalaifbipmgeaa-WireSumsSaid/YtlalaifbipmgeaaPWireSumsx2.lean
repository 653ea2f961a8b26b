-- PRINTED BY print.sh 35421559b90ae4d0a3588c463048766b98c2df88dd9212a6774a882060cdf62d: not written by this session
import Derived.Test.YtlalaifbipmgeaaPWireSumsx0
import Derived.Test.YtlalaifbipmgeaaPWireSumsx1
namespace Go.Proofs.Ytlalaifbipmgeaa.PWireSums
open Go.RowKit Go.Proofs.YtlalaifbipmgeaaW.PrintWords Go.Proofs.YtlalaifbipmgeaaW.PrintLast Go.Proofs.YtlalaifbipmgeaaW.PrintMore
attribute [local go_sem] max2_int min2_int max_two min_two max_three min_three max_four min_four   -- for this text's walks alone
set_option linter.unusedVariables false
set_option linter.unusedSimpArgs false

/-! ### sallyportlaw04_WireSums: function 4 -/
mutual
def sallyportlaw04_WireSums.j0 : Nat → List Int → Int → Int → Bool → Option (Bool)
  | 0, _, _, _, _ => none
  | k + 1, x0, x1, x2, x16 => if x16 = true then (some true) else ((wire_Sum.f k x0).bind fun t117 => ((sallyportref04_Sum.f k x0).bind fun t118 => (if t117 = t118 then (if t117 < 0 then (sallyportlaw04_WireSums.j1 k x0 x1 x2 t117 true) else (sallyportlaw04_WireSums.j1 k x0 x1 x2 t117 (decide (t117 > 65535)))) else (sallyportlaw04_WireSums.j1 k x0 x1 x2 t117 true))))
def sallyportlaw04_WireSums.j1 : Nat → List Int → Int → Int → Int → Bool → Option (Bool)
  | 0, _, _, _, _, _ => none
  | k + 1, x0, x1, x2, x7, x30 => if x30 = true then (some false) else ((some (([] : List Int) : List Int)).bind fun y119 => (if y119.length + x0.length < 140737488355328 then ((some (y119 ++ x0 : List Int)).bind fun y122 => (if ((y122.length : Int) % 2) = 1 then (if y122.length < 140737488355328 then (sallyportlaw04_WireSums.j2 k x0 x1 x2 x7 (y122 ++ [0])) else (none)) else (sallyportlaw04_WireSums.j2 k x0 x1 x2 x7 y122))) else (none)))
def sallyportlaw04_WireSums.j2 : Nat → List Int → Int → Int → Int → List Int → Option (Bool)
  | 0, _, _, _, _, _ => none
  | k + 1, x0, x1, x2, x7, x8 => if (wrap64 ((x0.length : Int) / 2)) = 0 then (none) else (if 0 ≤ (wrap64 ((Int.tmod (wrap64 ((Int.tmod x1 (wrap64 ((x0.length : Int) / 2))) + (wrap64 ((x0.length : Int) / 2)))) (wrap64 ((x0.length : Int) / 2))) * 2)) then (if (wrap64 ((Int.tmod (wrap64 ((Int.tmod x1 (wrap64 ((x0.length : Int) / 2))) + (wrap64 ((x0.length : Int) / 2)))) (wrap64 ((x0.length : Int) / 2))) * 2)) < (x8.length : Int) then (if 0 ≤ (wrap64 ((Int.tmod (wrap64 ((Int.tmod x2 (wrap64 ((x0.length : Int) / 2))) + (wrap64 ((x0.length : Int) / 2)))) (wrap64 ((x0.length : Int) / 2))) * 2)) then (if (wrap64 ((Int.tmod (wrap64 ((Int.tmod x2 (wrap64 ((x0.length : Int) / 2))) + (wrap64 ((x0.length : Int) / 2)))) (wrap64 ((x0.length : Int) / 2))) * 2)) < (x8.length : Int) then ((some ((x8.set ((wrap64 ((Int.tmod (wrap64 ((Int.tmod x1 (wrap64 ((x0.length : Int) / 2))) + (wrap64 ((x0.length : Int) / 2)))) (wrap64 ((x0.length : Int) / 2))) * 2)) : Int).toNat (rd x8 (wrap64 ((Int.tmod (wrap64 ((Int.tmod x2 (wrap64 ((x0.length : Int) / 2))) + (wrap64 ((x0.length : Int) / 2)))) (wrap64 ((x0.length : Int) / 2))) * 2)))).set ((wrap64 ((Int.tmod (wrap64 ((Int.tmod x2 (wrap64 ((x0.length : Int) / 2))) + (wrap64 ((x0.length : Int) / 2)))) (wrap64 ((x0.length : Int) / 2))) * 2)) : Int).toNat (rd x8 (wrap64 ((Int.tmod (wrap64 ((Int.tmod x1 (wrap64 ((x0.length : Int) / 2))) + (wrap64 ((x0.length : Int) / 2)))) (wrap64 ((x0.length : Int) / 2))) * 2))) : List Int)).bind fun y131 => ((wire_Sum.f k y131).bind fun t132 => (if t132 = x7 then ((some (([(x7 / 256) % 256, (x7) % 256] : List Int) : List Int)).bind fun y133 => (if y131.length + y133.length < 140737488355328 then ((wire_Sum.f k (y131 ++ y133)).bind fun t139 => (some (t139 == 0))) else (none))) else (some false)))) else (none)) else (none)) else (none)) else (none))
end
def sallyportlaw04_WireSums.f (k : Nat) (l0 : List Int) (a1 : Int) (a2 : Int) : Option (Bool) := (sallyportlaw04_long.f l0).bind fun t116 => (if t116 = true then (sallyportlaw04_WireSums.j0 k l0 a1 a2 true) else (sallyportlaw04_WireSums.j0 k l0 a1 a2 (decide ((l0.length : Int) < 4))))
theorem sallyportlaw04_WireSums.mono_l : ∀ k, (∀ y0 y1 y2 y3, LeO (sallyportlaw04_WireSums.j0 k y0 y1 y2 y3) (sallyportlaw04_WireSums.j0 (k + 1) y0 y1 y2 y3)) ∧ (∀ y0 y1 y2 y3 y4, LeO (sallyportlaw04_WireSums.j1 k y0 y1 y2 y3 y4) (sallyportlaw04_WireSums.j1 (k + 1) y0 y1 y2 y3 y4)) ∧ (∀ y0 y1 y2 y3 y4, LeO (sallyportlaw04_WireSums.j2 k y0 y1 y2 y3 y4) (sallyportlaw04_WireSums.j2 (k + 1) y0 y1 y2 y3 y4))
  | 0 => ⟨fun _ _ _ _ r h => by simp [sallyportlaw04_WireSums.j0] at h, fun _ _ _ _ _ r h => by simp [sallyportlaw04_WireSums.j1] at h, fun _ _ _ _ _ r h => by simp [sallyportlaw04_WireSums.j2] at h⟩
  | k + 1 => by
    obtain ⟨ih0, ih1, ih2⟩ := sallyportlaw04_WireSums.mono_l k
    refine ⟨?_, ?_, ?_⟩
    · intro y0 y1 y2 y3
      unfold sallyportlaw04_WireSums.j0
      repeat' first
      | (with_reducible exact ih0 _ _ _ _)
      | (with_reducible exact ih1 _ _ _ _ _)
      | (with_reducible exact ih2 _ _ _ _ _)
      | (with_reducible exact sallyportref04_Sum.mono _ _)
      | (with_reducible exact wire_Sum.mono _ _)
      | (with_reducible exact LeO.refl _)
      | (with_reducible exact LeO.none _)
      | (with_reducible refine LeO.ite ?_ ?_)
      | (with_reducible refine LeO.bind ?_ (fun _ => ?_))
      | exact ih0 _ _ _ _
      | exact ih1 _ _ _ _ _
      | exact ih2 _ _ _ _ _
      | exact sallyportref04_Sum.mono _ _
      | exact wire_Sum.mono _ _
      | exact LeO.none _
      | refine LeO.ite ?_ ?_
      | refine LeO.bind ?_ (fun _ => ?_)
    · intro y0 y1 y2 y3 y4
      unfold sallyportlaw04_WireSums.j1
      repeat' first
      | (with_reducible exact ih0 _ _ _ _)
      | (with_reducible exact ih1 _ _ _ _ _)
      | (with_reducible exact ih2 _ _ _ _ _)
      | (with_reducible exact sallyportref04_Sum.mono _ _)
      | (with_reducible exact wire_Sum.mono _ _)
      | (with_reducible exact LeO.refl _)
      | (with_reducible exact LeO.none _)
      | (with_reducible refine LeO.ite ?_ ?_)
      | (with_reducible refine LeO.bind ?_ (fun _ => ?_))
      | exact ih0 _ _ _ _
      | exact ih1 _ _ _ _ _
      | exact ih2 _ _ _ _ _
      | exact sallyportref04_Sum.mono _ _
      | exact wire_Sum.mono _ _
      | exact LeO.none _
      | refine LeO.ite ?_ ?_
      | refine LeO.bind ?_ (fun _ => ?_)
    · intro y0 y1 y2 y3 y4
      unfold sallyportlaw04_WireSums.j2
      repeat' first
      | (with_reducible exact ih0 _ _ _ _)
      | (with_reducible exact ih1 _ _ _ _ _)
      | (with_reducible exact ih2 _ _ _ _ _)
      | (with_reducible exact sallyportref04_Sum.mono _ _)
      | (with_reducible exact wire_Sum.mono _ _)
      | (with_reducible exact LeO.refl _)
      | (with_reducible exact LeO.none _)
      | (with_reducible refine LeO.ite ?_ ?_)
      | (with_reducible refine LeO.bind ?_ (fun _ => ?_))
      | exact ih0 _ _ _ _
      | exact ih1 _ _ _ _ _
      | exact ih2 _ _ _ _ _
      | exact sallyportref04_Sum.mono _ _
      | exact wire_Sum.mono _ _
      | exact LeO.none _
      | refine LeO.ite ?_ ?_
      | refine LeO.bind ?_ (fun _ => ?_)
theorem sallyportlaw04_WireSums.mono : ∀ a0 a1 a2 k, LeO (sallyportlaw04_WireSums.f k a0 a1 a2) (sallyportlaw04_WireSums.f (k + 1) a0 a1 a2) := by
  intro a0 a1 a2 k
  obtain ⟨ih0, ih1, ih2⟩ := sallyportlaw04_WireSums.mono_l k
  unfold sallyportlaw04_WireSums.f
  repeat' first
      | (with_reducible exact ih0 _ _ _ _)
      | (with_reducible exact ih1 _ _ _ _ _)
      | (with_reducible exact ih2 _ _ _ _ _)
      | (with_reducible exact sallyportref04_Sum.mono _ _)
      | (with_reducible exact wire_Sum.mono _ _)
      | (with_reducible exact LeO.refl _)
      | (with_reducible exact LeO.none _)
      | (with_reducible refine LeO.ite ?_ ?_)
      | (with_reducible refine LeO.bind ?_ (fun _ => ?_))
      | exact ih0 _ _ _ _
      | exact ih1 _ _ _ _ _
      | exact ih2 _ _ _ _ _
      | exact sallyportref04_Sum.mono _ _
      | exact wire_Sum.mono _ _
      | exact LeO.none _
      | refine LeO.ite ?_ ?_
      | refine LeO.bind ?_ (fun _ => ?_)
set_option maxHeartbeats 8000000 in
set_option maxRecDepth 100000 in
theorem sallyportlaw04_WireSums.calls (k : Nat) (A0 : Option Addr) (c0 : Nat) (l0 : List Int) (a1 : Int) (a2 : Int) (r : Bool) (w : World) (hr0 : Kd.C (Kd.int .u8) w A0 l0.length l0) (hc0 : l0.length ≤ c0) (h : sallyportlaw04_WireSums.f k l0 a1 a2 = some r) :
    Calls Try.prog 4 #[.slice A0 l0.length c0, .int .i64 a1, .int .i64 a2] w fun e w' => e = .returned (.bool r) ∧ Below w.heap.size w w' := by
  have HR0 := Aside0.mk hr0
  have HC0 := Aside0.mk hc0
  clear hr0 hc0
  have HB := Aside0.mk (Below.refl w.heap.size w)
  have H : ((sallyportlaw04_long.f l0).bind fun t116 => (if t116 = true then (sallyportlaw04_WireSums.j0 k l0 a1 a2 true) else (sallyportlaw04_WireSums.j0 k l0 a1 a2 (decide ((l0.length : Int) < 4))))) = some r := h
  clear h
  have HC4 := Aside0.mk H
  clear H
  go_enter Try.func4, Try.ntmps4
  go_upto_region 1 with (fail)
  go_cut [16] (fun v16 wc => ∃ (kq : Nat) (x16_3 : Bool), v16 = .bool x16_3 ∧ Aside0 (sallyportlaw04_WireSums.j0 kq l0 a1 a2 x16_3 = some r) ∧ Aside0 (kq ≤ k) ∧ Aside0 (Below w.heap.size w wc))
  case first =>
    have H := HC4.out
    clear HC4
    replace H := Option.bind_eq_some_iff.mp H
    obtain ⟨t116, A50, H⟩ := H
    replace H : (if t116 = true then (sallyportlaw04_WireSums.j0 k l0 a1 a2 true) else (sallyportlaw04_WireSums.j0 k l0 a1 a2 (decide ((l0.length : Int) < 4)))) = some r := H
    have A5 := Aside0.mk A50
    clear A50
    by_cases c6 : t116 = true
    · subst c6
      have H1 : (sallyportlaw04_WireSums.j0 k l0 a1 a2 true) = some r := by rw [if_pos rfl] at H; exact H
      clear H
      have H := H1
      clear H1
      have H' := Aside0.mk H
      clear H
      go_wp2_with (first | ((with_reducible refine gate_callee (f := 19) rfl ?_); refine goesL_ (some 11) rfl rfl Try.func19 (by kernel_rfl) rfl #[.slice A0 l0.length c0] rfl (by (try simp only [List.map_toArray, List.map_cons, List.map_nil]); first | done | rfl | (simp only [List.length_drop, List.length_take]; rfl)) ?_; (with_reducible refine (sallyportlaw04_long.calls _ _ l0 true _ ?side1 ?side2 A5.out).mono ?_); (case side1 => repeat (first | exact (Kd.C_below HR0.out HB.out) | (with_reducible refine Kd.C_alloc ?_ _) | (with_reducible refine Kd.C_drewN ?_ _) | (with_reducible refine Kd.C_drew ?_))); (case side2 => exact HC0.out); rintro e w' ⟨rfl, ⟨nd, rfl⟩⟩; refine ⟨_, rfl, ?_⟩))
      go_meet
      case rel => exact ⟨_, (true), (by first | rfl | (simp; done) | (simp [*]; done)), H', ⟨by first | omega | exact Nat.le_refl _⟩, ⟨by repeat (first | (with_reducible first | exact HB.out | apply below_alloc | apply pw_below_drewN | apply below_drew1) | exact HB.out)⟩⟩
    · replace c6 := Bool.eq_false_iff.mpr c6
      subst c6
      have H1 : (sallyportlaw04_WireSums.j0 k l0 a1 a2 (decide ((l0.length : Int) < 4))) = some r := by rw [if_neg (show ¬ (false = true) by decide)] at H; exact H
      clear H
      have H := H1
      clear H1
      have H' := Aside0.mk H
      clear H
      go_wp2_with (first | ((with_reducible refine gate_callee (f := 19) rfl ?_); refine goesL_ (some 11) rfl rfl Try.func19 (by kernel_rfl) rfl #[.slice A0 l0.length c0] rfl (by (try simp only [List.map_toArray, List.map_cons, List.map_nil]); first | done | rfl | (simp only [List.length_drop, List.length_take]; rfl)) ?_; (with_reducible refine (sallyportlaw04_long.calls _ _ l0 false _ ?side1 ?side2 A5.out).mono ?_); (case side1 => repeat (first | exact (Kd.C_below HR0.out HB.out) | (with_reducible refine Kd.C_alloc ?_ _) | (with_reducible refine Kd.C_drewN ?_ _) | (with_reducible refine Kd.C_drew ?_))); (case side2 => exact HC0.out); rintro e w' ⟨rfl, ⟨nd, rfl⟩⟩; refine ⟨_, rfl, ?_⟩))
      go_meet
      case rel => exact ⟨_, (decide ((l0.length : Int) < 4)), (by first | rfl | (simp; done) | (simp [*]; done)), H', ⟨by first | omega | exact Nat.le_refl _⟩, ⟨by repeat (first | (with_reducible first | exact HB.out | apply below_alloc | apply pw_below_drewN | apply below_drew1) | exact HB.out)⟩⟩
  case rest =>
    clear HC4
    try clear c1
    try clear p2
    try clear c4
    try clear c6
    obtain ⟨kq, x16_3, rfl, HA, HJ3, HB⟩ := hcut
    cases kq with
    | zero => exact absurd HA.out (by simp [sallyportlaw04_WireSums.j0])
    | succ kj3 =>
      have H := HA.out
      clear HA
      simp only [sallyportlaw04_WireSums.j0] at H
      by_cases c7 : x16_3 = true
      · subst c7
        have H1 : (some true) = some r := by rw [if_pos rfl] at H; exact H
        clear H
        have H := H1
        clear H1
        obtain rfl := Option.some.inj H
        go_wp2
        go_ret
        exact ⟨by first | rfl | (simp [errW_none, errW_some] <;> rfl) | (simp [*, errW_none, errW_some] <;> rfl), by repeat (first | (with_reducible first | exact HB.out | apply below_alloc | apply pw_below_drewN | apply below_drew1) | exact HB.out)⟩
      · replace c7 := Bool.eq_false_iff.mpr c7
        subst c7
        have H1 : ((wire_Sum.f kj3 l0).bind fun t117 => ((sallyportref04_Sum.f kj3 l0).bind fun t118 => (if t117 = t118 then (if t117 < 0 then (sallyportlaw04_WireSums.j1 kj3 l0 a1 a2 t117 true) else (sallyportlaw04_WireSums.j1 kj3 l0 a1 a2 t117 (decide (t117 > 65535)))) else (sallyportlaw04_WireSums.j1 kj3 l0 a1 a2 t117 true)))) = some r := by rw [if_neg (show ¬ (false = true) by decide)] at H; exact H
        clear H
        have H := H1
        clear H1
        replace H := Option.bind_eq_some_iff.mp H
        obtain ⟨t117, A80, H⟩ := H
        replace H : ((sallyportref04_Sum.f kj3 l0).bind fun t118 => (if t117 = t118 then (if t117 < 0 then (sallyportlaw04_WireSums.j1 kj3 l0 a1 a2 t117 true) else (sallyportlaw04_WireSums.j1 kj3 l0 a1 a2 t117 (decide (t117 > 65535)))) else (sallyportlaw04_WireSums.j1 kj3 l0 a1 a2 t117 true))) = some r := H
        have A8 := Aside0.mk A80
        clear A80
        have HC9 := Aside0.mk H
        clear H
        go_upto_region 4 with (first | ((with_reducible refine gate_callee (f := 20) rfl ?_); refine goesL_ (some 18) rfl rfl Try.func20 (by kernel_rfl) rfl #[.slice A0 l0.length c0] rfl (by (try simp only [List.map_toArray, List.map_cons, List.map_nil]); first | done | rfl | (simp only [List.length_drop, List.length_take]; rfl)) ?_; (with_reducible refine (wire_Sum.calls kj3 (fun k_ => k_ < w.heap.size) _ _ l0 t117 _ ?side1 A8.out).mono ?_); (case side1 => exact Kd.V_mk HC0.out (Kd.F_below (Kd.C_F (Kd.heap_int .u8) HR0.out) (by repeat (first | (with_reducible first | exact HB.out | apply below_alloc | apply pw_below_drewN | apply below_drew1) | exact HB.out)))); rintro e w10 ⟨rfl, hb⟩; refine ⟨_, rfl, ?_⟩; have n0_ := Aside0.mk (below_step (by repeat (first | (with_reducible first | exact HB.out | apply below_alloc | apply pw_below_drewN | apply below_drew1) | exact HB.out)) hb); clear HB; have HB := n0_; clear n0_; (try clear hb); (try clear hb2); (try clear hk); (try clear hi)))
        (try simp only [Act.put, List.setIfInBounds_toArray, List.set_cons_zero, List.set_cons_succ])
        go_cut [30] (fun v30 wc => ∃ (kq : Nat) (x30_8 : Bool), v30 = .bool x30_8 ∧ Aside0 (sallyportlaw04_WireSums.j1 kq l0 a1 a2 t117 x30_8 = some r) ∧ Aside0 (kq ≤ kj3) ∧ Aside0 (Below w.heap.size w wc))
        case first =>
          have H := HC9.out
          clear HC9
          replace H := Option.bind_eq_some_iff.mp H
          obtain ⟨t118, A110, H⟩ := H
          replace H : (if t117 = t118 then (if t117 < 0 then (sallyportlaw04_WireSums.j1 kj3 l0 a1 a2 t117 true) else (sallyportlaw04_WireSums.j1 kj3 l0 a1 a2 t117 (decide (t117 > 65535)))) else (sallyportlaw04_WireSums.j1 kj3 l0 a1 a2 t117 true)) = some r := H
          have A11 := Aside0.mk A110
          clear A110
          by_cases c12 : t117 = t118
          · rw [if_pos c12] at H
            have c12b0 : (t117 == t118) = true := beq_iff_eq.mpr c12
            have c12b1 : (t117 != t118) = false := bne_eq_false_iff_eq.mpr c12
            clear c12
            (first | rw [c12b0] | (simp only [i64_w, i32_w]; rw [c12b0]) | skip)
            by_cases c13 : t117 < 0
            · rw [if_pos c13] at H
              have c13b0 : decide (t117 < 0) = true := decide_eq_true c13
              clear c13
              have H' := Aside0.mk H
              clear H
              go_wp2_with (first | ((with_reducible refine gate_callee (f := 21) rfl ?_); refine goesL_ (some 21) rfl rfl Try.func21 (by kernel_rfl) rfl #[.slice A0 l0.length c0] rfl (by (try simp only [List.map_toArray, List.map_cons, List.map_nil]); first | done | rfl | (simp only [List.length_drop, List.length_take]; rfl)) ?_; (with_reducible refine (sallyportref04_Sum.calls kj3 _ _ l0 t118 _ ?side1 ?side2 A11.out).mono ?_); (case side1 => repeat (first | exact (Kd.C_below HR0.out HB.out) | (with_reducible refine Kd.C_alloc ?_ _) | (with_reducible refine Kd.C_drewN ?_ _) | (with_reducible refine Kd.C_drew ?_))); (case side2 => exact HC0.out); rintro e w' ⟨rfl, ⟨nd, rfl⟩⟩; refine ⟨_, rfl, ?_⟩))
              go_meet
              case rel => exact ⟨_, (true), (by first | rfl | (simp; done) | (simp [*]; done)), H', ⟨by have := HJ3.out; first | omega | exact Nat.le_refl _⟩, ⟨by repeat (first | (with_reducible first | exact HB.out | apply below_alloc | apply pw_below_drewN | apply below_drew1) | exact HB.out)⟩⟩
            · rw [if_neg c13] at H
              have c13b0 : decide (t117 < 0) = false := decide_eq_false c13
              clear c13
              have H' := Aside0.mk H
              clear H
              go_wp2_with (first | ((with_reducible refine gate_callee (f := 21) rfl ?_); refine goesL_ (some 21) rfl rfl Try.func21 (by kernel_rfl) rfl #[.slice A0 l0.length c0] rfl (by (try simp only [List.map_toArray, List.map_cons, List.map_nil]); first | done | rfl | (simp only [List.length_drop, List.length_take]; rfl)) ?_; (with_reducible refine (sallyportref04_Sum.calls kj3 _ _ l0 t118 _ ?side1 ?side2 A11.out).mono ?_); (case side1 => repeat (first | exact (Kd.C_below HR0.out HB.out) | (with_reducible refine Kd.C_alloc ?_ _) | (with_reducible refine Kd.C_drewN ?_ _) | (with_reducible refine Kd.C_drew ?_))); (case side2 => exact HC0.out); rintro e w' ⟨rfl, ⟨nd, rfl⟩⟩; refine ⟨_, rfl, ?_⟩))
              go_meet
              case rel => exact ⟨_, (decide (t117 > 65535)), (by first | rfl | (simp; done) | (simp [*]; done)), H', ⟨by have := HJ3.out; first | omega | exact Nat.le_refl _⟩, ⟨by repeat (first | (with_reducible first | exact HB.out | apply below_alloc | apply pw_below_drewN | apply below_drew1) | exact HB.out)⟩⟩
          · rw [if_neg c12] at H
            have c12b0 : (t117 == t118) = false := beq_eq_false_iff_ne.mpr c12
            have c12b1 : (t117 != t118) = true := bne_iff_ne.mpr c12
            (first | rw [c12b0] | (simp only [i64_w, i32_w]; rw [c12b0]) | skip)
            have H' := Aside0.mk H
            clear H
            go_wp2_with (first | ((with_reducible refine gate_callee (f := 21) rfl ?_); refine goesL_ (some 21) rfl rfl Try.func21 (by kernel_rfl) rfl #[.slice A0 l0.length c0] rfl (by (try simp only [List.map_toArray, List.map_cons, List.map_nil]); first | done | rfl | (simp only [List.length_drop, List.length_take]; rfl)) ?_; (with_reducible refine (sallyportref04_Sum.calls kj3 _ _ l0 t118 _ ?side1 ?side2 A11.out).mono ?_); (case side1 => repeat (first | exact (Kd.C_below HR0.out HB.out) | (with_reducible refine Kd.C_alloc ?_ _) | (with_reducible refine Kd.C_drewN ?_ _) | (with_reducible refine Kd.C_drew ?_))); (case side2 => exact HC0.out); rintro e w' ⟨rfl, ⟨nd, rfl⟩⟩; refine ⟨_, rfl, ?_⟩))
            go_meet
            case rel => exact ⟨_, (true), (by first | rfl | (simp; done) | (simp [*]; done)), H', ⟨by have := HJ3.out; first | omega | exact Nat.le_refl _⟩, ⟨by repeat (first | (with_reducible first | exact HB.out | apply below_alloc | apply pw_below_drewN | apply below_drew1) | exact HB.out)⟩⟩
        case rest =>
          clear HC9
          try clear c1
          try clear c2
          try clear p2
          try clear c4
          try clear c6
          try clear c7
          try clear c12
          try clear c12b0
          try clear c12b1
          try clear c13
          try clear c13b0
          try clear p2
          obtain ⟨kq, x30_8, rfl, HA, HJ8, HB⟩ := hcut
          cases kq with
          | zero => exact absurd HA.out (by simp [sallyportlaw04_WireSums.j1])
          | succ kj8 =>
            have H := HA.out
            clear HA
            simp only [sallyportlaw04_WireSums.j1] at H
            by_cases c14 : x30_8 = true
            · subst c14
              have H1 : (some false) = some r := by rw [if_pos rfl] at H; exact H
              clear H
              have H := H1
              clear H1
              obtain rfl := Option.some.inj H
              go_wp2
              go_ret
              exact ⟨by first | rfl | (simp [errW_none, errW_some] <;> rfl) | (simp [*, errW_none, errW_some] <;> rfl), by repeat (first | (with_reducible first | exact HB.out | apply below_alloc | apply pw_below_drewN | apply below_drew1) | exact HB.out)⟩
            · replace c14 := Bool.eq_false_iff.mpr c14
              subst c14
              have H1 : ((some (([] : List Int) : List Int)).bind fun y119 => (if y119.length + l0.length < 140737488355328 then ((some (y119 ++ l0 : List Int)).bind fun y122 => (if ((y122.length : Int) % 2) = 1 then (if y122.length < 140737488355328 then (sallyportlaw04_WireSums.j2 kj8 l0 a1 a2 t117 (y122 ++ [0])) else (none)) else (sallyportlaw04_WireSums.j2 kj8 l0 a1 a2 t117 y122))) else (none))) = some r := by rw [if_neg (show ¬ (false = true) by decide)] at H; exact H
              clear H
              have H := H1
              clear H1
              obtain ⟨y119, hy119⟩ : ∃ y_ : List Int, y_ = (([] : List Int)) := ⟨_, rfl⟩
              replace H : (if y119.length + l0.length < 140737488355328 then ((some (y119 ++ l0 : List Int)).bind fun y122 => (if ((y122.length : Int) % 2) = 1 then (if y122.length < 140737488355328 then (sallyportlaw04_WireSums.j2 kj8 l0 a1 a2 t117 (y122 ++ [0])) else (none)) else (sallyportlaw04_WireSums.j2 kj8 l0 a1 a2 t117 y122))) else (none)) = some r := by first | (rw [hy119]; with_reducible exact H) | (have H2_ := (Option.bind_some _ _).symm.trans H; rw [hy119]; with_reducible exact H2_) | (have H2_ := (Option.bind_some _ _).symm.trans H; with_reducible exact H2_) | with_reducible exact H | (rw [hy119]; exact H) | exact H
              have Ny119 := Aside0.mk hy119
              clear hy119
              by_cases c15 : y119.length + l0.length < 140737488355328
              · rw [if_pos c15] at H
                have LMc15 := Aside0.mk c15
                clear c15
                obtain ⟨y122, hy122⟩ : ∃ y_ : List Int, y_ = (y119 ++ l0) := ⟨_, rfl⟩
                replace H : (if ((y122.length : Int) % 2) = 1 then (if y122.length < 140737488355328 then (sallyportlaw04_WireSums.j2 kj8 l0 a1 a2 t117 (y122 ++ [0])) else (none)) else (sallyportlaw04_WireSums.j2 kj8 l0 a1 a2 t117 y122)) = some r := by first | (rw [hy122]; with_reducible exact H) | (have H2_ := (Option.bind_some _ _).symm.trans H; rw [hy122]; with_reducible exact H2_) | (have H2_ := (Option.bind_some _ _).symm.trans H; with_reducible exact H2_) | with_reducible exact H | (rw [hy122]; exact H) | exact H
                have Ny122 := Aside0.mk hy122
                clear hy122
                have HC16 := Aside0.mk H
                clear H
                go_upto_if 38 with (first | ((with_reducible refine gate_dst (N := 31) rfl ?_); (try (refine gate_guard (by rfl) ?_; dsimp only)); refine Kd.R_lit (Kd.int .u8) _ 5 ?hg (N := 31) ?hd (xs := ([] : List Int)) (inner := []) (ok := fun _ => True) (okp := fun _ => True) ?hr ?hp (fun _ hk => hk) trivial (Below.refl _ _) (Nat.le_refl _) (by simp) ?_; (case hd => rfl); (case hg => rfl); (case hr => first | (go_simp; done) | (go_simp; rfl)); (case hp => exact (Reps.none _ _)); intro v120 w17 ho18 hb hg_ hnew_; clear hg_ hnew_; (first | rw [← Ny119.out] at ho18 | (simp only [Int.reduceToNat] at ho18; rw [← Ny119.out] at ho18)); have n0_ := Aside0.mk (Kd.R_lower ho18 (below_size (by repeat (first | (with_reducible first | exact HB.out | apply below_alloc | apply pw_below_drewN | apply below_drew1) | exact HB.out)))); have n1_ := Aside0.mk (below_step (by repeat (first | (with_reducible first | exact HB.out | apply below_alloc | apply pw_below_drewN | apply below_drew1) | exact HB.out)) hb); clear HB; have HO121 := n0_; have HB := n1_; clear n0_ n1_; clear hb ho18) | ((with_reducible refine gate_builtin (b := .append) (xs := #[.tmp 32, .tmp 33]) rfl ?_); (try (refine gate_guard (by rfl) ?_; dsimp only)); at_builtin; refine Kd.R_append_rows (Kd.int .u8) (w0 := w) w.heap.size rfl (.tmp 32) (.tmp 33) 32 5 (.int .u8 0) 1 rfl Try.underlying32 info5 rfl (by decide) (by omega) v120 y119 l0 _ _ _ (fun _ => True) (fun _ => False) rfl rfl ?aO ?aR (fun _ _ h => h) (fun _ h => h.elim) ?aF ?aB ?aS ?aL ?_; (case aR => repeat (first | exact (Kd.C_below HR0.out HB.out) | (with_reducible refine Kd.C_alloc ?_ _) | (with_reducible refine Kd.C_drewN ?_ _) | (with_reducible refine Kd.C_drew ?_))); (case aB => exact (by repeat (first | (with_reducible first | exact HB.out | apply below_alloc | apply pw_below_drewN | apply below_drew1) | exact HB.out))); (case aF => exact (fun _ _ => trivial)); (case aO => exact (by (with_reducible repeat (first | apply Kd.R_alloc | apply Kd.R_drewN | apply Kd.R_drew)); exact HO121.out)); (case aS => exact (below_size (by repeat (first | (with_reducible first | exact HB.out | apply below_alloc | apply pw_below_drewN | apply below_drew1) | exact HB.out)))); (case aL => have := LMc15.out; omega); intro v123 w19 ho hb hg hat; rw [← Ny122.out] at ho; have n0_ := Aside0.mk (hb); have n1_ := Aside0.mk (ho); clear HB; clear HO121; have HB := n0_; have HO124 := n1_; clear n0_ n1_; clear ho hb hg hat; obtain ⟨Ao20, co20, eo20⟩ := Kd.R_slice HO124.out; subst eo20))
                (try simp only [Act.put, List.setIfInBounds_toArray, List.set_cons_zero, List.set_cons_succ])
                go_cut [8] (fun v8 wc => ∃ (kq : Nat) (x8_15 : List Int), Aside0 (sallyportlaw04_WireSums.j2 kq l0 a1 a2 t117 x8_15 = some r) ∧ Aside0 (kq ≤ kj8) ∧ Aside0 (Kd.R (Kd.int .u8) 5 wc w.heap.size (fun _ => True) v8 x8_15) ∧ Aside0 (Below w.heap.size w wc))
                case first =>
                  have H := HC16.out
                  clear HC16
                  by_cases c21 : ((y122.length : Int) % 2) = 1
                  · rw [if_pos c21] at H
                    have c21b0 : (((y122.length : Int) % 2) == 1) = true := beq_iff_eq.mpr c21
                    have c21b1 : (((y122.length : Int) % 2) != 1) = false := bne_eq_false_iff_eq.mpr c21
                    clear c21
                    (first | rw [c21b0] | (simp only [i64_w, i32_w]; rw [c21b0]) | skip)
                    by_cases c22 : y122.length < 140737488355328
                    · rw [if_pos c22] at H
                      have LMc22 := Aside0.mk c22
                      clear c22
                      obtain ⟨y125, hy125⟩ : ∃ y_ : List Int, y_ = (y122 ++ [0]) := ⟨_, rfl⟩
                      replace H : (sallyportlaw04_WireSums.j2 kj8 l0 a1 a2 t117 y125) = some r := by first | (rw [hy125]; with_reducible exact H) | (have H2_ := (Option.bind_some _ _).symm.trans H; rw [hy125]; with_reducible exact H2_) | (have H2_ := (Option.bind_some _ _).symm.trans H; with_reducible exact H2_) | with_reducible exact H | (rw [hy125]; exact H) | exact H
                      have Ny125 := Aside0.mk hy125
                      clear hy125
                      have H' := Aside0.mk H
                      clear H
                      go_wp2_with (first | ((with_reducible refine gate_builtin (b := .append) (xs := #[.tmp 39, .tmp 40]) rfl ?_); (try (refine gate_guard (by rfl) ?_; dsimp only)); at_builtin; refine Kd.R_append (Kd.int .u8) (w0 := w) w.heap.size rfl (.tmp 39) (.tmp 40) 32 5 (.int .u8 0) 1 rfl Try.underlying32 info5 rfl (by decide) (by omega) (.slice Ao20 y122.length co20) y122 0 [.int .u8 0] (fun _ => True) (fun _ => False) rfl rfl ?aP (fun _ hk => hk.elim) ?aF ?aO ?aB ?aS ?aL ?_; (case aP => exact rfl); (case aB => exact (by repeat (first | (with_reducible first | exact HB.out | apply below_alloc | apply pw_below_drewN | apply below_drew1) | exact HB.out))); (case aF => exact (fun _ _ => trivial)); (case aO => exact (by (with_reducible repeat (first | apply Kd.R_alloc | apply Kd.R_drewN | apply Kd.R_drew)); exact HO124.out)); (case aS => exact (below_size (by repeat (first | (with_reducible first | exact HB.out | apply below_alloc | apply pw_below_drewN | apply below_drew1) | exact HB.out)))); (case aL => have := LMc22.out; omega); intro v126 w23 ho hb hg hat; rw [← Ny125.out] at ho; have n0_ := Aside0.mk (hb); have n1_ := Aside0.mk (ho); clear HB; clear HO124; have HB := n0_; have HO127 := n1_; clear n0_ n1_; clear ho hb hg hat))
                      go_meet
                      case rel => exact ⟨_, (y125), H', ⟨by have := HJ3.out; have := HJ8.out; first | omega | exact Nat.le_refl _⟩, ⟨by (with_reducible repeat (first | apply Kd.R_alloc | apply Kd.R_drewN | apply Kd.R_drew)); exact HO127.out⟩, ⟨by repeat (first | (with_reducible first | exact HB.out | apply below_alloc | apply pw_below_drewN | apply below_drew1) | exact HB.out)⟩⟩
                    · rw [if_neg c22] at H
                      exact absurd H (by simp)
                  · rw [if_neg c21] at H
                    have c21b0 : (((y122.length : Int) % 2) == 1) = false := beq_eq_false_iff_ne.mpr c21
                    have c21b1 : (((y122.length : Int) % 2) != 1) = true := bne_iff_ne.mpr c21
                    (first | rw [c21b0] | (simp only [i64_w, i32_w]; rw [c21b0]) | skip)
                    have H' := Aside0.mk H
                    clear H
                    go_wp2
                    go_meet
                    case rel => exact ⟨_, (y122), H', ⟨by have := HJ3.out; have := HJ8.out; first | omega | exact Nat.le_refl _⟩, ⟨by (with_reducible repeat (first | apply Kd.R_alloc | apply Kd.R_drewN | apply Kd.R_drew)); exact HO124.out⟩, ⟨by repeat (first | (with_reducible first | exact HB.out | apply below_alloc | apply pw_below_drewN | apply below_drew1) | exact HB.out)⟩⟩
                case rest =>
                  clear HC16
                  try clear c1
                  try clear c2
                  try clear p2
                  try clear c4
                  try clear c6
                  try clear c7
                  try clear c12
                  try clear c12b0
                  try clear c12b1
                  try clear c13
                  try clear c13b0
                  try clear c14
                  try clear c15
                  try clear c19
                  try clear c20
                  try clear c21
                  try clear c21b0
                  try clear c21b1
                  try clear c22
                  try clear p2
                  obtain ⟨kq, x8_15, HA, HJ15, HO_8, HB⟩ := hcut
                  cases kq with
                  | zero => exact absurd HA.out (by simp [sallyportlaw04_WireSums.j2])
                  | succ kj15 =>
                    have H := HA.out
                    clear HA
                    simp only [sallyportlaw04_WireSums.j2] at H
                    by_cases c24 : (wrap64 ((l0.length : Int) / 2)) = 0
                    · rw [if_pos c24] at H
                      exact absurd H (by simp)
                    · rw [if_neg c24] at H
                      have c24b0 : ((wrap64 ((l0.length : Int) / 2)) == 0) = false := beq_eq_false_iff_ne.mpr c24
                      have c24b1 : ((wrap64 ((l0.length : Int) / 2)) != 0) = true := bne_iff_ne.mpr c24
                      obtain ⟨ji25, hji25⟩ : ∃ j_ : Int, (wrap64 ((Int.tmod (wrap64 ((Int.tmod a1 (wrap64 ((l0.length : Int) / 2))) + (wrap64 ((l0.length : Int) / 2)))) (wrap64 ((l0.length : Int) / 2))) * 2)) = j_ := ⟨_, rfl⟩
                      replace H : (if 0 ≤ (ji25) then (if (ji25) < (x8_15.length : Int) then (if 0 ≤ (wrap64 ((Int.tmod (wrap64 ((Int.tmod a2 (wrap64 ((l0.length : Int) / 2))) + (wrap64 ((l0.length : Int) / 2)))) (wrap64 ((l0.length : Int) / 2))) * 2)) then (if (wrap64 ((Int.tmod (wrap64 ((Int.tmod a2 (wrap64 ((l0.length : Int) / 2))) + (wrap64 ((l0.length : Int) / 2)))) (wrap64 ((l0.length : Int) / 2))) * 2)) < (x8_15.length : Int) then ((some ((x8_15.set ((ji25) : Int).toNat (rd x8_15 (wrap64 ((Int.tmod (wrap64 ((Int.tmod a2 (wrap64 ((l0.length : Int) / 2))) + (wrap64 ((l0.length : Int) / 2)))) (wrap64 ((l0.length : Int) / 2))) * 2)))).set ((wrap64 ((Int.tmod (wrap64 ((Int.tmod a2 (wrap64 ((l0.length : Int) / 2))) + (wrap64 ((l0.length : Int) / 2)))) (wrap64 ((l0.length : Int) / 2))) * 2)) : Int).toNat (rd x8_15 (ji25)) : List Int)).bind fun y131 => ((wire_Sum.f kj15 y131).bind fun t132 => (if t132 = t117 then ((some (([(t117 / 256) % 256, (t117) % 256] : List Int) : List Int)).bind fun y133 => (if y131.length + y133.length < 140737488355328 then ((wire_Sum.f kj15 (y131 ++ y133)).bind fun t139 => (some (t139 == 0))) else (none))) else (some false)))) else (none)) else (none)) else (none)) else (none)) = some r := by first | (rw [hji25] at H; exact H) | (simp only [hji25] at H ⊢; exact H)
                      have hji25w : (IntKind.i64.wrap ((Int.tmod (wrap64 ((Int.tmod a1 (wrap64 ((l0.length : Int) / 2))) + (wrap64 ((l0.length : Int) / 2)))) (wrap64 ((l0.length : Int) / 2))) * 2)) = ji25 := (i64_w _).trans hji25
                      by_cases c26 : 0 ≤ (ji25)
                      · rw [if_pos c26] at H
                        have c26b0 : decide (0 ≤ (ji25)) = true := decide_eq_true c26
                        clear c26
                        by_cases c27 : (ji25) < (x8_15.length : Int)
                        · rw [if_pos c27] at H
                          have c27b0 : decide ((ji25) < (x8_15.length : Int)) = true := decide_eq_true c27
                          clear c27
                          obtain ⟨ji28, hji28⟩ : ∃ j_ : Int, (wrap64 ((Int.tmod (wrap64 ((Int.tmod a2 (wrap64 ((l0.length : Int) / 2))) + (wrap64 ((l0.length : Int) / 2)))) (wrap64 ((l0.length : Int) / 2))) * 2)) = j_ := ⟨_, rfl⟩
                          replace H : (if 0 ≤ (ji28) then (if (ji28) < (x8_15.length : Int) then ((some ((x8_15.set ((ji25) : Int).toNat (rd x8_15 (ji28))).set ((ji28) : Int).toNat (rd x8_15 (ji25)) : List Int)).bind fun y131 => ((wire_Sum.f kj15 y131).bind fun t132 => (if t132 = t117 then ((some (([(t117 / 256) % 256, (t117) % 256] : List Int) : List Int)).bind fun y133 => (if y131.length + y133.length < 140737488355328 then ((wire_Sum.f kj15 (y131 ++ y133)).bind fun t139 => (some (t139 == 0))) else (none))) else (some false)))) else (none)) else (none)) = some r := by first | (rw [hji28] at H; exact H) | (simp only [hji28] at H ⊢; exact H)
                          have hji28w : (IntKind.i64.wrap ((Int.tmod (wrap64 ((Int.tmod a2 (wrap64 ((l0.length : Int) / 2))) + (wrap64 ((l0.length : Int) / 2)))) (wrap64 ((l0.length : Int) / 2))) * 2)) = ji28 := (i64_w _).trans hji28
                          by_cases c29 : 0 ≤ (ji28)
                          · rw [if_pos c29] at H
                            have c29b0 : decide (0 ≤ (ji28)) = true := decide_eq_true c29
                            clear c29
                            by_cases c30 : (ji28) < (x8_15.length : Int)
                            · rw [if_pos c30] at H
                              have c30b0 : decide ((ji28) < (x8_15.length : Int)) = true := decide_eq_true c30
                              clear c30
                              obtain ⟨y130, hy130⟩ : ∃ y_ : List Int, y_ = (x8_15.set ((ji25) : Int).toNat (rd x8_15 (ji28))) := ⟨_, rfl⟩
                              replace H : ((some (y130.set ((ji28) : Int).toNat (rd x8_15 (ji25)) : List Int)).bind fun y131 => ((wire_Sum.f kj15 y131).bind fun t132 => (if t132 = t117 then ((some (([(t117 / 256) % 256, (t117) % 256] : List Int) : List Int)).bind fun y133 => (if y131.length + y133.length < 140737488355328 then ((wire_Sum.f kj15 (y131 ++ y133)).bind fun t139 => (some (t139 == 0))) else (none))) else (some false)))) = some r := by first | (rw [hy130]; with_reducible exact H) | (have H2_ := (Option.bind_some _ _).symm.trans H; rw [hy130]; with_reducible exact H2_) | (have H2_ := (Option.bind_some _ _).symm.trans H; with_reducible exact H2_) | with_reducible exact H | (rw [hy130]; exact H) | exact H
                              have Ny130 := Aside0.mk hy130
                              clear hy130
                              obtain ⟨y131, hy131⟩ : ∃ y_ : List Int, y_ = (y130.set ((ji28) : Int).toNat (rd x8_15 (ji25))) := ⟨_, rfl⟩
                              replace H : ((wire_Sum.f kj15 y131).bind fun t132 => (if t132 = t117 then ((some (([(t117 / 256) % 256, (t117) % 256] : List Int) : List Int)).bind fun y133 => (if y131.length + y133.length < 140737488355328 then ((wire_Sum.f kj15 (y131 ++ y133)).bind fun t139 => (some (t139 == 0))) else (none))) else (some false))) = some r := by first | (rw [hy131]; with_reducible exact H) | (have H2_ := (Option.bind_some _ _).symm.trans H; rw [hy131]; with_reducible exact H2_) | (have H2_ := (Option.bind_some _ _).symm.trans H; with_reducible exact H2_) | with_reducible exact H | (rw [hy131]; exact H) | exact H
                              have Ny131 := Aside0.mk hy131
                              clear hy131
                              replace H := Option.bind_eq_some_iff.mp H
                              obtain ⟨t132, A330, H⟩ := H
                              replace H : (if t132 = t117 then ((some (([(t117 / 256) % 256, (t117) % 256] : List Int) : List Int)).bind fun y133 => (if y131.length + y133.length < 140737488355328 then ((wire_Sum.f kj15 (y131 ++ y133)).bind fun t139 => (some (t139 == 0))) else (none))) else (some false)) = some r := H
                              have A33 := Aside0.mk A330
                              clear A330
                              by_cases c34 : t132 = t117
                              · rw [if_pos c34] at H
                                have c34b0 : (t132 == t117) = true := beq_iff_eq.mpr c34
                                have c34b1 : (t132 != t117) = false := bne_eq_false_iff_eq.mpr c34
                                clear c34
                                obtain ⟨y133, hy133⟩ : ∃ y_ : List Int, y_ = (([(t117 / 256) % 256, (t117) % 256] : List Int)) := ⟨_, rfl⟩
                                replace H : (if y131.length + y133.length < 140737488355328 then ((wire_Sum.f kj15 (y131 ++ y133)).bind fun t139 => (some (t139 == 0))) else (none)) = some r := by first | (rw [hy133]; with_reducible exact H) | (have H2_ := (Option.bind_some _ _).symm.trans H; rw [hy133]; with_reducible exact H2_) | (have H2_ := (Option.bind_some _ _).symm.trans H; with_reducible exact H2_) | with_reducible exact H | (rw [hy133]; exact H) | exact H
                                have Ny133 := Aside0.mk hy133
                                clear hy133
                                by_cases c35 : y131.length + y133.length < 140737488355328
                                · rw [if_pos c35] at H
                                  have LMc35 := Aside0.mk c35
                                  clear c35
                                  obtain ⟨y136, hy136⟩ : ∃ y_ : List Int, y_ = (y131 ++ y133) := ⟨_, rfl⟩
                                  replace H : ((wire_Sum.f kj15 y136).bind fun t139 => (some (t139 == 0))) = some r := by first | (rw [hy136]; with_reducible exact H) | (have H2_ := (Option.bind_some _ _).symm.trans H; rw [hy136]; with_reducible exact H2_) | (have H2_ := (Option.bind_some _ _).symm.trans H; with_reducible exact H2_) | with_reducible exact H | (rw [hy136]; exact H) | exact H
                                  have Ny136 := Aside0.mk hy136
                                  clear hy136
                                  replace H := Option.bind_eq_some_iff.mp H
                                  obtain ⟨t139, A360, H⟩ := H
                                  replace H : (some (t139 == 0)) = some r := H
                                  have A36 := Aside0.mk A360
                                  clear A360
                                  obtain rfl := Option.some.inj H
                                  obtain ⟨Ao37, co37, eo37⟩ := Kd.R_slice HO_8.out
                                  subst eo37
                                  have p128 : 0 ≤ ((ji25) : Int) := of_decide_eq_true (by first | (with_reducible assumption) | assumption)
                                  have q128 : (ji25) < (x8_15.length : Int) := of_decide_eq_true (by first | (with_reducible assumption) | assumption)
                                  obtain ⟨ad128, e128, hx128_0⟩ := Kd.at_int (Kd.R_reads' HO_8.out).2.2 (ji25) p128 q128
                                  cases e128
                                  replace p128 := eq_true p128
                                  replace q128 := eq_true q128
                                  have p129 : 0 ≤ ((ji28) : Int) := of_decide_eq_true (by first | (with_reducible assumption) | assumption)
                                  have q129 : (ji28) < (x8_15.length : Int) := of_decide_eq_true (by first | (with_reducible assumption) | assumption)
                                  obtain ⟨ad129, e129, hx129_0⟩ := Kd.at_int (Kd.R_reads' HO_8.out).2.2 (ji28) p129 q129
                                  obtain rfl : ad128 = ad129 := (by injection e129)
                                  replace p129 := eq_true p129
                                  replace q129 := eq_true q129
                                  have p31 : 0 ≤ ((ji25) : Int) := of_decide_eq_true (by first | (with_reducible assumption) | assumption)
                                  have q31 : ((ji25) : Int) < ((x8_15.length : Int) : Int) := of_decide_eq_true (by first | (with_reducible assumption) | assumption)
                                  obtain ⟨go31, co31, eo31, gb31, gl31, cl31, HG31⟩ := Kd.R_form HO_8.out (by omega)
                                  (first | cases eo31 | (injection eo31 with ea_ en_ ec_; (first | subst ea_ | (injection ea_ with ea_; subst ea_)); subst ec_; clear en_))
                                  have GB31 := Aside0.mk gb31
                                  have GG31 := Aside0.mk HG31
                                  clear gb31 gl31 HG31
                                  (first | simp only [add_plain] at hx128_0 | skip)
                                  (first | simp only [add_plain] at hx129_0 | skip)
                                  obtain ⟨hx31_0, hf31_0⟩ := Kd.R_celln 0 HO_8.out ((ji25) : Int) p31 q31
                                  replace p31 := eq_true p31
                                  replace q31 := eq_true q31
                                  have HP38 := Kd.R_putg HO_8.out ((ji25) : Int) (rd x8_15 (ji28))
                                  go_wp2_with (first | ((with_reducible refine gate_store (t := 5) (p := 80) rfl ?_); refine store_event (t := 5) (p := 80) (v := ?vo_w39) (w1 := (wc.setCell ⟨go31, ((ji25) : Int).toNat, none⟩ (.int .u8 (rd x8_15 (ji28))))) ?hg ?ho ?hn ?hr ?_; (case ho => rfl); (case hg => rfl); (case hn => rfl); (case hr => first | (go_simp; done) | (go_simp; rfl)); intro w39 hw; have hg : wc.grownBy w39 (some go31) := (by rw [hw]; exact HP38.2); have hp_ : Kd.R (Kd.int .u8) 5 w39 w.heap.size (fun _ => True) (.slice (some ⟨go31, 0, none⟩) x8_15.length co37) y130 := (by rw [hw, Ny130.out]; exact HP38.1); clear HP38; have n0_ := Aside0.mk (hp_); have n1_ := Aside0.mk ((by rw [hw]; exact below_set (HB.out) GB31.out : Below w.heap.size w w39)); clear HO_8; clear HB; have HO_8 := n0_; have HB := n1_; clear n0_ n1_; clear hg hw hp_; have p32 : 0 ≤ ((ji28) : Int) := of_decide_eq_true (by first | (with_reducible assumption) | assumption); have q32 : ((ji28) : Int) < ((x8_15.length : Int) : Int) := of_decide_eq_true (by first | (with_reducible assumption) | assumption); obtain ⟨hx32_0, hf32_0⟩ := Kd.R_celln 0 HO_8.out ((ji28) : Int) p32 q32; replace p32 := eq_true p32; replace q32 := eq_true q32; obtain ⟨hy40_, hz40_⟩ := Kd.R_celln 0 HO_8.out ((ji28) : Int) (of_decide_eq_true (by first | (with_reducible assumption) | assumption)) (of_decide_eq_true (by first | (with_reducible assumption) | assumption)); have HP40 := Kd.R_putg HO_8.out ((ji28) : Int) (rd x8_15 (ji25))) | ((with_reducible refine gate_store (t := 5) (p := 84) rfl ?_); refine store_event (t := 5) (p := 84) (v := ?vo_w41) (w1 := (w39.setCell ⟨go31, ((ji28) : Int).toNat, none⟩ (.int .u8 (rd x8_15 (ji25))))) ?hg ?ho ?hn ?hr ?_; (case ho => rfl); (case hg => rfl); (case hn => rfl); (case hr => first | (go_simp; done) | (go_simp; rfl)); intro w41 hw; have hg : w39.grownBy w41 (some go31) := (by rw [hw]; exact HP40.2); have hp_ : Kd.R (Kd.int .u8) 5 w41 w.heap.size (fun _ => True) (.slice (some ⟨go31, 0, none⟩) x8_15.length co37) y131 := (by rw [hw, Ny131.out]; exact HP40.1); clear HP40; have n0_ := Aside0.mk (hp_); have n1_ := Aside0.mk ((by rw [hw]; exact below_set (HB.out) GB31.out : Below w.heap.size w w41)); clear HO_8; clear HB; have HO_8 := n0_; have HB := n1_; clear n0_ n1_; clear hg hw hp_) | ((with_reducible refine gate_callee (f := 20) rfl ?_); refine goesL_ (some 86) rfl rfl Try.func20 (by kernel_rfl) rfl #[.slice (some ⟨go31, 0, none⟩) y131.length co37] rfl (by (try simp only [List.map_toArray, List.map_cons, List.map_nil]); first | done | (rw [show y131.length = x8_15.length from (Kd.R_reads' HO_8.out).1.symm] <;> rfl) | rfl | (simp only [List.length_drop, List.length_take]; rfl)) ?_; (with_reducible refine (wire_Sum.calls kj15 (fun k_ => some k_ = (.slice (some ⟨go31, 0, none⟩) x8_15.length co37 : Value).ownBlock) _ _ y131 t132 _ ?side1 A33.out).mono ?_); (case side1 => rw [show y131.length = x8_15.length from (Kd.R_reads' HO_8.out).1.symm]; exact Kd.R_V (Kd.R_tight rfl (HO_8.out))); rintro e w42 ⟨rfl, hb⟩; refine ⟨_, rfl, ?_⟩; have n0_ := Aside0.mk (Kd.R_below (by (with_reducible repeat (first | apply Kd.R_alloc | apply Kd.R_drewN | apply Kd.R_drew)); exact HO_8.out) hb); have n1_ := Aside0.mk (below_step (by repeat (first | (with_reducible first | exact HB.out | apply below_alloc | apply pw_below_drewN | apply below_drew1) | exact HB.out)) hb); clear HO_8; clear HB; have HO_8 := n0_; have HB := n1_; clear n0_ n1_; (try clear hb); (try clear hb2); (try clear hk); (try clear hi)) | ((with_reducible refine gate_dst (N := 95) rfl ?_); (try (refine gate_guard (by rfl) ?_; dsimp only)); refine Kd.R_lit (Kd.int .u8) _ 5 ?hg (N := 95) ?hd (xs := ([(t117 / 256) % 256, (t117) % 256] : List Int)) (inner := [.int .u8 ((t117 / 256) % 256), .int .u8 ((t117) % 256)]) (ok := fun _ => True) (okp := fun _ => True) ?hr ?hp (fun _ hk => hk) trivial (Below.refl _ _) (Nat.le_refl _) (by simp) ?_; (case hd => rfl); (case hg => rfl); (case hr => first | (go_simp; done) | (go_simp; rfl)); (case hp => exact (Reps.one (show Kd.M (Kd.int .u8) _ _ _ ((t117 / 256) % 256) [.int .u8 ((t117 / 256) % 256)] from rfl) (Reps.one (show Kd.M (Kd.int .u8) _ _ _ ((t117) % 256) [.int .u8 ((t117) % 256)] from rfl) (Reps.none _ _)))); intro v134 w43 ho44 hb hg_ hnew_; clear hg_ hnew_; (first | rw [← Ny133.out] at ho44 | (simp only [Int.reduceToNat] at ho44; rw [← Ny133.out] at ho44)); have n0_ := Aside0.mk (Kd.R_elder' (by (with_reducible repeat (first | apply Kd.R_alloc | apply Kd.R_drewN | apply Kd.R_drew)); exact HO_8.out) (Kd.R_base ho44) hb); have n1_ := Aside0.mk (Kd.R_lower (Kd.R_new' ho44 (Kd.R_lt (by (with_reducible repeat (first | apply Kd.R_alloc | apply Kd.R_drewN | apply Kd.R_drew)); exact HO_8.out))) (below_size (by repeat (first | (with_reducible first | exact HB.out | apply below_alloc | apply pw_below_drewN | apply below_drew1) | exact HB.out)))); have n2_ := Aside0.mk (below_step (by repeat (first | (with_reducible first | exact HB.out | apply below_alloc | apply pw_below_drewN | apply below_drew1) | exact HB.out)) hb); clear HO_8; clear HB; have HO_8 := n0_; have HO135 := n1_; have HB := n2_; clear n0_ n1_ n2_; clear hb ho44; obtain ⟨Ao46, co46, eo46⟩ := Kd.R_slice HO135.out; subst eo46) | ((with_reducible refine gate_builtin (b := .append) (xs := #[.tmp 89, .tmp 95]) rfl ?_); (try (refine gate_guard (by rfl) ?_; dsimp only)); at_builtin; refine Kd.R_append_rows (Kd.int .u8) (w0 := w) w.heap.size rfl (.tmp 89) (.tmp 95) 32 5 (.int .u8 0) 1 rfl Try.underlying32 info5 rfl (by decide) (by omega) (.slice (some ⟨go31, 0, none⟩) x8_15.length co37) y131 y133 _ _ _ (fun k_ => some k_ ≠ (.slice Ao46 y133.length co46 : Value).ownBlock) (fun _ => False) rfl rfl ?aO ?aR (fun _ _ h => h) (fun _ h => h.elim) ?aF ?aB ?aS ?aL ?_; (case aR => repeat (first | exact (Kd.R_reads' HO135.out).2.2 | (with_reducible refine Kd.C_alloc ?_ _) | (with_reducible refine Kd.C_drewN ?_ _) | (with_reducible refine Kd.C_drew ?_))); (case aB => exact (by repeat (first | (with_reducible first | exact HB.out | apply below_alloc | apply pw_below_drewN | apply below_drew1) | exact HB.out))); (case aF => exact (fun k_ hk => Kd.fresh' (Kd.R_lt (by (with_reducible repeat (first | apply Kd.R_alloc | apply Kd.R_drewN | apply Kd.R_drew)); exact HO135.out)) k_ hk)); (case aO => exact (by (with_reducible repeat (first | apply Kd.R_alloc | apply Kd.R_drewN | apply Kd.R_drew)); exact Kd.R_mono HO_8.out (fun _ hk => hk.2))); (case aS => exact (below_size (by repeat (first | (with_reducible first | exact HB.out | apply below_alloc | apply pw_below_drewN | apply below_drew1) | exact HB.out)))); (case aL => have := LMc35.out; omega); intro v137 w45 ho hb hg hat; rw [← Ny136.out] at ho; have n0_ := Aside0.mk (Kd.R_after (ok := (fun _ => True)) (by (with_reducible repeat (first | apply Kd.R_alloc | apply Kd.R_drewN | apply Kd.R_drew)); exact HO135.out) hg hat); have n1_ := Aside0.mk (hb); have n2_ := Aside0.mk (ho); clear HO135; clear HB; clear HO_8; have HO135 := n0_; have HB := n1_; have HO138 := n2_; clear n0_ n1_ n2_; clear ho hb hg hat; obtain ⟨Ao47, co47, eo47⟩ := Kd.R_slice HO138.out; subst eo47) | ((with_reducible refine gate_callee (f := 20) rfl ?_); refine goesL_ (some 98) rfl rfl Try.func20 (by kernel_rfl) rfl #[.slice Ao47 y136.length co47] rfl (by (try simp only [List.map_toArray, List.map_cons, List.map_nil]); first | done | rfl | (simp only [List.length_drop, List.length_take]; rfl)) ?_; (with_reducible refine (wire_Sum.calls kj15 (fun k_ => some k_ = (.slice Ao47 y136.length co47 : Value).ownBlock) _ _ y136 t139 _ ?side1 A36.out).mono ?_); (case side1 => exact Kd.R_V (Kd.R_tight rfl (HO138.out))); rintro e w48 ⟨rfl, hb⟩; refine ⟨_, rfl, ?_⟩; have n0_ := Aside0.mk (Kd.R_below (by (with_reducible repeat (first | apply Kd.R_alloc | apply Kd.R_drewN | apply Kd.R_drew)); exact HO135.out) hb); have n1_ := Aside0.mk (Kd.R_below (by (with_reducible repeat (first | apply Kd.R_alloc | apply Kd.R_drewN | apply Kd.R_drew)); exact HO138.out) hb); have n2_ := Aside0.mk (below_step (by repeat (first | (with_reducible first | exact HB.out | apply below_alloc | apply pw_below_drewN | apply below_drew1) | exact HB.out)) hb); clear HO135; clear HO138; clear HB; have HO135 := n0_; have HO138 := n1_; have HB := n2_; clear n0_ n1_ n2_; (try clear hb); (try clear hb2); (try clear hk); (try clear hi)))
                                  go_ret
                                  exact ⟨by first | rfl | (simp [errW_none, errW_some] <;> rfl) | (simp only [← hji25, ← hji28]; first | rfl | (simp [errW_none, errW_some] <;> rfl)) | (simp [*, errW_none, errW_some] <;> rfl), by repeat (first | (with_reducible first | exact HB.out | apply below_alloc | apply pw_below_drewN | apply below_drew1) | exact HB.out)⟩
                                · rw [if_neg c35] at H
                                  exact absurd H (by simp)
                              · rw [if_neg c34] at H
                                have c34b0 : (t132 == t117) = false := beq_eq_false_iff_ne.mpr c34
                                have c34b1 : (t132 != t117) = true := bne_iff_ne.mpr c34
                                obtain rfl := Option.some.inj H
                                obtain ⟨Ao49, co49, eo49⟩ := Kd.R_slice HO_8.out
                                subst eo49
                                have p128 : 0 ≤ ((ji25) : Int) := of_decide_eq_true (by first | (with_reducible assumption) | assumption)
                                have q128 : (ji25) < (x8_15.length : Int) := of_decide_eq_true (by first | (with_reducible assumption) | assumption)
                                obtain ⟨ad128, e128, hx128_0⟩ := Kd.at_int (Kd.R_reads' HO_8.out).2.2 (ji25) p128 q128
                                cases e128
                                replace p128 := eq_true p128
                                replace q128 := eq_true q128
                                have p129 : 0 ≤ ((ji28) : Int) := of_decide_eq_true (by first | (with_reducible assumption) | assumption)
                                have q129 : (ji28) < (x8_15.length : Int) := of_decide_eq_true (by first | (with_reducible assumption) | assumption)
                                obtain ⟨ad129, e129, hx129_0⟩ := Kd.at_int (Kd.R_reads' HO_8.out).2.2 (ji28) p129 q129
                                obtain rfl : ad128 = ad129 := (by injection e129)
                                replace p129 := eq_true p129
                                replace q129 := eq_true q129
                                have p31 : 0 ≤ ((ji25) : Int) := of_decide_eq_true (by first | (with_reducible assumption) | assumption)
                                have q31 : ((ji25) : Int) < ((x8_15.length : Int) : Int) := of_decide_eq_true (by first | (with_reducible assumption) | assumption)
                                obtain ⟨go31, co31, eo31, gb31, gl31, cl31, HG31⟩ := Kd.R_form HO_8.out (by omega)
                                (first | cases eo31 | (injection eo31 with ea_ en_ ec_; (first | subst ea_ | (injection ea_ with ea_; subst ea_)); subst ec_; clear en_))
                                have GB31 := Aside0.mk gb31
                                have GG31 := Aside0.mk HG31
                                clear gb31 gl31 HG31
                                (first | simp only [add_plain] at hx128_0 | skip)
                                (first | simp only [add_plain] at hx129_0 | skip)
                                obtain ⟨hx31_0, hf31_0⟩ := Kd.R_celln 0 HO_8.out ((ji25) : Int) p31 q31
                                replace p31 := eq_true p31
                                replace q31 := eq_true q31
                                have HP50 := Kd.R_putg HO_8.out ((ji25) : Int) (rd x8_15 (ji28))
                                go_wp2_with (first | ((with_reducible refine gate_store (t := 5) (p := 80) rfl ?_); refine store_event (t := 5) (p := 80) (v := ?vo_w51) (w1 := (wc.setCell ⟨go31, ((ji25) : Int).toNat, none⟩ (.int .u8 (rd x8_15 (ji28))))) ?hg ?ho ?hn ?hr ?_; (case ho => rfl); (case hg => rfl); (case hn => rfl); (case hr => first | (go_simp; done) | (go_simp; rfl)); intro w51 hw; have hg : wc.grownBy w51 (some go31) := (by rw [hw]; exact HP50.2); have hp_ : Kd.R (Kd.int .u8) 5 w51 w.heap.size (fun _ => True) (.slice (some ⟨go31, 0, none⟩) x8_15.length co49) y130 := (by rw [hw, Ny130.out]; exact HP50.1); clear HP50; have n0_ := Aside0.mk (hp_); have n1_ := Aside0.mk ((by rw [hw]; exact below_set (HB.out) GB31.out : Below w.heap.size w w51)); clear HO_8; clear HB; have HO_8 := n0_; have HB := n1_; clear n0_ n1_; clear hg hw hp_; have p32 : 0 ≤ ((ji28) : Int) := of_decide_eq_true (by first | (with_reducible assumption) | assumption); have q32 : ((ji28) : Int) < ((x8_15.length : Int) : Int) := of_decide_eq_true (by first | (with_reducible assumption) | assumption); obtain ⟨hx32_0, hf32_0⟩ := Kd.R_celln 0 HO_8.out ((ji28) : Int) p32 q32; replace p32 := eq_true p32; replace q32 := eq_true q32; obtain ⟨hy52_, hz52_⟩ := Kd.R_celln 0 HO_8.out ((ji28) : Int) (of_decide_eq_true (by first | (with_reducible assumption) | assumption)) (of_decide_eq_true (by first | (with_reducible assumption) | assumption)); have HP52 := Kd.R_putg HO_8.out ((ji28) : Int) (rd x8_15 (ji25))) | ((with_reducible refine gate_store (t := 5) (p := 84) rfl ?_); refine store_event (t := 5) (p := 84) (v := ?vo_w53) (w1 := (w51.setCell ⟨go31, ((ji28) : Int).toNat, none⟩ (.int .u8 (rd x8_15 (ji25))))) ?hg ?ho ?hn ?hr ?_; (case ho => rfl); (case hg => rfl); (case hn => rfl); (case hr => first | (go_simp; done) | (go_simp; rfl)); intro w53 hw; have hg : w51.grownBy w53 (some go31) := (by rw [hw]; exact HP52.2); have hp_ : Kd.R (Kd.int .u8) 5 w53 w.heap.size (fun _ => True) (.slice (some ⟨go31, 0, none⟩) x8_15.length co49) y131 := (by rw [hw, Ny131.out]; exact HP52.1); clear HP52; have n0_ := Aside0.mk (hp_); have n1_ := Aside0.mk ((by rw [hw]; exact below_set (HB.out) GB31.out : Below w.heap.size w w53)); clear HO_8; clear HB; have HO_8 := n0_; have HB := n1_; clear n0_ n1_; clear hg hw hp_) | ((with_reducible refine gate_callee (f := 20) rfl ?_); refine goesL_ (some 86) rfl rfl Try.func20 (by kernel_rfl) rfl #[.slice (some ⟨go31, 0, none⟩) y131.length co49] rfl (by (try simp only [List.map_toArray, List.map_cons, List.map_nil]); first | done | (rw [show y131.length = x8_15.length from (Kd.R_reads' HO_8.out).1.symm] <;> rfl) | rfl | (simp only [List.length_drop, List.length_take]; rfl)) ?_; (with_reducible refine (wire_Sum.calls kj15 (fun k_ => some k_ = (.slice (some ⟨go31, 0, none⟩) x8_15.length co49 : Value).ownBlock) _ _ y131 t132 _ ?side1 A33.out).mono ?_); (case side1 => rw [show y131.length = x8_15.length from (Kd.R_reads' HO_8.out).1.symm]; exact Kd.R_V (Kd.R_tight rfl (HO_8.out))); rintro e w54 ⟨rfl, hb⟩; refine ⟨_, rfl, ?_⟩; have n0_ := Aside0.mk (Kd.R_below (by (with_reducible repeat (first | apply Kd.R_alloc | apply Kd.R_drewN | apply Kd.R_drew)); exact HO_8.out) hb); have n1_ := Aside0.mk (below_step (by repeat (first | (with_reducible first | exact HB.out | apply below_alloc | apply pw_below_drewN | apply below_drew1) | exact HB.out)) hb); clear HO_8; clear HB; have HO_8 := n0_; have HB := n1_; clear n0_ n1_; (try clear hb); (try clear hb2); (try clear hk); (try clear hi)))
                                go_ret
                                exact ⟨by first | rfl | (simp [errW_none, errW_some] <;> rfl) | (simp only [← hji25, ← hji28]; first | rfl | (simp [errW_none, errW_some] <;> rfl)) | (simp [*, errW_none, errW_some] <;> rfl), by repeat (first | (with_reducible first | exact HB.out | apply below_alloc | apply pw_below_drewN | apply below_drew1) | exact HB.out)⟩
                            · rw [if_neg c30] at H
                              exact absurd H (by simp)
                          · rw [if_neg c29] at H
                            exact absurd H (by simp)
                        · rw [if_neg c27] at H
                          exact absurd H (by simp)
                      · rw [if_neg c26] at H
                        exact absurd H (by simp)
              · rw [if_neg c15] at H
                exact absurd H (by simp)

/-- THE ONE PURE STATEMENT of sallyportlaw04_WireSums: yours. -/
def sallyportlaw04_WireSums.Pure : Prop := ∀ (l0 : List Int) (a1 : Int) (a2 : Int), l0.length ≤ maxLen → l0.length * 1 ≤ 140737488351232 → (∀ x ∈ l0, (Lit.int .u8 x).wf = true) → (Lit.int .i64 a1).wf = true → (Lit.int .i64 a2).wf = true → ∃ k, sallyportlaw04_WireSums.f k l0 a1 a2 = some true
theorem sallyportlaw04_WireSums.walk (P : sallyportlaw04_WireSums.Pure) (a0 : Option Addr) (len0 cap0 : Nat) (z0 : List Int) (a1 : Int) (a2 : Int) (w : World) (w0 : (a0 = none ∧ len0 = 0 ∧ cap0 = 0 ∧ z0 = []) ∨ ∃ x, a0 = some x ∧ len0 ≤ cap0 ∧ cap0 ≤ maxLen ∧ z0.length = cap0 ∧ (∀ i, i < z0.length → w.cell? (x.add i) = some (.int .u8 (z0.getD i 0))) ∧ ∀ n ∈ z0, (Lit.int .u8 n).wf = true) (y0 : len0 * 1 ≤ 140737488351232) (w1 : (Lit.int .i64 a1).wf = true) (w2 : (Lit.int .i64 a2).wf = true) :
    Calls Try.prog 4 #[.slice a0 len0 cap0, .int .i64 a1, .int .i64 a2] w fun e w' => e = .returned (.bool true) ∧ Below w.heap.size w w' := by
  obtain ⟨l0, rfl, hr0, hm0, hw0, hc0⟩ := ReadsInt.ofRowC w0
  obtain ⟨k, h⟩ := P l0 a1 a2 hm0 y0 hw0 w1 w2
  refine (sallyportlaw04_WireSums.calls k _ _ l0 a1 a2 true w (Kd.C_of_reads (d := (0 : Int)) (h1 := fun _ => rfl) hr0) hc0 h).mono ?_
  rintro e w' ⟨rfl, hd⟩
  exact ⟨rfl, hd⟩

end Go.Proofs.Ytlalaifbipmgeaa.PWireSums
