-- PRINTED BY print.sh 35421559b90ae4d0a3588c463048766b98c2df88dd9212a6774a882060cdf62d: not written by this session
import Derived.Test.YtlalaifbipmgeaaPWireSumsx0
namespace Go.Proofs.Ytlalaifbipmgeaa.PWireSums
open Go.RowKit Go.Proofs.YtlalaifbipmgeaaW.PrintWords Go.Proofs.YtlalaifbipmgeaaW.PrintLast Go.Proofs.YtlalaifbipmgeaaW.PrintMore
attribute [local go_sem] max2_int min2_int max_two min_two max_three min_three max_four min_four   -- for this text's walks alone
set_option linter.unusedVariables false
set_option linter.unusedSimpArgs false

/-! ### sallyportlaw04_long: function 19 -/
def sallyportlaw04_long.f (l0 : List Int) : Option (Bool) := some (decide ((l0.length : Int) > 65536))
set_option maxHeartbeats 8000000 in
set_option maxRecDepth 100000 in
theorem sallyportlaw04_long.calls (A0 : Option Addr) (c0 : Nat) (l0 : List Int) (r : Bool) (w : World) (hr0 : Kd.C (Kd.int .u8) w A0 l0.length l0) (hc0 : l0.length ≤ c0) (h : sallyportlaw04_long.f l0 = some r) :
    Calls Try.prog 19 #[.slice A0 l0.length c0] w fun e w' => e = .returned (.bool r) ∧ Drawn0 w w' := by
  have HR0 := Aside0.mk hr0
  have HC0 := Aside0.mk hc0
  clear hr0 hc0
  have H : (some (decide ((l0.length : Int) > 65536))) = some r := h
  clear h
  obtain rfl := Option.some.inj H
  go_enter Try.func19, Try.ntmps19
  go_wp2
  go_ret
  exact ⟨by first | rfl | (simp; done) | (simp [*]; done), by repeat (first | exact Drawn0.refl _ | apply Drawn0.step)⟩

/-! ### wire_get: function 53 -/
def wire_get.l0 : Nat → Int → List Int → Int → Int → Option (Int)
  | 0, _, _, _, _ => none
  | k + 1, x3, x6, x7, x8 => if x8 < x7 then (if 0 ≤ x8 then (if x8 < (x6.length : Int) then (wire_get.l0 k (Go.bits .or .i64 (wrap64 (x3 * 256)) (wrap64 (rd x6 x8))) x6 x7 (wrap64 (x8 + 1))) else (none)) else (none)) else (some x3)
def wire_get.f (k : Nat) (l0 : List Int) : Option (Int) := wire_get.l0 k 0 l0 (l0.length : Int) 0
theorem wire_get.mono_l : ∀ k, (∀ y0 y1 y2 y3, LeO (wire_get.l0 k y0 y1 y2 y3) (wire_get.l0 (k + 1) y0 y1 y2 y3))
  | 0 => fun _ _ _ _ r h => by simp [wire_get.l0] at h
  | k + 1 => by
    have ih0 := wire_get.mono_l k
    · intro y0 y1 y2 y3
      unfold wire_get.l0
      repeat' first
      | (with_reducible exact ih0 _ _ _ _)
      | (with_reducible exact LeO.refl _)
      | (with_reducible exact LeO.none _)
      | (with_reducible refine LeO.ite ?_ ?_)
      | (with_reducible refine LeO.bind ?_ (fun _ => ?_))
      | exact ih0 _ _ _ _
      | exact LeO.none _
      | refine LeO.ite ?_ ?_
      | refine LeO.bind ?_ (fun _ => ?_)
theorem wire_get.mono : ∀ a0 k, LeO (wire_get.f k a0) (wire_get.f (k + 1) a0) := by
  intro a0 k
  have ih0 := wire_get.mono_l k
  unfold wire_get.f
  repeat' first
      | (with_reducible exact ih0 _ _ _ _)
      | (with_reducible exact LeO.refl _)
      | (with_reducible exact LeO.none _)
      | (with_reducible refine LeO.ite ?_ ?_)
      | (with_reducible refine LeO.bind ?_ (fun _ => ?_))
      | exact ih0 _ _ _ _
      | exact LeO.none _
      | refine LeO.ite ?_ ?_
      | refine LeO.bind ?_ (fun _ => ?_)
set_option maxHeartbeats 8000000 in
set_option maxRecDepth 100000 in
theorem wire_get.calls (k : Nat) (A0 : Option Addr) (c0 : Nat) (l0 : List Int) (r : Int) (w : World) (hr0 : Kd.C (Kd.int .u8) w A0 l0.length l0) (hc0 : l0.length ≤ c0) (h : wire_get.f k l0 = some r) :
    Calls Try.prog 53 #[.slice A0 l0.length c0] w fun e w' => e = .returned (.int .i64 r) ∧ Drawn0 w w' := by
  have HR0 := Aside0.mk hr0
  have HC0 := Aside0.mk hc0
  clear hr0 hc0
  have H : (wire_get.l0 k 0 l0 (l0.length : Int) 0) = some r := h
  clear h
  have H' := Aside0.mk H
  clear H
  go_enter Try.func53, Try.ntmps53
  go_wp2
  go_loopg [3, 8] k (fun kq v3 v8 w' => ∃ (x3_1 : Int) (x8_1 : Int), v3 = .int .i64 x3_1 ∧ v8 = .int .i64 x8_1 ∧ Aside0 (wire_get.l0 kq x3_1 l0 (l0.length : Int) x8_1 = some r) ∧ Aside0 (kq ≤ k) ∧ Drawn0 w w')
  case atStart => exact ⟨(0), (0), (by first | rfl | (simp; done) | (simp [*]; done)), (by first | rfl | (simp; done) | (simp [*]; done)), H', ⟨Nat.le_refl _⟩, by repeat (first | exact Drawn0.refl _ | apply Drawn0.step)⟩
  case round =>
    clear H'
    obtain ⟨x3_1, x8_1, rfl, rfl, HA, HK1, ⟨m1, rfl⟩⟩ := hrel
    cases gk with
    | zero => exact absurd HA.out (by simp [wire_get.l0])
    | succ k1 =>
      have H := HA.out
      clear HA
      simp only [wire_get.l0] at H
      by_cases c2 : x8_1 < (l0.length : Int)
      · rw [if_pos c2] at H
        have c2b0 : decide (x8_1 < (l0.length : Int)) = true := decide_eq_true c2
        clear c2
        by_cases c3 : 0 ≤ x8_1
        · rw [if_pos c3] at H
          have c3b0 : decide (0 ≤ x8_1) = true := decide_eq_true c3
          clear c3
          by_cases c4 : x8_1 < (l0.length : Int)
          · rw [if_pos c4] at H
            have c4b0 : decide (x8_1 < (l0.length : Int)) = true := decide_eq_true c4
            clear c4
            have H' := Aside0.mk H
            clear H
            have p101 : 0 ≤ (x8_1 : Int) := of_decide_eq_true (by first | (with_reducible assumption) | assumption)
            have q101 : x8_1 < (l0.length : Int) := of_decide_eq_true (by first | (with_reducible assumption) | assumption)
            obtain ⟨ad101, e101, hx101_0⟩ := Kd.at_int HR0.out x8_1 p101 q101
            cases e101
            replace p101 := eq_true p101
            replace q101 := eq_true q101
            go_wp2
            go_roundg k1
            case measure => have := HK1.out; omega
            case rel => exact ⟨(Go.bits .or .i64 (wrap64 (x3_1 * 256)) (wrap64 (rd l0 x8_1))), (wrap64 (x8_1 + 1)), (by first | rfl | (simp; done) | (simp [*]; done)), (by first | rfl | (simp; done) | (simp [*]; done)), H', ⟨by have := HK1.out; omega⟩, by repeat (first | exact Drawn0.refl _ | apply Drawn0.step)⟩
          · rw [if_neg c4] at H
            exact absurd H (by simp)
        · rw [if_neg c3] at H
          exact absurd H (by simp)
      · rw [if_neg c2] at H
        have c2b0 : decide (x8_1 < (l0.length : Int)) = false := decide_eq_false c2
        clear c2
        obtain rfl := Option.some.inj H
        go_wp2
        go_ret
        exact ⟨by first | rfl | (simp; done) | (simp [*]; done), by repeat (first | exact Drawn0.refl _ | apply Drawn0.step)⟩

/-! ### wire_Sum: function 20 -/
mutual
def wire_Sum.l0 : Nat → List Int → Int → Option (Int)
  | 0, _, _ => none
  | k + 1, x0, x3 => if (x0.length : Int) > 1 then (if 2 ≤ (x0.length : Int) then ((wire_get.f k (x0.take 2)).bind fun t107 => (wire_Sum.l0 k (x0.drop 2) (wrap64 (x3 + t107)))) else (none)) else (if (x0.length : Int) = 1 then (if 0 < (x0.length : Int) then (wire_Sum.j1 k (wrap64 (x3 + (wrap64 ((wrap64 (rd x0 0)) * 256))))) else (none)) else (wire_Sum.j1 k x3))
def wire_Sum.j1 : Nat → Int → Option (Int)
  | 0, _ => none
  | k + 1, x3 => wire_Sum.l1 k x3
def wire_Sum.l1 : Nat → Int → Option (Int)
  | 0, _ => none
  | k + 1, x3 => if (x3 / 65536) = 0 then (some (wrap64 (65535 - x3))) else (wire_Sum.l1 k (wrap64 ((x3 / 65536) + (Go.bits .and .i64 x3 65535))))
end
def wire_Sum.f (k : Nat) (l0 : List Int) : Option (Int) := wire_Sum.l0 k l0 0
theorem wire_Sum.mono_l : ∀ k, (∀ y0 y1, LeO (wire_Sum.l0 k y0 y1) (wire_Sum.l0 (k + 1) y0 y1)) ∧ (∀ y0, LeO (wire_Sum.j1 k y0) (wire_Sum.j1 (k + 1) y0)) ∧ (∀ y0, LeO (wire_Sum.l1 k y0) (wire_Sum.l1 (k + 1) y0))
  | 0 => ⟨fun _ _ r h => by simp [wire_Sum.l0] at h, fun _ r h => by simp [wire_Sum.j1] at h, fun _ r h => by simp [wire_Sum.l1] at h⟩
  | k + 1 => by
    obtain ⟨ih0, ih1, ih2⟩ := wire_Sum.mono_l k
    refine ⟨?_, ?_, ?_⟩
    · intro y0 y1
      unfold wire_Sum.l0
      repeat' first
      | (with_reducible exact ih0 _ _)
      | (with_reducible exact ih1 _)
      | (with_reducible exact ih2 _)
      | (with_reducible exact wire_get.mono _ _)
      | (with_reducible exact LeO.refl _)
      | (with_reducible exact LeO.none _)
      | (with_reducible refine LeO.ite ?_ ?_)
      | (with_reducible refine LeO.bind ?_ (fun _ => ?_))
      | exact ih0 _ _
      | exact ih1 _
      | exact ih2 _
      | exact wire_get.mono _ _
      | exact LeO.none _
      | refine LeO.ite ?_ ?_
      | refine LeO.bind ?_ (fun _ => ?_)
    · intro y0
      unfold wire_Sum.j1
      repeat' first
      | (with_reducible exact ih0 _ _)
      | (with_reducible exact ih1 _)
      | (with_reducible exact ih2 _)
      | (with_reducible exact wire_get.mono _ _)
      | (with_reducible exact LeO.refl _)
      | (with_reducible exact LeO.none _)
      | (with_reducible refine LeO.ite ?_ ?_)
      | (with_reducible refine LeO.bind ?_ (fun _ => ?_))
      | exact ih0 _ _
      | exact ih1 _
      | exact ih2 _
      | exact wire_get.mono _ _
      | exact LeO.none _
      | refine LeO.ite ?_ ?_
      | refine LeO.bind ?_ (fun _ => ?_)
    · intro y0
      unfold wire_Sum.l1
      repeat' first
      | (with_reducible exact ih0 _ _)
      | (with_reducible exact ih1 _)
      | (with_reducible exact ih2 _)
      | (with_reducible exact wire_get.mono _ _)
      | (with_reducible exact LeO.refl _)
      | (with_reducible exact LeO.none _)
      | (with_reducible refine LeO.ite ?_ ?_)
      | (with_reducible refine LeO.bind ?_ (fun _ => ?_))
      | exact ih0 _ _
      | exact ih1 _
      | exact ih2 _
      | exact wire_get.mono _ _
      | exact LeO.none _
      | refine LeO.ite ?_ ?_
      | refine LeO.bind ?_ (fun _ => ?_)
theorem wire_Sum.mono : ∀ a0 k, LeO (wire_Sum.f k a0) (wire_Sum.f (k + 1) a0) := by
  intro a0 k
  obtain ⟨ih0, ih1, ih2⟩ := wire_Sum.mono_l k
  unfold wire_Sum.f
  repeat' first
      | (with_reducible exact ih0 _ _)
      | (with_reducible exact ih1 _)
      | (with_reducible exact ih2 _)
      | (with_reducible exact wire_get.mono _ _)
      | (with_reducible exact LeO.refl _)
      | (with_reducible exact LeO.none _)
      | (with_reducible refine LeO.ite ?_ ?_)
      | (with_reducible refine LeO.bind ?_ (fun _ => ?_))
      | exact ih0 _ _
      | exact ih1 _
      | exact ih2 _
      | exact wire_get.mono _ _
      | exact LeO.none _
      | refine LeO.ite ?_ ?_
      | refine LeO.bind ?_ (fun _ => ?_)
set_option maxHeartbeats 8000000 in
set_option maxRecDepth 100000 in
theorem wire_Sum.calls (k : Nat) (P0_ : Nat → Prop) (A0 : Option Addr) (c0 : Nat) (l0 : List Int) (r : Int) (w : World) (hs0 : Kd.V (Kd.int .u8) 5 w w.heap.size (fun k_ => P0_ k_) (.slice A0 l0.length c0) l0) (h : wire_Sum.f k l0 = some r) :
    Calls Try.prog 20 #[.slice A0 l0.length c0] w fun e w' => e = .returned (.int .i64 r) ∧ Below w.heap.size w w' := by
  have HO0 := Aside0.mk (show Kd.V (Kd.int .u8) 5 w w.heap.size (fun k_ => (P0_ k_ ∨ w.heap.size ≤ k_)) (.slice A0 l0.length c0) l0 from Kd.V_mono hs0 (fun k_ hk => .inl hk))
  have HB := Aside0.mk (Below.refl w.heap.size w)
  have H : (wire_Sum.l0 k l0 0) = some r := h
  clear h
  have H' := Aside0.mk H
  clear H
  go_enter Try.func20, Try.ntmps20
  go_wp2
  go_loopg [0, 3] k (fun kq v0 v3 w' => ∃ (x0_1 : List Int) (x3_1 : Int), v3 = .int .i64 x3_1 ∧ Aside0 (wire_Sum.l0 kq x0_1 x3_1 = some r) ∧ Aside0 (kq ≤ k) ∧ Aside0 (Kd.V (Kd.int .u8) 5 w' w.heap.size (fun k_ => (P0_ k_ ∨ w.heap.size ≤ k_)) v0 x0_1) ∧ Aside0 (Below w.heap.size w w'))
  case atStart => exact ⟨(l0), (0), (by first | rfl | (simp; done) | (simp [*]; done)), H', ⟨Nat.le_refl _⟩, ⟨by (with_reducible repeat (first | apply Kd.V_alloc | apply Kd.V_drewN | apply Kd.V_drew)); exact HO0.out⟩, ⟨by repeat (first | (with_reducible first | exact HB.out | apply below_alloc | apply pw_below_drewN | apply below_drew1) | exact HB.out)⟩⟩
  case round =>
    clear H'
    obtain ⟨x0_1, x3_1, rfl, HA, HK1, HO_0, HB⟩ := hrel
    cases gk with
    | zero => exact absurd HA.out (by simp [wire_Sum.l0])
    | succ k1 =>
      have H := HA.out
      clear HA
      simp only [wire_Sum.l0] at H
      by_cases c2 : (x0_1.length : Int) > 1
      · rw [if_pos c2] at H
        have c2b0 : decide (1 < (x0_1.length : Int)) = true := decide_eq_true c2
        have c2b1 : decide (1 < x0_1.length) = true := decide_eq_true (by omega)
        clear c2
        by_cases c3 : 2 ≤ (x0_1.length : Int)
        · rw [if_pos c3] at H
          have c3b0 := eq_true c3
          have c3b1 : decide (2 ≤ (x0_1.length : Int)) = true := decide_eq_true c3
          clear c3
          obtain ⟨y102, hy102⟩ : ∃ y_ : List Int, y_ = (x0_1.take 2) := ⟨_, rfl⟩
          replace H : ((wire_get.f k1 y102).bind fun t107 => (wire_Sum.l0 k1 (x0_1.drop 2) (wrap64 (x3_1 + t107)))) = some r := by first | (rw [hy102]; with_reducible exact H) | (have H2_ := (Option.bind_some _ _).symm.trans H; rw [hy102]; with_reducible exact H2_) | (have H2_ := (Option.bind_some _ _).symm.trans H; with_reducible exact H2_) | with_reducible exact H | (rw [hy102]; exact H) | exact H
          have Ny102 := Aside0.mk hy102
          clear hy102
          replace H := Option.bind_eq_some_iff.mp H
          obtain ⟨t107, A40, H⟩ := H
          replace H : (wire_Sum.l0 k1 (x0_1.drop 2) (wrap64 (x3_1 + t107))) = some r := H
          have A4 := Aside0.mk A40
          clear A40
          have c5b0 := eq_true (of_decide_eq_true (by first | (with_reducible assumption) | assumption) : 2 ≤ (x0_1.length : Int))
          obtain ⟨y108, hy108⟩ : ∃ y_ : List Int, y_ = (x0_1.drop 2) := ⟨_, rfl⟩
          replace H : (wire_Sum.l0 k1 y108 (wrap64 (x3_1 + t107))) = some r := by first | (rw [hy108]; with_reducible exact H) | (have H2_ := (Option.bind_some _ _).symm.trans H; rw [hy108]; with_reducible exact H2_) | (have H2_ := (Option.bind_some _ _).symm.trans H; with_reducible exact H2_) | with_reducible exact H | (rw [hy108]; exact H) | exact H
          have Ny108 := Aside0.mk hy108
          clear hy108
          have H' := Aside0.mk H
          clear H
          obtain ⟨Ao6, co6, eo6⟩ := Kd.V_slice HO_0.out
          subst eo6
          have q7 : (2 : Int) ≤ ((x0_1.length : Int) : Int) := of_decide_eq_true (by first | (with_reducible assumption) | assumption)
          obtain ⟨i07, hi07, _, hsz7, _⟩ := info_parts info5
          have hroom7 : x0_1.length ≤ co6 := (Kd.V_reads' HO_0.out).2.1
          have hC7 : Kd.F (Kd.int .u8) _ _ Ao6 x0_1.length x0_1 := (Kd.V_at (base := w.heap.size) HO_0.out).2.2
          have hcut7 := cut_to (P := Try.prog) 32 5 .i64 Try.underlying32 hi07 Ao6 x0_1.length co6 2 (by omega) q7 hroom7
          have hr7 := Kd.F_take (m := 2) hC7 (by omega)
          have hy7 : y102.length = (2 : Int).toNat := (by rw [Ny102.out, List.length_take]; omega)
          rw [← Ny102.out] at hr7
          rw [← hy7] at hcut7
          have HO106 := Aside0.mk (show Kd.V (Kd.int .u8) 5 _ w.heap.size _ (.slice Ao6 y102.length co6) y102 from Kd.V_mk (by omega) hr7)
          have HC106 := Aside0.mk (show y102.length ≤ co6 from by omega)
          clear hr7 hC7 hroom7 hi07 hsz7
          have KY7 := Aside0.mk hy7
          clear hy7
          replace q7 := eq_true q7
          go_wp2_with (first | ((with_reducible refine gate_callee (f := 53) rfl ?_); refine goesL_ (some 12) rfl rfl Try.func53 (by kernel_rfl) rfl #[.slice Ao6 y102.length co6] rfl (by (try simp only [List.map_toArray, List.map_cons, List.map_nil]); first | done | rfl | (simp only [List.length_drop, List.length_take]; rfl)) ?_; (with_reducible refine (wire_get.calls k1 _ _ y102 t107 _ ?side1 ?side2 A4.out).mono ?_); (case side1 => repeat (first | exact (Kd.V_reads' HO106.out).2.2 | (with_reducible refine Kd.C_alloc ?_ _) | (with_reducible refine Kd.C_drewN ?_ _) | (with_reducible refine Kd.C_drew ?_))); (case side2 => exact (Kd.V_reads' HO106.out).2.1); rintro e w' ⟨rfl, ⟨nd, rfl⟩⟩; refine ⟨_, rfl, ?_⟩; have q8 : (2 : Int) ≤ ((x0_1.length : Int) : Int) := of_decide_eq_true (by first | (with_reducible assumption) | assumption); obtain ⟨i08, hi08, _, hsz8, _⟩ := info_parts info5; have hroom8 : x0_1.length ≤ co6 := (Kd.V_reads' HO_0.out).2.1; have hC8 : Kd.F (Kd.int .u8) _ _ Ao6 x0_1.length x0_1 := (Kd.V_at (base := w.heap.size) HO_0.out).2.2; have hcut8 := cut_from (P := Try.prog) 32 5 .i64 Try.underlying32 hi08 1 hsz8 Ao6 x0_1.length co6 2 (by omega) q8; have hr8 := Kd.F_cut (m := (2 : Int).toNat) (c := co6) hC8 (by omega) hroom8; obtain ⟨A8, hA8⟩ : ∃ A1, A1 = (if co6 = (2 : Int).toNat then Ao6 else (Ao6 : Option Addr).map (·.add ((2 : Int).toNat * 1))) := ⟨_, rfl⟩; obtain ⟨c8, hc8⟩ : ∃ c1, c1 = co6 - (2 : Int).toNat := ⟨_, rfl⟩; have hy8 : y108.length = x0_1.length - (2 : Int).toNat := (by rw [Ny108.out, List.length_drop] <;> omega); rw [show (x0_1).drop (2 : Int).toNat = y108 from Ny108.out.symm] at hr8; replace hr8 : Kd.F (Kd.int .u8) _ _ A8 y108.length y108 := (by rw [hA8]; exact hr8); rw [← hy8, ← hA8, ← hc8] at hcut8; have HO112 := Aside0.mk (show Kd.V (Kd.int .u8) 5 _ w.heap.size _ (.slice A8 y108.length c8) y108 from Kd.V_mk (by rw [hy8, hc8]; exact Nat.sub_le_sub_right hroom8 _) hr8); have HC112 := Aside0.mk (show y108.length ≤ c8 from by rw [hy8, hc8]; exact Nat.sub_le_sub_right hroom8 _); clear hr8 hC8 hroom8 hi08 hsz8 hc8; have KY8 := Aside0.mk hy8; have KA8 := Aside0.mk hA8; clear hy8 hA8; replace q8 := eq_true q8))
          go_roundg k1
          case measure => have := HK1.out; omega
          case rel => exact ⟨(y108), (wrap64 (x3_1 + t107)), (by first | rfl | (simp; done) | (simp [*]; done)), H', ⟨by have := HK1.out; omega⟩, ⟨by (with_reducible repeat (first | apply Kd.V_alloc | apply Kd.V_drewN | apply Kd.V_drew)); exact HO112.out⟩, ⟨by repeat (first | (with_reducible first | exact HB.out | apply below_alloc | apply pw_below_drewN | apply below_drew1) | exact HB.out)⟩⟩
        · rw [if_neg c3] at H
          exact absurd H (by simp)
      · rw [if_neg c2] at H
        have c2b0 : decide (1 < (x0_1.length : Int)) = false := decide_eq_false c2
        have c2b1 : decide (1 < x0_1.length) = false := decide_eq_false (by omega)
        clear c2
        have HC9 := Aside0.mk H
        clear H
        obtain ⟨Ao10, co10, eo10⟩ := Kd.V_slice HO_0.out
        subst eo10
        go_upto_if 16 with (fail)
        go_cut [3] (fun v3 wc => ∃ (kq : Nat) (x3_8 : Int), v3 = .int .i64 x3_8 ∧ Aside0 (wire_Sum.j1 kq x3_8 = some r) ∧ Aside0 (kq ≤ k1) ∧ Aside0 (Below w.heap.size w wc))
        case first =>
          have H := HC9.out
          clear HC9
          by_cases c11 : (x0_1.length : Int) = 1
          · rw [if_pos c11] at H
            have c11b0 : ((x0_1.length : Int) == 1) = true := beq_iff_eq.mpr c11
            have c11b1 : ((x0_1.length : Int) != 1) = false := bne_eq_false_iff_eq.mpr c11
            clear c11
            (first | rw [c11b0] | (simp only [i64_w, i32_w]; rw [c11b0]) | skip)
            by_cases c12 : 0 < (x0_1.length : Int)
            · rw [if_pos c12] at H
              have c12b0 : decide (0 < (x0_1.length : Int)) = true := decide_eq_true c12
              have c12b1 : decide (0 < x0_1.length) = true := decide_eq_true (by omega)
              clear c12
              have H' := Aside0.mk H
              clear H
              have p113 : 0 ≤ (0 : Int) := (by omega)
              have q113 : 0 < (x0_1.length : Int) := of_decide_eq_true (by first | (with_reducible assumption) | assumption)
              obtain ⟨ad113, e113, hx113_0⟩ := Kd.at_int (Kd.V_reads' HO_0.out).2.2 0 p113 q113
              cases e113
              have qi113 : (0 < x0_1.length) = True := eq_true (by omega)
              (try rw [show ((0 : Int)).toNat = 0 from rfl] at hx113_0)
              (try rw [Addr.add_zero'] at hx113_0)
              replace p113 := eq_true p113
              replace q113 := eq_true q113
              go_wp2
              go_meet
              case rel => exact ⟨_, (wrap64 (x3_1 + (wrap64 ((wrap64 (rd x0_1 0)) * 256)))), (by first | rfl | (simp; done) | (simp [*]; done)), H', ⟨by have := HK1.out; first | omega | exact Nat.le_refl _⟩, ⟨by repeat (first | (with_reducible first | exact HB.out | apply below_alloc | apply pw_below_drewN | apply below_drew1) | exact HB.out)⟩⟩
            · rw [if_neg c12] at H
              exact absurd H (by simp)
          · rw [if_neg c11] at H
            have c11b0 : ((x0_1.length : Int) == 1) = false := beq_eq_false_iff_ne.mpr c11
            have c11b1 : ((x0_1.length : Int) != 1) = true := bne_iff_ne.mpr c11
            (first | rw [c11b0] | (simp only [i64_w, i32_w]; rw [c11b0]) | skip)
            have H' := Aside0.mk H
            clear H
            go_wp2
            go_meet
            case rel => exact ⟨_, (x3_1), (by first | rfl | (simp; done) | (simp [*]; done)), H', ⟨by have := HK1.out; first | omega | exact Nat.le_refl _⟩, ⟨by repeat (first | (with_reducible first | exact HB.out | apply below_alloc | apply pw_below_drewN | apply below_drew1) | exact HB.out)⟩⟩
        case rest =>
          clear HC9
          try clear c1
          try clear p1
          try clear q1
          try clear hx1
          try clear qi1
          try clear c2
          try clear c2b0
          try clear c2b1
          try clear p2
          try clear c3
          try clear c3b0
          try clear c3b1
          try clear c5
          try clear c5b0
          try clear p6
          try clear q7
          try clear c8
          try clear q8
          try clear c11
          try clear c11b0
          try clear c11b1
          try clear p11
          try clear q11
          try clear hx11
          try clear qi11
          try clear c12
          try clear c12b0
          try clear c12b1
          try clear hx113_0
          try clear p113
          try clear q113
          try clear q7
          try clear q8
          obtain ⟨kq, x3_8, rfl, HA, HJ8, HB⟩ := hcut
          cases kq with
          | zero => exact absurd HA.out (by simp [wire_Sum.j1])
          | succ kj8 =>
            have H := HA.out
            clear HA
            simp only [wire_Sum.j1] at H
            have H' := Aside0.mk H
            clear H
            go_wp2
            go_loopg [3] kj8 (fun kq v3 w' => ∃ (x3_3 : Int), v3 = .int .i64 x3_3 ∧ Aside0 (wire_Sum.l1 kq x3_3 = some r) ∧ Aside0 (kq ≤ kj8) ∧ Aside0 (Below w.heap.size w w'))
            case atStart => exact ⟨(x3_8), (by first | rfl | (simp; done) | (simp [*]; done)), H', ⟨Nat.le_refl _⟩, ⟨by repeat (first | (with_reducible first | exact HB.out | apply below_alloc | apply pw_below_drewN | apply below_drew1) | exact HB.out)⟩⟩
            case round =>
              clear H'
              try clear c1
              try clear p1
              try clear q1
              try clear hx1
              try clear qi1
              try clear c2
              try clear c2b0
              try clear c2b1
              try clear p2
              try clear c3
              try clear c3b0
              try clear c3b1
              try clear c5
              try clear c5b0
              try clear p6
              try clear q7
              try clear c8
              try clear q8
              try clear c11
              try clear c11b0
              try clear c11b1
              try clear p11
              try clear q11
              try clear hx11
              try clear qi11
              try clear c12
              try clear c12b0
              try clear c12b1
              try clear hx113_0
              try clear p1
              try clear p11
              try clear p113
              try clear p2
              try clear p6
              try clear q1
              try clear q11
              try clear q113
              try clear q7
              try clear q8
              obtain ⟨x3_3, rfl, HA, HK3, HB⟩ := hrel
              cases gk with
              | zero => exact absurd HA.out (by simp [wire_Sum.l1])
              | succ k3 =>
                have H := HA.out
                clear HA
                simp only [wire_Sum.l1] at H
                by_cases c13 : (x3_3 / 65536) = 0
                · rw [if_pos c13] at H
                  have c13b0 : ((x3_3 / 65536) == 0) = true := beq_iff_eq.mpr c13
                  have c13b1 : ((x3_3 / 65536) != 0) = false := bne_eq_false_iff_eq.mpr c13
                  clear c13
                  obtain rfl := Option.some.inj H
                  go_wp2
                  go_ret
                  exact ⟨by first | rfl | (simp [errW_none, errW_some] <;> rfl) | (simp [*, errW_none, errW_some] <;> rfl), by repeat (first | (with_reducible first | exact HB.out | apply below_alloc | apply pw_below_drewN | apply below_drew1) | exact HB.out)⟩
                · rw [if_neg c13] at H
                  have c13b0 : ((x3_3 / 65536) == 0) = false := beq_eq_false_iff_ne.mpr c13
                  have c13b1 : ((x3_3 / 65536) != 0) = true := bne_iff_ne.mpr c13
                  have H' := Aside0.mk H
                  clear H
                  go_wp2
                  go_roundg k3
                  case measure => have := HK1.out; have := HJ8.out; have := HK3.out; omega
                  case rel => exact ⟨(wrap64 ((x3_3 / 65536) + (Go.bits .and .i64 x3_3 65535))), (by first | rfl | (simp; done) | (simp [*]; done)), H', ⟨by have := HK1.out; have := HJ8.out; have := HK3.out; omega⟩, ⟨by repeat (first | (with_reducible first | exact HB.out | apply below_alloc | apply pw_below_drewN | apply below_drew1) | exact HB.out)⟩⟩

/-! ### sallyportref04_Sum: function 21 -/
mutual
def sallyportref04_Sum.l0 : Nat → List Int → Int → Int → Option (Int)
  | 0, _, _, _ => none
  | k + 1, x0, x3, x4 => if x4 < (x0.length : Int) then (if 0 ≤ x4 then (if (wrap64 (x4 + 1)) < (x0.length : Int) then (if 0 ≤ (wrap64 (x4 + 1)) then (sallyportref04_Sum.l0 k x0 (wrap64 ((wrap64 (x3 + (wrap64 ((wrap64 (rd x0 x4)) * 256)))) + (wrap64 (rd x0 (wrap64 (x4 + 1)))))) (wrap64 (x4 + 2))) else (none)) else (sallyportref04_Sum.l0 k x0 (wrap64 (x3 + (wrap64 ((wrap64 (rd x0 x4)) * 256)))) (wrap64 (x4 + 2)))) else (none)) else (sallyportref04_Sum.l1 k x3)
def sallyportref04_Sum.l1 : Nat → Int → Option (Int)
  | 0, _ => none
  | k + 1, x3 => if x3 > 65535 then (sallyportref04_Sum.l1 k (wrap64 ((wrap64 (Int.tdiv x3 65536)) + (Int.tmod x3 65536)))) else (some (wrap64 (65535 - x3)))
end
def sallyportref04_Sum.f (k : Nat) (l0 : List Int) : Option (Int) := sallyportref04_Sum.l0 k l0 0 0
theorem sallyportref04_Sum.mono_l : ∀ k, (∀ y0 y1 y2, LeO (sallyportref04_Sum.l0 k y0 y1 y2) (sallyportref04_Sum.l0 (k + 1) y0 y1 y2)) ∧ (∀ y0, LeO (sallyportref04_Sum.l1 k y0) (sallyportref04_Sum.l1 (k + 1) y0))
  | 0 => ⟨fun _ _ _ r h => by simp [sallyportref04_Sum.l0] at h, fun _ r h => by simp [sallyportref04_Sum.l1] at h⟩
  | k + 1 => by
    obtain ⟨ih0, ih1⟩ := sallyportref04_Sum.mono_l k
    refine ⟨?_, ?_⟩
    · intro y0 y1 y2
      unfold sallyportref04_Sum.l0
      repeat' first
      | (with_reducible exact ih0 _ _ _)
      | (with_reducible exact ih1 _)
      | (with_reducible exact LeO.refl _)
      | (with_reducible exact LeO.none _)
      | (with_reducible refine LeO.ite ?_ ?_)
      | (with_reducible refine LeO.bind ?_ (fun _ => ?_))
      | exact ih0 _ _ _
      | exact ih1 _
      | exact LeO.none _
      | refine LeO.ite ?_ ?_
      | refine LeO.bind ?_ (fun _ => ?_)
    · intro y0
      unfold sallyportref04_Sum.l1
      repeat' first
      | (with_reducible exact ih0 _ _ _)
      | (with_reducible exact ih1 _)
      | (with_reducible exact LeO.refl _)
      | (with_reducible exact LeO.none _)
      | (with_reducible refine LeO.ite ?_ ?_)
      | (with_reducible refine LeO.bind ?_ (fun _ => ?_))
      | exact ih0 _ _ _
      | exact ih1 _
      | exact LeO.none _
      | refine LeO.ite ?_ ?_
      | refine LeO.bind ?_ (fun _ => ?_)
theorem sallyportref04_Sum.mono : ∀ a0 k, LeO (sallyportref04_Sum.f k a0) (sallyportref04_Sum.f (k + 1) a0) := by
  intro a0 k
  obtain ⟨ih0, ih1⟩ := sallyportref04_Sum.mono_l k
  unfold sallyportref04_Sum.f
  repeat' first
      | (with_reducible exact ih0 _ _ _)
      | (with_reducible exact ih1 _)
      | (with_reducible exact LeO.refl _)
      | (with_reducible exact LeO.none _)
      | (with_reducible refine LeO.ite ?_ ?_)
      | (with_reducible refine LeO.bind ?_ (fun _ => ?_))
      | exact ih0 _ _ _
      | exact ih1 _
      | exact LeO.none _
      | refine LeO.ite ?_ ?_
      | refine LeO.bind ?_ (fun _ => ?_)
set_option maxHeartbeats 8000000 in
set_option maxRecDepth 100000 in
theorem sallyportref04_Sum.calls (k : Nat) (A0 : Option Addr) (c0 : Nat) (l0 : List Int) (r : Int) (w : World) (hr0 : Kd.C (Kd.int .u8) w A0 l0.length l0) (hc0 : l0.length ≤ c0) (h : sallyportref04_Sum.f k l0 = some r) :
    Calls Try.prog 21 #[.slice A0 l0.length c0] w fun e w' => e = .returned (.int .i64 r) ∧ Drawn0 w w' := by
  have HR0 := Aside0.mk hr0
  have HC0 := Aside0.mk hc0
  clear hr0 hc0
  have H : (sallyportref04_Sum.l0 k l0 0 0) = some r := h
  clear h
  have H' := Aside0.mk H
  clear H
  go_enter Try.func21, Try.ntmps21
  go_wp2
  go_loopg [3, 4] k (fun kq v3 v4 w' => ∃ (x3_1 : Int) (x4_1 : Int), v3 = .int .i64 x3_1 ∧ v4 = .int .i64 x4_1 ∧ Aside0 (sallyportref04_Sum.l0 kq l0 x3_1 x4_1 = some r) ∧ Aside0 (kq ≤ k) ∧ Drawn0 w w')
  case atStart => exact ⟨(0), (0), (by first | rfl | (simp; done) | (simp [*]; done)), (by first | rfl | (simp; done) | (simp [*]; done)), H', ⟨Nat.le_refl _⟩, by repeat (first | exact Drawn0.refl _ | apply Drawn0.step)⟩
  case round =>
    clear H'
    obtain ⟨x3_1, x4_1, rfl, rfl, HA, HK1, ⟨m1, rfl⟩⟩ := hrel
    cases gk with
    | zero => exact absurd HA.out (by simp [sallyportref04_Sum.l0])
    | succ k1 =>
      have H := HA.out
      clear HA
      simp only [sallyportref04_Sum.l0] at H
      by_cases c2 : x4_1 < (l0.length : Int)
      · rw [if_pos c2] at H
        have c2b0 : decide (x4_1 < (l0.length : Int)) = true := decide_eq_true c2
        clear c2
        by_cases c3 : 0 ≤ x4_1
        · rw [if_pos c3] at H
          have c3b0 : decide (0 ≤ x4_1) = true := decide_eq_true c3
          clear c3
          by_cases c4 : (wrap64 (x4_1 + 1)) < (l0.length : Int)
          · rw [if_pos c4] at H
            have c4b0 : decide ((wrap64 (x4_1 + 1)) < (l0.length : Int)) = true := decide_eq_true c4
            clear c4
            obtain ⟨ji5, hji5⟩ : ∃ j_ : Int, (wrap64 (x4_1 + 1)) = j_ := ⟨_, rfl⟩
            replace H : (if 0 ≤ (ji5) then (sallyportref04_Sum.l0 k1 l0 (wrap64 ((wrap64 (x3_1 + (wrap64 ((wrap64 (rd l0 x4_1)) * 256)))) + (wrap64 (rd l0 (ji5))))) (wrap64 (x4_1 + 2))) else (none)) = some r := by first | (rw [hji5] at H; exact H) | (simp only [hji5] at H ⊢; exact H)
            (try rw [hji5] at c4b0)
            have hji5w : (IntKind.i64.wrap (x4_1 + 1)) = ji5 := (i64_w _).trans hji5
            by_cases c6 : 0 ≤ (ji5)
            · rw [if_pos c6] at H
              have c6b0 : decide (0 ≤ (ji5)) = true := decide_eq_true c6
              clear c6
              have H' := Aside0.mk H
              clear H
              have p114 : 0 ≤ (x4_1 : Int) := of_decide_eq_true (by first | (with_reducible assumption) | assumption)
              have q114 : x4_1 < (l0.length : Int) := of_decide_eq_true (by first | (with_reducible assumption) | assumption)
              obtain ⟨ad114, e114, hx114_0⟩ := Kd.at_int HR0.out x4_1 p114 q114
              cases e114
              replace p114 := eq_true p114
              replace q114 := eq_true q114
              have p115 : 0 ≤ ((ji5) : Int) := of_decide_eq_true (by first | (with_reducible assumption) | assumption)
              have q115 : (ji5) < (l0.length : Int) := of_decide_eq_true (by first | (with_reducible assumption) | assumption)
              obtain ⟨ad115, e115, hx115_0⟩ := Kd.at_int HR0.out (ji5) p115 q115
              obtain rfl : ad114 = ad115 := (by injection e115)
              replace p115 := eq_true p115
              replace q115 := eq_true q115
              go_wp2
              go_roundg k1
              case measure => have := HK1.out; omega
              case rel => exact ⟨(wrap64 ((wrap64 (x3_1 + (wrap64 ((wrap64 (rd l0 x4_1)) * 256)))) + (wrap64 (rd l0 (ji5))))), (wrap64 (x4_1 + 2)), (by first | rfl | (simp; done) | (simp only [← hji5] <;> (first | rfl | simp)) | (simp [*]; done)), (by first | rfl | (simp; done) | (simp [*]; done)), H', ⟨by have := HK1.out; omega⟩, by repeat (first | exact Drawn0.refl _ | apply Drawn0.step)⟩
            · rw [if_neg c6] at H
              exact absurd H (by simp)
          · rw [if_neg c4] at H
            have c4b0 : decide ((wrap64 (x4_1 + 1)) < (l0.length : Int)) = false := decide_eq_false c4
            clear c4
            have H' := Aside0.mk H
            clear H
            have p114 : 0 ≤ (x4_1 : Int) := of_decide_eq_true (by first | (with_reducible assumption) | assumption)
            have q114 : x4_1 < (l0.length : Int) := of_decide_eq_true (by first | (with_reducible assumption) | assumption)
            obtain ⟨ad114, e114, hx114_0⟩ := Kd.at_int HR0.out x4_1 p114 q114
            cases e114
            replace p114 := eq_true p114
            replace q114 := eq_true q114
            go_wp2
            go_roundg k1
            case measure => have := HK1.out; omega
            case rel => exact ⟨(wrap64 (x3_1 + (wrap64 ((wrap64 (rd l0 x4_1)) * 256)))), (wrap64 (x4_1 + 2)), (by first | rfl | (simp; done) | (simp [*]; done)), (by first | rfl | (simp; done) | (simp [*]; done)), H', ⟨by have := HK1.out; omega⟩, by repeat (first | exact Drawn0.refl _ | apply Drawn0.step)⟩
        · rw [if_neg c3] at H
          exact absurd H (by simp)
      · rw [if_neg c2] at H
        have c2b0 : decide (x4_1 < (l0.length : Int)) = false := decide_eq_false c2
        clear c2
        have H' := Aside0.mk H
        clear H
        go_wp2
        go_loopg [3] k1 (fun kq v3 w' => ∃ (x3_2 : Int), v3 = .int .i64 x3_2 ∧ Aside0 (sallyportref04_Sum.l1 kq x3_2 = some r) ∧ Aside0 (kq ≤ k1) ∧ Drawn0 w w')
        case atStart => exact ⟨(x3_1), (by first | rfl | (simp; done) | (simp [*]; done)), H', ⟨Nat.le_refl _⟩, by repeat (first | exact Drawn0.refl _ | apply Drawn0.step)⟩
        case round =>
          clear H'
          try clear p1
          try clear q1
          try clear hx1
          try clear c2
          try clear c2b0
          try clear p2
          try clear c3
          try clear c3b0
          try clear c4
          try clear c4b0
          try clear c6
          try clear c6b0
          try clear p6
          try clear hx114_0
          try clear hx115_0
          try clear p114
          try clear p115
          try clear q114
          try clear q115
          obtain ⟨x3_2, rfl, HA, HK2, ⟨m2, rfl⟩⟩ := hrel
          cases gk with
          | zero => exact absurd HA.out (by simp [sallyportref04_Sum.l1])
          | succ k2 =>
            have H := HA.out
            clear HA
            simp only [sallyportref04_Sum.l1] at H
            by_cases c7 : x3_2 > 65535
            · rw [if_pos c7] at H
              have c7b0 : decide (65535 < x3_2) = true := decide_eq_true c7
              clear c7
              have H' := Aside0.mk H
              clear H
              go_wp2
              go_roundg k2
              case measure => have := HK1.out; have := HK2.out; omega
              case rel => exact ⟨(wrap64 ((wrap64 (Int.tdiv x3_2 65536)) + (Int.tmod x3_2 65536))), (by first | rfl | (simp; done) | (simp [*]; done)), H', ⟨by have := HK1.out; have := HK2.out; omega⟩, by repeat (first | exact Drawn0.refl _ | apply Drawn0.step)⟩
            · rw [if_neg c7] at H
              have c7b0 : decide (65535 < x3_2) = false := decide_eq_false c7
              clear c7
              obtain rfl := Option.some.inj H
              go_wp2
              go_ret
              exact ⟨by first | rfl | (simp; done) | (simp [*]; done), by repeat (first | exact Drawn0.refl _ | apply Drawn0.step)⟩

end Go.Proofs.Ytlalaifbipmgeaa.PWireSums
