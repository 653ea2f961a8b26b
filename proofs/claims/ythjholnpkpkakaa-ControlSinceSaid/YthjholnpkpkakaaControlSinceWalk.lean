/- The walk of ControlSince: the events since a number are those that were put with it, or behind it, of the last ones that are kept: the call returns true and leaves all memory that was there as it was. No condition. -/
import Derived.Test.YthjholnpkpkakaaRing
import Derived.Test.YthjholnpkpkakaaMArgs
import Derived.Test.YthjholnpkpkakaaWMore
import Derived.Deep.QuietTactic
import Derived.BigQuiet
namespace Go.Proofs.Ythjholnpkpkakaa.ControlSinceWalk
open Go.RowKit Go.Proofs.YthjholnpkpkakaaW.PrintWords Go.Proofs.YthjholnpkpkakaaW.PrintMore Go.Proofs.Ythjholnpkpkakaa.MWorld Go.Proofs.Ythjholnpkpkakaa.MArgs Go.Proofs.Ythjholnpkpkakaa.Ring

def ev (ks : List Int) (j : Nat) : Ev := ⟨(j : Int) + 1, ks.getD j 0, j⟩
def hist (ks : List Int) (i : Nat) : List Ev := (List.range i).map (ev ks)
theorem hist_length (ks : List Int) (i : Nat) : (hist ks i).length = i := by simp [hist]
theorem hist_next (ks : List Int) (i : Nat) : hist ks i ++ [⟨((hist ks i).length : Int) + 1, ks.getD i 0, i⟩] = hist ks (i + 1) := by
  rw [hist_length]; unfold hist; rw [List.range_succ, List.map_append]; rfl
theorem filter_range (ks : List Int) (n : Int) (t : Nat) (ht : ∀ j : Nat, n ≤ (j : Int) + 1 ↔ t ≤ j) (a : Nat) : ∀ m, ((List.range' a m).map (ev ks)).filter (fun x => decide (n ≤ x.num)) = (List.range' (max a t) (a + m - max a t)).map (ev ks)
  | 0 => by rw [show a + 0 - max a t = 0 by omega]; rfl
  | m + 1 => by
    rw [List.range'_concat, List.map_append, List.filter_append, filter_range ks n t ht a m]
    have hp : decide (n ≤ (ev ks (a + 1 * m)).num) = decide (t ≤ a + m) := by
      have := ht (a + m)
      simp only [ev, Nat.one_mul]
      exact decide_eq_decide.2 (by simpa using this)
    simp only [List.map_cons, List.map_nil]
    by_cases h : t ≤ a + m
    · have e : a + (m + 1) - max a t = (a + m - max a t) + 1 := by omega
      rw [List.filter_cons_of_pos (by rw [hp]; simpa using h), List.filter_nil, e, List.range'_concat, List.map_append]
      have e2 : max a t + 1 * (a + m - max a t) = a + 1 * m := by omega
      rw [e2]; rfl
    · have e : a + (m + 1) - max a t = 0 := by omega
      have e0 : a + m - max a t = 0 := by omega
      rw [List.filter_cons_of_neg (by rw [hp]; simpa using h), e, e0]; rfl
/-- The events since a number. -/
theorem since_hist (ks : List Int) (i : Nat) (n : Int) :
    since (hist ks i) n = (List.range' (max (i - 64) (n - 1).toNat) (i - max (i - 64) (n - 1).toNat)).map (ev ks) := by
  unfold since lastEv
  rw [hist_length]
  have hd : (hist ks i).drop (i - 64) = (List.range' (i - 64) (i - (i - 64))).map (ev ks) := by
    unfold hist; rw [← List.map_drop, List.range_eq_range', List.drop_range']
    simp
  rw [hd, filter_range ks n (n - 1).toNat (fun j => by omega)]
  congr 2
  omega

set_option maxRecDepth 100000 in
set_option maxHeartbeats 4000000 in
theorem walk (A0 : Option Addr) (c0 : Nat) (l0 : List Int) (a1 : Int) (w : World) (w0 : IntsIn .i64 8 w A0 c0 l0) (w1 : (Lit.int .i64 a1).wf = true) :
    Calls Try.prog 3 #[.slice A0 l0.length c0, .int .i64 a1] w fun e w' => e = .returned (.bool true) ∧ Below w.heap.size w w' := by
  have HI := Lib.hid w0
  have hlm : l0.length ≤ 4611686018427387904 := by have := w0.bytes; omega
  have HW := Lib.hid w1
  obtain ⟨hi0, hi1⟩ := bounds_i64 w1
  clear w0 w1
  by_cases hbig : l0.length ≤ 1024
  · go_enter Try.func3, Try.ntmps3
    go_wp2_with fail
    refine (new_ring _).mono ?_
    rintro e w1 ⟨rfl, hr, hb⟩
    have HR : Hid (RingAt w1 w.heap.size (hist l0 0)) := hr
    have HB := Lib.hid hb
    clear hr hb
    go_wp2_with fail
    go_loopw [6] (fun i wr => ∃ k : Nat, k ≤ l0.length ∧ i = .int .i64 k ∧ Hid (RingAt wr w.heap.size (hist l0 k)) ∧ Hid (Below w.heap.size w wr)) (fun i _ => l0.length - (intOf i).toNat)
    case atStart => exact ⟨0, by omega, rfl, HR, HB⟩
    case round =>
      clear HR HB
      obtain ⟨k, hk, rfl, HR, HB⟩ := hrel
      by_cases hlt : k < l0.length
      · obtain ⟨ad, ha, hc, hcw⟩ := HI.out.at_ (List.getElem?_eq_getElem hlt)
        have hkd : l0[k] = l0.getD k 0 := by simp [List.getD_eq_getElem?_getD, List.getElem?_eq_getElem hlt]
        rw [hkd] at hc
        cases ha
        replace hc := pw_cell_below HB hc
        have HN := Lib.hid (hist_next l0 k)
        clear hkd hcw
        generalize l0.getD k 0 = y at *
        go_wp2_with fail
        refine (next_any _ _ _ HR (by rw [hist_length]; omega)).mono ?_
        rintro e w3 ⟨rfl, rfl⟩
        rw [hist_length]
        go_wp2_with fail
        refine (put_any _ _ y k _ HR (by rw [hist_length]; omega)).mono ?_
        rintro e w3 ⟨rfl, hr3, hu3⟩
        rw [HN.out] at hr3
        have HR3 := Lib.hid hr3
        have HB3 : Hid (Below w.heap.size w w3) := below_upd HB hu3 (Below.size HB) (fun k hk => by cases hk; exact Nat.le_refl _)
        clear hr3 hu3 hc
        go_wp2
        go_roundw
        case rel => exact ⟨k + 1, by omega, by go_num, HR3, HB3⟩
        case measure => simp [intOf]; omega
      · obtain rfl : k = l0.length := by omega
        go_wp2_with fail
        refine (since_any _ _ a1 _ HR (by rw [hist_length]; omega) HW).mono ?_
        rintro e w3 ⟨v, rfl, hown, hb3⟩
        rw [since_hist] at hown
        have HB3 : Hid (Below w.heap.size w w3) := HB.out.trans (hb3.mono (Below.size HB))
        obtain ⟨Av, cv, hv⟩ := own_slice hown
        subst hv
        simp only [List.length_map, List.length_range'] at hown ⊢
        obtain ⟨s, hs⟩ : ∃ s : Nat, max (l0.length - 64) (a1 - 1).toNat = s := ⟨_, rfl⟩
        rw [hs] at hown ⊢
        have HO := Lib.hid hown
        clear hown hb3 HB
        have hmax : ∀ W : World, (Builtin.max_ #[3, 3, 3] 3 #[.int .i64 a1, .int .i64 1, .int .i64 ((l0.length : Int) - 64 + 1)]).run Try.prog W = .ok (.int .i64 ((s : Int) + 1)) W := by
          intro W
          rw [max_three, max2_int]
          simp only [pure_bind, max2_int, Sem.run_pure]
          congr 2
          split <;> split <;> omega
        have hsl : s ≤ 9223372036854775807 := by omega
        have HSS := Lib.hid hs
        clear hs
        by_cases hgt : (l0.length : Int) < a1
        · have hz : l0.length - s = 0 := by have := HSS.out; omega
          have HZ := Lib.hid hz
          clear hz
          go_wp2_with fail
          rw [HZ.out]
          go_wp2
          go_ret
          exact ⟨rfl, HB3⟩
        · have hm1 : l0.length - s + s ≤ l0.length := by have := HSS.out; omega
          have hm2 : l0.length ≤ l0.length - s + s := by omega
          generalize l0.length - s = m at *
          go_wp2_with fail
          go_loopw [9] (fun i wr => ∃ k : Nat, k ≤ m ∧ i = .int .i64 k ∧ ∃ nq, wr = w3.drewN nq) (fun i _ => m - (intOf i).toNat)
          case atStart => exact ⟨0, by omega, rfl, 0, rfl⟩
          case round =>
            obtain ⟨k, hk, rfl, nq0, rfl⟩ := hrel
            by_cases hkm : k < m
            · obtain ⟨gb, cb, hv, _, _⟩ := World.ownsRow.form HO.out (by omega)
              injection hv with hv1 hv2 hv3
              clear hv2 hv3
              subst hv1
              have hx : ((List.range' s m).map (ev l0))[k]? = some (ev l0 (s + k)) := by simp [hkm]
              obtain ⟨f0, f1, f2⟩ := flat_at _ k _ hx
              have e0 := (World.ownsRow.cellAt HO.out (k * 3) (by omega)).trans f0
              have e1 := (World.ownsRow.cellAt HO.out (k * 3 + 1) (by omega)).trans f1
              have e2 := (World.ownsRow.cellAt HO.out (k * 3 + 2) (by omega)).trans f2
              have hql : s + k < l0.length := by omega
              obtain ⟨ad, ha, hc, hcw⟩ := HI.out.at_ (List.getElem?_eq_getElem hql)
              have hkd : l0[s + k] = l0.getD (s + k) 0 := by simp [List.getD_eq_getElem?_getD, List.getElem?_eq_getElem hql]
              rw [hkd] at hc
              cases ha
              replace hc := pw_cell_below HB3 hc
              simp only [ev] at e0 e1 e2
              have e0' : w3.cell? ⟨gb, k * 3, none⟩ = some (.int .i64 ((s : Int) + 1 + (k : Int))) := by rw [e0]; congr 2; omega
              have hw : IntKind.i64.wrap ((s : Int) + 1 + (k : Int) - 1) = ((s + k : Nat) : Int) := by rw [IntWalk.i64_in _ (by omega)]; omega
              have hq0 : (0 : Int) ≤ ((s + k : Nat) : Int) := by omega
              have hq1 : ((s + k : Nat) : Int) < (l0.length : Int) := by omega
              have hk0 : (0 : Int) ≤ (k : Int) := by omega
              have hk1 : (k : Int) < (m : Int) := by omega
              clear hx f0 f1 f2 e0 hcw hkd hql
              generalize l0.getD (s + k) 0 = y at *
              generalize s + k = q at *
              go_wp2_with fail
              go_quiet (fail)
              go_wp2
              go_roundw
              case rel => exact ⟨k + 1, by omega, by go_num, _, rfl⟩
              case measure => simp [intOf]; omega
            · go_wp2
              go_ret
              exact ⟨rfl, pw_below_drewN HB3 nq0⟩
  · go_enter Try.func3, Try.ntmps3
    go_wp2
    go_ret
    exact ⟨rfl, Below.refl _ _⟩
end Go.Proofs.Ythjholnpkpkakaa.ControlSinceWalk
