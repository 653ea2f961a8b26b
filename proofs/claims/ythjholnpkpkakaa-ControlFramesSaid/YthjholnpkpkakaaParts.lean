/- bytes.Clone, control.Part, control.Numbers: what they answer, over byte lists. No condition but the sizes named. -/
import Derived.Test.YthjholnpkpkakaaPControlFramesx0
import Derived.WalkSpells
import Derived.Lib.Hide
namespace Go.Proofs.Ythjholnpkpkakaa.Parts
open Go.RowKit Go.Proofs.YthjholnpkpkakaaW.PrintWords Go.Proofs.YthjholnpkpkakaaW.PrintLast Go.Proofs.YthjholnpkpkakaaW.PrintMore Go.Proofs.Ythjholnpkpkakaa.PControlFrames
set_option linter.unusedVariables false
set_option linter.unusedSimpArgs false

abbrev Bs (w : World) (A : Option Addr) (xs : List Int) : Prop := Kd.C (Kd.int .u8) w A xs.length xs
abbrev Own (w : World) (base : Nat) (v : Value) (xs : List Int) : Prop := Kd.R (Kd.int .u8) 5 w base (fun _ => True) v xs

set_option maxHeartbeats 8000000 in
set_option maxRecDepth 100000 in
theorem clone_any (A : Option Addr) (c : Nat) (xs : List Int) (w : World) (hr : Bs w A xs) (hc : xs.length ≤ c) (hl : xs.length < 100000000) :
    Calls Try.prog 51 #[.slice A xs.length c] w fun e w' => ∃ v, e = .returned v ∧ Own w' w.heap.size v xs ∧ Below w.heap.size w w' := by
  have hu := Try.underlying32
  have HR := Aside0.mk hr
  have HB := Aside0.mk (Below.refl w.heap.size w)
  clear hr
  have heq := fun W : World => Lib.run_eql_slice_nil (P := Try.prog) W 32 5 A xs.length c 0 0 hu
  cases A with
  | none =>
    have h0 : xs = [] := by
      rcases Nat.eq_zero_or_pos xs.length with h | h
      · exact List.eq_nil_of_length_eq_zero h
      · obtain ⟨ad, e, _⟩ := HR.out.2.2 h
        cases e
    subst h0
    replace heq : ∀ W : World, (binOp .eql 32 (.slice none 0 c) (.slice none 0 0)).run Try.prog W = .ok (.bool true) W := heq
    go_enter Try.func51, Try.ntmps51
    go_wp2
    go_ret
    exact ⟨_, rfl, Kd.R_nil _ _ _ _ _, HB.out⟩
  | some ad =>
    go_enter Try.func51, Try.ntmps51
    go_wp2_with (first | ((with_reducible refine gate_dst (N := 5) rfl ?_); (try (refine gate_guard (by rfl) ?_; dsimp only)); refine Kd.R_lit (Kd.int .u8) _ 5 ?hg (N := 5) ?hd (xs := ([] : List Int)) (inner := []) (ok := fun _ => True) (okp := fun _ => True) ?hr ?hp (fun _ hk => hk) trivial (Below.refl _ _) (Nat.le_refl _) (by simp) ?_; (case hd => rfl); (case hg => rfl); (case hr => first | (go_simp; done) | (go_simp; rfl)); (case hp => exact (Reps.none _ _)); intro v149 w5 ho6 hb hg_ hnew_; clear hg_ hnew_; have HO := Aside0.mk ho6; have HB := Aside0.mk hb; clear ho6 hb) | ((with_reducible refine gate_builtin (b := .append) (xs := #[.tmp 5, .tmp 6]) rfl ?_); (try (refine gate_guard (by rfl) ?_; dsimp only)); at_builtin; refine Kd.R_append_rows (Kd.int .u8) (w0 := w) w.heap.size rfl (.tmp 5) (.tmp 6) 32 5 (.int .u8 0) 1 rfl hu info5 rfl (by decide) (by omega) v149 ([] : List Int) xs _ _ _ (fun _ => True) (fun _ => False) rfl rfl HO.out (Kd.C_below HR.out HB.out) (fun _ _ h => h) (fun _ h => h.elim) (fun _ _ => trivial) HB.out (below_size HB.out) (by simp; omega) ?_; intro v153 w21 ho hb hg hat; have HO1 := Aside0.mk ho; have HB1 := Aside0.mk hb; clear ho hb hg hat))
    go_ret
    exact ⟨_, rfl, HO1.out, HB1.out⟩

/-- The bytes told from a place on, at most so many. -/
def cutB (xs : List Int) (f m : Int) : List Int := if f < 0 ∨ m < 0 ∨ (xs.length : Int) ≤ f then [] else (xs.drop f.toNat).take m.toNat

set_option maxHeartbeats 8000000 in
set_option maxRecDepth 100000 in
/-- Nothing is told: the world stays. -/
theorem part_none (A : Option Addr) (c : Nat) (xs : List Int) (f m : Int) (w : World) (h : f < 0 ∨ m < 0 ∨ (xs.length : Int) ≤ f) :
    Calls Try.prog 17 #[.slice A xs.length c, .int .i64 f, .int .i64 m] w fun e w' => e = .returned (.slice none 0 0) ∧ w' = w := by
  by_cases h1 : f < 0
  · clear h
    have h1b : decide (f < 0) = true := decide_eq_true h1
    clear h1
    go_enter Try.func17, Try.ntmps17
    go_wp2
    go_ret
    exact ⟨rfl, rfl⟩
  have h1b : decide (f < 0) = false := decide_eq_false h1
  by_cases h2 : m < 0
  · clear h h1
    have h2b : decide (m < 0) = true := decide_eq_true h2
    clear h2
    go_enter Try.func17, Try.ntmps17
    go_wp2
    go_ret
    exact ⟨rfl, rfl⟩
  have h2b : decide (m < 0) = false := decide_eq_false h2
  have h3 : (xs.length : Int) ≤ f := by omega
  clear h h1 h2
  have h3b : decide ((xs.length : Int) ≤ f) = true := decide_eq_true h3
  clear h3
  go_enter Try.func17, Try.ntmps17
  go_wp2
  go_ret
  exact ⟨rfl, rfl⟩

set_option maxHeartbeats 8000000 in
set_option maxRecDepth 100000 in
theorem part_any (A : Option Addr) (c : Nat) (xs : List Int) (f m : Int) (w : World) (hr : Bs w A xs) (hc : xs.length ≤ c) (hl : xs.length < 100000000) :
    Calls Try.prog 17 #[.slice A xs.length c, .int .i64 f, .int .i64 m] w fun e w' => ∃ v, e = .returned v ∧ Own w' w.heap.size v (cutB xs f m) ∧ Below w.heap.size w w' := by
  by_cases h : f < 0 ∨ m < 0 ∨ (xs.length : Int) ≤ f
  · refine (part_none A c xs f m w h).mono ?_
    rintro e w' ⟨rfl, rfl⟩
    exact ⟨_, rfl, by rw [cutB, if_pos h]; exact Kd.R_nil _ _ _ _ _, Below.refl _ _⟩
  have hp : cutB xs f m = (xs.drop f.toNat).take m.toNat := by rw [cutB, if_neg h]
  have HR := Aside0.mk hr
  clear hr
  have h1 : 0 ≤ f := by omega
  have h2 : 0 ≤ m := by omega
  have h3 : f < xs.length := by omega
  clear h
  have h1b : decide (f < 0) = false := decide_eq_false (by omega)
  have h2b : decide (m < 0) = false := decide_eq_false (by omega)
  have h3b : decide ((xs.length : Int) ≤ f) = false := decide_eq_false (by omega)
  obtain ⟨i0, hi0, _, hsz, _⟩ := info_parts info5
  obtain ⟨A1, hcut1, hA1, hC1⟩ := print_drop_of (P := Try.prog) (Value.int .u8) 0 32 5 .i64 Try.underlying32 hi0 hsz A c xs f h1 (by omega) hc
  obtain ⟨ys, hys⟩ : ∃ ys, ys = xs.drop f.toNat := ⟨_, rfl⟩
  have hyl : (ys.length : Int) = xs.length - f := by rw [hys, List.length_drop]; omega
  rw [← hys] at hcut1 hC1 hp
  have HR1 := Aside0.mk (hys ▸ hA1 _ (Kd.reads_of_C HR.out) : ReadsOf (Value.int .u8) 0 w A1 ys.length ys)
  clear hA1 hys HR
  generalize hc1 : c - f.toNat = c1 at hcut1 hC1
  obtain ⟨j, hj⟩ : ∃ j : Int, j = if (ys.length : Int) < m then (ys.length : Int) else m := ⟨_, rfl⟩
  have hj0 : 0 ≤ j := by rw [hj]; split <;> omega
  have hjl : j ≤ ys.length := by rw [hj]; split <;> omega
  have hjt : ys.take j.toNat = ys.take m.toNat := by
    by_cases hx : (ys.length : Int) < m
    · rw [hj, if_pos hx, List.take_of_length_le (by omega), List.take_of_length_le (by omega)]
    · rw [hj, if_neg hx]
  obtain ⟨hcut2, hA2, hC2⟩ := print_take_of (P := Try.prog) (Value.int .u8) 0 32 5 .i64 Try.underlying32 hi0 hsz A1 c1 ys j hj0 hjl hC1
  obtain ⟨zs, hzs⟩ : ∃ zs, zs = ys.take j.toNat := ⟨_, rfl⟩
  have hzl : zs.length < 100000000 := by rw [hzs, List.length_take]; omega
  have HR2 := Aside0.mk (Kd.C_of_reads (h1 := fun _ => rfl) (hzs ▸ hA2 _ HR1.out : ReadsOf (Value.int .u8) 0 w A1 zs.length zs))
  rw [← hzs] at hcut2 hC2
  rw [← hjt, ← hzs] at hp
  have hmin : ∀ W : World, (Builtin.min_ #[3, 3] 3 #[.int .i64 m, .int .i64 ((xs.length : Int) - f)]).run Try.prog W = .ok (.int .i64 j) W := by
    intro W
    rw [min_two, min2_int, hj, hyl]
    rfl
  clear hA2 HR1 hzs hjt hj hi0 hsz
  go_enter Try.func17, Try.ntmps17
  go_wp2_with fail
  refine (clone_any _ _ zs _ HR2.out hC2 hzl).mono ?_
  rintro e w' ⟨v, rfl, ho, hb⟩
  go_wp2
  go_ret
  exact ⟨_, rfl, hp ▸ ho, hb⟩

end Go.Proofs.Ythjholnpkpkakaa.Parts
