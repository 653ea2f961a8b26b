/- The ring of events: what a ring in memory is, and the contract of each of its methods. Condition: fewer than 2^40 events, where one is put. -/
import Derived.Test.YthjholnpkpkakaaProg
import Derived.WalkKit
import Derived.WalkSpells
import Derived.WalkLawsBesides
import Derived.StillTailTactics
import Derived.Lib.Hide
import Derived.Outline
import Derived.Laws.OwnMore
import Derived.Test.YthjholnpkpkakaaMWorld
namespace Go.Proofs.Ythjholnpkpkakaa.Ring
open Go.RowKit Go.Proofs.YthjholnpkpkakaaW.PrintWords Go.Proofs.Ythjholnpkpkakaa.MWorld

/-- An event: its number, its kind, its argument. -/
structure Ev where
  num : Int
  kind : Int
  arg : Int
def Ev.cells (x : Ev) : List Value := [.int .i64 x.num, .int .i64 x.kind, .int .i64 x.arg]
def flat (l : List Ev) : List Value := l.flatMap Ev.cells
theorem flat_length (l : List Ev) : (flat l).length = l.length * 3 := by
  induction l with
  | nil => rfl
  | cons x t ih => simp [flat, Ev.cells] at ih ⊢; omega
theorem flat_append (a b : List Ev) : flat (a ++ b) = flat a ++ flat b := List.flatMap_append
theorem flat_at (l : List Ev) (k : Nat) (x : Ev) (h : l[k]? = some x) : (flat l)[k * 3]? = some (.int .i64 x.num) ∧ (flat l)[k * 3 + 1]? = some (.int .i64 x.kind) ∧ (flat l)[k * 3 + 2]? = some (.int .i64 x.arg) := by
  induction l generalizing k with
  | nil => simp at h
  | cons y t ih =>
    cases k with
    | zero => simp at h; subst h; exact ⟨rfl, rfl, rfl⟩
    | succ k =>
      have := ih k (by simpa using h)
      have e : ∀ j, (flat (y :: t))[(k + 1) * 3 + j]? = (flat t)[k * 3 + j]? := by
        intro j
        show (Ev.cells y ++ flat t)[(k + 1) * 3 + j]? = _
        rw [List.getElem?_append_right (by simp [Ev.cells]; omega)]
        congr 1
        simp [Ev.cells]; omega
      exact ⟨(e 0).trans this.1, (e 1).trans this.2.1, (e 2).trans this.2.2⟩

/-- A ring that was told these events: the last 64 are kept. -/
structure RingAt (w : World) (g : Nat) (l : List Ev) : Prop where
  blk : ∃ cs : Array Value, w.heap[g]? = some (.cells cs 100 (0, 0)) ∧ cs.size = 193 ∧ cs[192]? = some (.int .i64 l.length) ∧
    (∀ j, j < 192 → ∃ z : Int, cs[j]? = some (.int .i64 z)) ∧
    ∀ i x, l[i]? = some x → l.length ≤ i + 64 → cs[i % 64 * 3]? = some (.int .i64 x.num) ∧ cs[i % 64 * 3 + 1]? = some (.int .i64 x.kind) ∧ cs[i % 64 * 3 + 2]? = some (.int .i64 x.arg)

section
variable {w w' : World} {g : Nat} {l : List Ev} {M : Nat → Prop}
theorem RingAt.lt (h : RingAt w g l) : g < w.heap.size := by obtain ⟨cs, hb, _⟩ := h.blk; exact blk_lt hb
theorem RingAt.many (h : RingAt w g l) : w.cell? ⟨g, 192, none⟩ = some (.int .i64 l.length) := by
  obtain ⟨cs, hb, _, hm, _⟩ := h.blk; rw [blk_cell hb]; exact hm
theorem RingAt.any (h : RingAt w g l) {j : Nat} (hj : j < 192) : ∃ z : Int, w.cell? ⟨g, j, none⟩ = some (.int .i64 z) := by
  obtain ⟨cs, hb, _, _, ha, _⟩ := h.blk
  obtain ⟨z, hz⟩ := ha j hj
  exact ⟨z, by rw [blk_cell hb]; exact hz⟩
theorem RingAt.item (h : RingAt w g l) {i : Nat} {x : Ev} (hi : l[i]? = some x) (hl : l.length ≤ i + 64) :
    w.cell? ⟨g, i % 64 * 3, none⟩ = some (.int .i64 x.num) ∧ w.cell? ⟨g, i % 64 * 3 + 1, none⟩ = some (.int .i64 x.kind) ∧ w.cell? ⟨g, i % 64 * 3 + 2, none⟩ = some (.int .i64 x.arg) := by
  obtain ⟨cs, hb, _, _, _, hc⟩ := h.blk
  rw [blk_cell hb, blk_cell hb, blk_cell hb]
  exact hc i x hi hl
theorem RingAt.frozen (h : RingAt w g l) (i : Nat) : w.frozen? ⟨g, i, none⟩ = false := by
  obtain ⟨cs, hb, _⟩ := h.blk; exact blk_frozen hb i
theorem RingAt.upd (h : RingAt w g l) (k : Upd M w w') (hn : ¬ M g) : RingAt w' g l := by
  obtain ⟨cs, hb, hr⟩ := h.blk; exact ⟨cs, k.blk hb hn, hr⟩
theorem RingAt.below (h : RingAt w g l) (k : Below w.heap.size w w') : RingAt w' g l := h.upd (Upd.of_below k (Nat.le_refl _) (fun _ => False)) (fun h => h)
theorem RingAt.drew (h : RingAt w g l) : RingAt w.drew g l := ⟨h.blk⟩
theorem RingAt.put (h : RingAt w g l) (x : Ev) :
    RingAt ((((w.setCell ⟨g, l.length % 64 * 3, none⟩ (.int .i64 x.num)).setCell ⟨g, l.length % 64 * 3 + 1, none⟩ (.int .i64 x.kind)).setCell ⟨g, l.length % 64 * 3 + 2, none⟩ (.int .i64 x.arg)).setCell ⟨g, 192, none⟩ (.int .i64 ((l.length + 1 : Nat) : Int))) g (l ++ [x]) := by
  obtain ⟨cs, hb, hz, hm, ha, hc⟩ := h.blk
  have hlt : l.length % 64 < 64 := Nat.mod_lt _ (by omega)
  refine ⟨_, blk_set (blk_set (blk_set (blk_set hb _ _) _ _) _ _) _ _, by simp [hz], ?_, ?_, ?_⟩
  · rw [set_at, if_pos rfl, if_pos (by simp [hz])]; simp
  · intro j hj
    obtain ⟨z, hzj⟩ := ha j hj
    rw [set_at, if_neg (by omega), set_at]
    split
    · exact ⟨x.arg, by rw [if_pos (by simp [hz]; omega)]⟩
    · rw [set_at]
      split
      · exact ⟨x.kind, by rw [if_pos (by simp [hz]; omega)]⟩
      · rw [set_at]
        split
        · exact ⟨x.num, by rw [if_pos (by simp [hz]; omega)]⟩
        · exact ⟨z, hzj⟩
  · intro i y hy hl
    have hil : i < (l ++ [x]).length := (List.getElem?_eq_some_iff.1 hy).1
    simp only [List.length_append, List.length_cons, List.length_nil] at hil hl
    by_cases e : i = l.length
    · subst e
      rw [List.getElem?_append_right (Nat.le_refl _)] at hy
      simp at hy
      subst hy
      refine ⟨?_, ?_, ?_⟩
      · rw [set_at, if_neg (by omega), set_at, if_neg (by omega), set_at, if_neg (by omega), set_at, if_pos rfl, if_pos (by omega)]
      · rw [set_at, if_neg (by omega), set_at, if_neg (by omega), set_at, if_pos rfl, if_pos (by simp [hz]; omega)]
      · rw [set_at, if_neg (by omega), set_at, if_pos rfl, if_pos (by simp [hz]; omega)]
    · have hi : i < l.length := by omega
      rw [List.getElem?_append_left hi] at hy
      have hq := hc i y hy (by omega)
      have hne : i % 64 ≠ l.length % 64 := by omega
      have hi64 : i % 64 < 64 := Nat.mod_lt _ (by omega)
      refine ⟨?_, ?_, ?_⟩
      · rw [set_at, if_neg (by omega), set_at, if_neg (by omega), set_at, if_neg (by omega), set_at, if_neg (by omega)]; exact hq.1
      · rw [set_at, if_neg (by omega), set_at, if_neg (by omega), set_at, if_neg (by omega), set_at, if_neg (by omega)]; exact hq.2.1
      · rw [set_at, if_neg (by omega), set_at, if_neg (by omega), set_at, if_neg (by omega), set_at, if_neg (by omega)]; exact hq.2.2
end

/-- The one block that turns. -/
def JustB (g : Nat) : Nat → Prop := fun k => k = g
theorem one_set (w : World) (g i : Nat) (u : Value) : Upd (JustB g) w (w.setCell ⟨g, i, none⟩ u) := (Upd.refl (JustB g) w).setCell (p := ⟨g, i, none⟩) (.inl (show JustB g g from rfl)) u
abbrev P (g : Nat) : Value := .pointer (some ⟨g, 0, none⟩)

theorem zero_get : Try.zeroCells100.size = 193 ∧ Try.zeroCells100.all (fun v => match v with | .int .i64 0 => true | _ => false) = true := by
  exact ⟨by kernel_rfl, by decide +kernel⟩
theorem zero_at {j : Nat} (hj : j < 193) : Try.zeroCells100[j]? = some (.int .i64 0) := by
  have hs : j < Try.zeroCells100.size := by rw [zero_get.1]; exact hj
  have h := Array.all_eq_true.1 zero_get.2 j hs
  rw [Array.getElem?_eq_getElem hs]
  split at h
  · rename_i he; rw [he]
  · cases h

set_option maxRecDepth 100000 in
theorem new_ring (w : World) : Calls Try.prog 13 #[] w fun e w' => e = .returned (P w.heap.size) ∧ RingAt w' w.heap.size [] ∧ Below w.heap.size w w' := by
  go_enter Try.func13, Try.ntmps13
  go_wp2
  go_ret
  refine ⟨rfl, ⟨_, blk_new _ _, zero_get.1, zero_at (by omega), fun j hj => ⟨0, zero_at (by omega)⟩, fun i x hx => by simp at hx⟩, (Below.refl _ _).alloc (Nat.le_refl _) _⟩

theorem next_any (g : Nat) (l : List Ev) (w : World) (h : RingAt w g l) (hl : l.length < 1099511627776) :
    Calls Try.prog 14 #[P g] w fun e w' => e = .returned (.int .i64 (l.length + 1)) ∧ w = w' := by
  have hc := h.many
  clear h
  generalize l.length = n at *
  go_enter Try.func14, Try.ntmps14
  go_wp2
  go_ret
  exact ⟨rfl, rfl⟩

set_option maxRecDepth 100000 in
set_option maxHeartbeats 1000000 in
theorem put_any (g : Nat) (l : List Ev) (kind arg : Int) (w : World) (h : RingAt w g l) (hl : l.length < 1099511627776) :
    Calls Try.prog 15 #[P g, .int .i64 kind, .int .i64 arg] w fun e w' => e = .returned (.tuple #[]) ∧ RingAt w' g (l ++ [⟨l.length + 1, kind, arg⟩]) ∧ Upd (JustB g) w w' := by
  have hc := h.many
  have hlt : l.length % 64 < 64 := Nat.mod_lt _ (by omega)
  have hcd := h.drew.many
  obtain ⟨z0, a0⟩ := h.drew.any (j := l.length % 64 * 3) (by omega)
  obtain ⟨z1, a1⟩ := h.drew.any (j := l.length % 64 * 3 + 1) (by omega)
  obtain ⟨z2, a2⟩ := h.drew.any (j := l.length % 64 * 3 + 2) (by omega)
  have f0 := h.drew.frozen (l.length % 64 * 3)
  have f1 := h.drew.frozen (l.length % 64 * 3 + 1)
  have f2 := h.drew.frozen (l.length % 64 * 3 + 2)
  have f3 := h.drew.frozen 192
  have HP := Lib.hid (h.drew.put ⟨l.length + 1, kind, arg⟩)
  have HU : Hid (Upd (JustB g) w ((((w.drew.setCell ⟨g, l.length % 64 * 3, none⟩ (.int .i64 (l.length + 1))).setCell ⟨g, l.length % 64 * 3 + 1, none⟩ (.int .i64 kind)).setCell ⟨g, l.length % 64 * 3 + 2, none⟩ (.int .i64 arg)).setCell ⟨g, 192, none⟩ (.int .i64 ((l.length + 1 : Nat) : Int)))) :=
    ((((Upd.refl (JustB g) w).drew.trans (one_set _ g _ _)).trans (one_set _ g _ _)).trans (one_set _ g _ _)).trans (one_set _ g _ _)
  clear h
  simp only at HP
  have ht : ((l.length : Int)).tmod 64 = ((l.length % 64 : Nat) : Int) := by rw [Int.tmod_eq_emod_of_nonneg (by omega)]; omega
  have hw : IntKind.i64.wrap ((l.length : Int) + 1) = (l.length : Int) + 1 := IntWalk.i64_in _ (by omega)
  generalize l.length % 64 = q at *
  have hq0 : (0 : Int) ≤ (q : Int) := by omega
  have hq1 : (q : Int) < 64 := by omega
  go_enter Try.func15, Try.ntmps15
  go_wp2_with fail
  go_still_tail 17, (by kernel_rfl)
  change wpList _ _ _ _ _ w.drew
  clear hc
  generalize w.drew = w2 at *
  clear hw ht
  go_wp2
  go_end0
  exact ⟨rfl, HP, HU⟩

/-- The last 64 events. -/
def lastEv (l : List Ev) : List Ev := l.drop (l.length - 64)
def since (l : List Ev) (n : Int) : List Ev := (lastEv l).filter fun x => decide (n ≤ x.num)
/-- What was told so far: of the events up to i. -/
def told (l : List Ev) (n : Int) (i : Nat) : List Ev := ((l.take i).drop (l.length - 64)).filter fun x => decide (n ≤ x.num)
theorem told_first (l : List Ev) (n : Int) : told l n (l.length - 64) = [] := by
  unfold told; rw [List.drop_eq_nil_of_le (by rw [List.length_take]; omega)]; rfl
theorem told_last (l : List Ev) (n : Int) : told l n l.length = since l n := by unfold told since lastEv; rw [List.take_length]
theorem told_next (l : List Ev) (n : Int) (i : Nat) (x : Ev) (h : l[i]? = some x) (hi : l.length - 64 ≤ i) :
    told l n (i + 1) = if n ≤ x.num then told l n i ++ [x] else told l n i := by
  have hlt : i < l.length := (List.getElem?_eq_some_iff.1 h).1
  have hx : l[i] = x := (List.getElem?_eq_some_iff.1 h).2
  unfold told
  rw [List.take_succ_eq_append_getElem hlt, hx, List.drop_append_of_le_length (by rw [List.length_take]; omega), List.filter_append]
  by_cases hn : n ≤ x.num <;> simp [hn]
theorem told_length (l : List Ev) (n : Int) (i : Nat) : (told l n i).length ≤ 64 := by
  unfold told
  refine Nat.le_trans (List.length_filter_le _ _) ?_
  rw [List.length_drop, List.length_take]; omega

theorem infoItem : (Try.prog.info? 30).map (fun i => (i.zero, i.size, i.bytes)) = some (some (.agg #[.int .i64 0, .int .i64 0, .int .i64 0]), 3, 24) := by kernel_rfl

def SincePost (l : List Ev) (n : Int) (w : World) (e : Ending) (w' : World) : Prop :=
  ∃ v, e = .returned v ∧ w'.ownsRow w.heap.size 30 3 v (since l n).length (flat (since l n)) ∧ Below w.heap.size w w'

set_option maxRecDepth 100000 in
set_option maxHeartbeats 2000000 in
theorem since_any (g : Nat) (l : List Ev) (n : Int) (w : World) (h : RingAt w g l) (hl : l.length < 1099511627776) (_hn : (Lit.int .i64 n).wf = true) :
    Calls Try.prog 16 #[P g, .int .i64 n] w (SincePost l n w) := by
  have hc := h.many
  have HR := Lib.hid h
  have HGL : Hid (g < w.heap.size) := h.lt
  clear h
  go_enter Try.func16, Try.ntmps16
  go_wp2_with fail
  all_goals
    go_loopw [5, 6] (fun v i wr => ∃ k : Nat, l.length - 64 ≤ k ∧ k ≤ l.length ∧ i = .int .i64 k ∧ Hid (wr.ownsRow w.heap.size 30 3 v (told l n k).length (flat (told l n k))) ∧ Hid (RingAt wr g l) ∧ Hid (Below w.heap.size w wr)) (fun _ i _ => l.length - (intOf i).toNat)
    case atStart => exact ⟨l.length - 64, Nat.le_refl _, by omega, by congr 1; omega, by rw [told_first]; exact own_nil _ _ _ _, HR, Below.refl _ _⟩
    case round =>
      clear HR hc
      obtain ⟨k, hk0, hk1, rfl, HO, HR, HB⟩ := hrel
      have hc := HR.out.many
      by_cases hlt : k < l.length
      · have hx := List.getElem?_eq_getElem hlt
        generalize l[k] = x at *
        obtain ⟨h0, h1, h2⟩ := HR.out.item hx (by omega)
        have HN := told_next l n k x hx hk0
        have HN2 := Lib.hid HN
        clear hx HN
        go_upto_if 32 with (fail)
        have HO2 : Hid ((wr.alloc (.cells #[.int .i64 x.num, .int .i64 x.kind, .int .i64 x.arg] 30)).ownsRow w.heap.size 30 3 u5 (told l n k).length (flat (told l n k))) := HO.out.alloc _
        have HR2 : Hid (RingAt (wr.alloc (.cells #[.int .i64 x.num, .int .i64 x.kind, .int .i64 x.arg] 30)) g l) := HR.out.below ((Below.refl _ _).alloc (Nat.le_refl _) _)
        have HB2 : Hid (Below w.heap.size w (wr.alloc (.cells #[.int .i64 x.num, .int .i64 x.kind, .int .i64 x.arg] 30))) := HB.out.alloc (Below.size HB) _
        have q0 := new_cell wr #[.int .i64 x.num, .int .i64 x.kind, .int .i64 x.arg] 30 0
        have q1 := new_cell wr #[.int .i64 x.num, .int .i64 x.kind, .int .i64 x.arg] 30 1
        have q2 := new_cell wr #[.int .i64 x.num, .int .i64 x.kind, .int .i64 x.arg] 30 2
        rw [List.getElem?_toArray] at q0 q1 q2
        simp only [List.getElem?_cons_zero, List.getElem?_cons_succ] at q0 q1 q2
        have htl : (told l n k).length ≤ 64 := told_length l n k
        clear HO HR HB hc h0 h1 h2
        generalize wr.alloc (.cells #[.int .i64 x.num, .int .i64 x.kind, .int .i64 x.arg] 30) = w2 at *
        generalize wr.heap.size = o at *
        by_cases hge : n ≤ x.num
        · have HN3 : Hid (told l n (k + 1) = told l n k ++ [x]) := HN2.out.trans (if_pos hge)
          clear HN2
          generalize told l n k = tk at *
          go_wp2_with (first | (at_builtin; refine print_append_cells (w0 := w) w.heap.size rfl (.tmp 33) (.tmp 35) 27 30 (.agg #[.int .i64 0, .int .i64 0, .int .i64 0]) 3 24 rfl Try.underlying27 infoItem rfl (by omega) (by omega) u5 tk.length (flat tk) (Ev.cells x) rfl rfl rfl ?cN ?cO ?cB ?cS ?cL ?_; (case cN => intro u hu; simp [Ev.cells] at hu; rcases hu with rfl | rfl | rfl <;> rfl); (case cO => exact HO2); (case cB => exact HB2); (case cS => exact Below.size HB2); (case cL => omega); intro v3 w3 hown3 hb3 hg3 hat3; have HO3 := Lib.hid hown3; have HB3 := Lib.hid hb3; have HR3 : Hid (RingAt w3 g l) := HR2.out.upd (Upd.of_grown (M := fun k => w.heap.size ≤ k) hg3 (fun k hk _ => own_base HO2.out k hk)) (by have := HGL.out; omega); clear hown3 hb3 hg3 hat3))
          go_roundw
          case rel => exact ⟨k + 1, by omega, by omega, by go_num, by rw [HN3.out, flat_append, List.length_append]; exact HO3, HR3, HB3⟩
          case measure => simp [intOf]; omega
        · have HN3 : Hid (told l n (k + 1) = told l n k) := HN2.out.trans (if_neg hge)
          clear HN2
          go_wp2
          go_roundw
          case rel => exact ⟨k + 1, by omega, by omega, by go_num, by rw [HN3.out]; exact HO2, HR2, HB2⟩
          case measure => simp [intOf]; omega
      · obtain rfl : k = l.length := by omega
        go_wp2
        go_ret
        rw [told_last] at HO
        exact ⟨_, rfl, HO, HB⟩
end Go.Proofs.Ythjholnpkpkakaa.Ring
