/- The disk: what a disk in memory is, and the contract of each of its methods: what it answers, and what the disk is behind it. Condition: fewer than 2^62 writes so far, where a write is told. -/
import Derived.Test.YtlalaifbipmgeaaProg
import Derived.WalkKit
import Derived.WalkSpells
import Derived.WalkLawsBesides
import Derived.Laws.Tables
import Derived.Lib.Hide
import Derived.Outline
import Derived.Deep.WholeRow
import Derived.Test.YtlalaifbipmgeaaMWorld
namespace Go.Proofs.Ytlalaifbipmgeaa.Disk
open Go.RowKit Go.Proofs.YtlalaifbipmgeaaW.PrintWords Go.Proofs.Ytlalaifbipmgeaa.MWorld

/-- A disk: its sectors, how many writes were made, how many are left (-1: no cut is ordered), whether the power is gone. -/
structure Dk where
  S : Nat → ByteArray
  made : Int
  left : Int
  dead : Bool

def Dk.new : Dk := ⟨fun _ => ByteArray.empty, 0, -1, false⟩
/-- The power is gone, if a write is tried. -/
def Dk.gone (d : Dk) : Bool := d.dead || d.left == 0
def Dk.put (d : Dk) (i : Nat) (s : ByteArray) : Dk := ⟨fun j => if j = i then s else d.S j, d.made + 1, if 0 < d.left then d.left - 1 else d.left, false⟩
def may (i : Int) (s : ByteArray) : Bool := decide (0 ≤ i) && decide (i < 160) && decide (s.size ≤ 512)
def Dk.code (d : Dk) (i : Int) (s : ByteArray) : Int := if i < 0 ∨ 160 ≤ i then 10 else if 512 < s.size then 11 else if d.gone = true then 12 else 0
def Dk.write (d : Dk) (i : Int) (s : ByteArray) : Dk := if i < 0 ∨ 160 ≤ i then d else if 512 < s.size then d else if d.gone = true then { d with dead := true } else d.put i.toNat s
def Dk.cut (d : Dk) (n : Int) : Dk := { d with left := if n < 0 then 0 else n }
def Dk.power (d : Dk) : Dk := { d with left := -1, dead := false }

structure DiskAt (w : World) (g : Nat) (d : Dk) : Prop where
  blk : ∃ cs : Array Value, w.heap[g]? = some (.cells cs 100 (0, 0)) ∧ cs.size = 163 ∧ (∀ j, j < 160 → cs[j]? = some (.string (d.S j))) ∧
    cs[160]? = some (.int .i64 d.made) ∧ cs[161]? = some (.int .i64 d.left) ∧ cs[162]? = some (.bool d.dead)

section
variable {w w' : World} {g : Nat} {d : Dk} {M : Nat → Prop}
theorem DiskAt.lt (h : DiskAt w g d) : g < w.heap.size := by obtain ⟨cs, hb, _⟩ := h.blk; exact blk_lt hb
theorem DiskAt.sec (h : DiskAt w g d) {i : Nat} (hi : i < 160) : w.cell? ⟨g, i, none⟩ = some (.string (d.S i)) := by
  obtain ⟨cs, hb, _, hs, _⟩ := h.blk; rw [blk_cell hb]; exact hs i hi
theorem DiskAt.made (h : DiskAt w g d) : w.cell? ⟨g, 160, none⟩ = some (.int .i64 d.made) := by
  obtain ⟨cs, hb, _, _, hm, _⟩ := h.blk; rw [blk_cell hb]; exact hm
theorem DiskAt.left (h : DiskAt w g d) : w.cell? ⟨g, 161, none⟩ = some (.int .i64 d.left) := by
  obtain ⟨cs, hb, _, _, _, hm, _⟩ := h.blk; rw [blk_cell hb]; exact hm
theorem DiskAt.dead (h : DiskAt w g d) : w.cell? ⟨g, 162, none⟩ = some (.bool d.dead) := by
  obtain ⟨cs, hb, _, _, _, _, hm⟩ := h.blk; rw [blk_cell hb]; exact hm
theorem DiskAt.frozen (h : DiskAt w g d) (i : Nat) : w.frozen? ⟨g, i, none⟩ = false := by
  obtain ⟨cs, hb, _⟩ := h.blk; exact blk_frozen hb i
theorem DiskAt.upd (h : DiskAt w g d) (k : Upd M w w') (hn : ¬ M g) : DiskAt w' g d := by
  obtain ⟨cs, hb, hr⟩ := h.blk; exact ⟨cs, k.blk hb hn, hr⟩
theorem DiskAt.below (h : DiskAt w g d) (k : Below w.heap.size w w') : DiskAt w' g d := h.upd (Upd.of_below k (Nat.le_refl _) (fun _ => False)) (fun h => h)
theorem DiskAt.drew (h : DiskAt w g d) : DiskAt w.drew g d := ⟨h.blk⟩
theorem DiskAt.drewN (h : DiskAt w g d) (n : Nat) : DiskAt (w.drewN n) g d := ⟨h.blk⟩
theorem DiskAt.set_dead (h : DiskAt w g d) (b : Bool) : DiskAt (w.setCell ⟨g, 162, none⟩ (.bool b)) g { d with dead := b } := by
  obtain ⟨cs, hb, hz, hs, h1, h2, h3⟩ := h.blk
  refine ⟨_, blk_set hb 162 _, by rw [set_size]; exact hz, fun j hj => ?_, ?_, ?_, ?_⟩
  · rw [set_at, if_neg (by omega)]; exact hs j hj
  · rw [set_at, if_neg (by omega)]; exact h1
  · rw [set_at, if_neg (by omega)]; exact h2
  · rw [set_at, if_pos rfl, if_pos (by omega)]
theorem DiskAt.set_left (h : DiskAt w g d) (n : Int) : DiskAt (w.setCell ⟨g, 161, none⟩ (.int .i64 n)) g { d with left := n } := by
  obtain ⟨cs, hb, hz, hs, h1, h2, h3⟩ := h.blk
  refine ⟨_, blk_set hb 161 _, by rw [set_size]; exact hz, fun j hj => ?_, ?_, ?_, ?_⟩
  · rw [set_at, if_neg (by omega)]; exact hs j hj
  · rw [set_at, if_neg (by omega)]; exact h1
  · rw [set_at, if_pos rfl, if_pos (by omega)]
  · rw [set_at, if_neg (by omega)]; exact h3
theorem DiskAt.set_made (h : DiskAt w g d) (n : Int) : DiskAt (w.setCell ⟨g, 160, none⟩ (.int .i64 n)) g { d with made := n } := by
  obtain ⟨cs, hb, hz, hs, h1, h2, h3⟩ := h.blk
  refine ⟨_, blk_set hb 160 _, by rw [set_size]; exact hz, fun j hj => ?_, ?_, ?_, ?_⟩
  · rw [set_at, if_neg (by omega)]; exact hs j hj
  · rw [set_at, if_pos rfl, if_pos (by omega)]
  · rw [set_at, if_neg (by omega)]; exact h2
  · rw [set_at, if_neg (by omega)]; exact h3
theorem DiskAt.set_sec (h : DiskAt w g d) (i : Nat) (hi : i < 160) (s : ByteArray) : DiskAt (w.setCell ⟨g, i, none⟩ (.string s)) g { d with S := fun j => if j = i then s else d.S j } := by
  obtain ⟨cs, hb, hz, hs, h1, h2, h3⟩ := h.blk
  refine ⟨_, blk_set hb i _, by rw [set_size]; exact hz, fun j hj => ?_, ?_, ?_, ?_⟩
  · rw [set_at]
    by_cases e : i = j
    · subst e; rw [if_pos rfl, if_pos (by omega)]; simp
    · rw [if_neg e, hs j hj]; simp [Ne.symm e]
  · rw [set_at, if_neg (by omega)]; exact h1
  · rw [set_at, if_neg (by omega)]; exact h2
  · rw [set_at, if_neg (by omega)]; exact h3
end

/-- The one block that turns. -/
def JustB (g : Nat) : Nat → Prop := fun k => k = g
theorem one_set (w : World) (g i : Nat) (u : Value) : Upd (JustB g) w (w.setCell ⟨g, i, none⟩ u) := (Upd.refl (JustB g) w).setCell (p := ⟨g, i, none⟩) (.inl (show JustB g g from rfl)) u

abbrev P (g : Nat) : Value := .pointer (some ⟨g, 0, none⟩)
theorem ret_int {k : IntKind} {a b : Int} (h : a = b) : Ending.returned (.int k a) = .returned (.int k b) := by rw [h]

theorem zero_get : Try.zeroCells100.size = 163 ∧ (∀ j, j < 160 → Try.zeroCells100[j]? = some (.string ByteArray.empty)) ∧ Try.zeroCells100[160]? = some (.int .i64 0) ∧ Try.zeroCells100[162]? = some (.bool false) := by
  refine ⟨by kernel_rfl, ?_, by kernel_rfl, by kernel_rfl⟩
  have h : (List.range 160).all (fun j => match Try.zeroCells100[j]? with | some (.string s) => s.size == 0 | _ => false) = true := by decide +kernel
  intro j hj
  have := List.all_eq_true.1 h j (List.mem_range.2 hj)
  split at this
  · rename_i s he
    rw [he]
    have : s = ByteArray.empty := by
      apply ByteArray.ext
      apply Array.eq_empty_of_size_eq_zero
      simpa using this
    rw [this]
  · cases this

theorem new_any (w : World) : Calls Try.prog 25 #[] w fun e w' => e = .returned (P w.heap.size) ∧ DiskAt w' w.heap.size Dk.new ∧ Below w.heap.size w w' := by
  go_enter Try.func25, Try.ntmps25
  go_wp2
  go_ret
  refine ⟨rfl, ⟨_, blk_new _ _, ?_, fun j hj => ?_, ?_, ?_, ?_⟩, (Below.refl _ _).alloc (Nat.le_refl _) _⟩
  · rw [set_size]; exact zero_get.1
  · rw [set_at, if_neg (by omega)]; exact zero_get.2.1 j hj
  · rw [set_at, if_neg (by omega)]; exact zero_get.2.2.1
  · rw [set_at, if_pos rfl, if_pos (by rw [zero_get.1]; omega)]; rfl
  · rw [set_at, if_neg (by omega)]; exact zero_get.2.2.2

theorem read_no (g : Nat) (i : Int) (w : World) (h : i < 0 ∨ 160 ≤ i) :
    Calls Try.prog 27 #[P g, .int .i64 i] w fun e w' => e = .returned (.tuple #[.string ByteArray.empty, .int .i64 10]) ∧ w = w' := by
  by_cases h0 : i < 0
  · clear h
    go_enter Try.func27, Try.ntmps27
    go_wp2
    go_ret2
    exact ⟨rfl, rfl⟩
  · have h1 : 160 ≤ i := by omega
    clear h
    go_enter Try.func27, Try.ntmps27
    go_wp2
    go_ret2
    exact ⟨rfl, rfl⟩
theorem read_yes (g : Nat) (i : Int) (d : Dk) (w : World) (h0 : 0 ≤ i) (h1 : i < 160) (h : DiskAt w g d) :
    Calls Try.prog 27 #[P g, .int .i64 i] w fun e w' => e = .returned (.tuple #[.string (d.S i.toNat), .int .i64 0]) ∧ w = w' := by
  have hc := h.sec (i := i.toNat) (by omega)
  clear h
  generalize d.S i.toNat = s at *
  go_enter Try.func27, Try.ntmps27
  go_wp2
  go_ret2
  exact ⟨rfl, rfl⟩

theorem dead_any (g : Nat) (d : Dk) (w : World) (h : DiskAt w g d) : Calls Try.prog 30 #[P g] w fun e w' => e = .returned (.bool d.dead) ∧ w = w' := by
  have hc := h.dead
  clear h
  generalize d.dead = b at *
  go_enter Try.func30, Try.ntmps30
  go_wp2
  go_ret
  exact ⟨rfl, rfl⟩
theorem writes_any (g : Nat) (d : Dk) (w : World) (h : DiskAt w g d) : Calls Try.prog 31 #[P g] w fun e w' => e = .returned (.int .i64 d.made) ∧ w = w' := by
  have hc := h.made
  clear h
  generalize d.made = b at *
  go_enter Try.func31, Try.ntmps31
  go_wp2
  go_ret
  exact ⟨rfl, rfl⟩
theorem cut_any (g : Nat) (n : Int) (d : Dk) (w : World) (h : DiskAt w g d) :
    Calls Try.prog 28 #[P g, .int .i64 n] w fun e w' => e = .returned (.tuple #[]) ∧ DiskAt w' g (d.cut n) ∧ Upd (JustB g) w w' := by
  have hc := h.left
  have hf := h.frozen 161
  have H := h.set_left (if n < 0 then 0 else n)
  have H2 := one_set w g 161 (.int .i64 (if n < 0 then 0 else n))
  by_cases hn : n < 0
  · rw [if_pos hn] at H H2
    have HH : Hid (DiskAt (w.setCell ⟨g, 161, none⟩ (.int .i64 0)) g (d.cut n)) := by unfold Dk.cut; rw [if_pos hn]; exact H
    have HH2 : Hid (Upd (JustB g) w (w.setCell ⟨g, 161, none⟩ (.int .i64 0))) := H2
    clear H H2 h
    go_enter Try.func28, Try.ntmps28
    go_wp2
    go_end0
    exact ⟨rfl, HH, HH2⟩
  · rw [if_neg hn] at H H2
    have HH : Hid (DiskAt (w.setCell ⟨g, 161, none⟩ (.int .i64 n)) g (d.cut n)) := by unfold Dk.cut; rw [if_neg hn]; exact H
    have HH2 : Hid (Upd (JustB g) w (w.setCell ⟨g, 161, none⟩ (.int .i64 n))) := H2
    clear H H2 h
    go_enter Try.func28, Try.ntmps28
    go_wp2
    go_end0
    exact ⟨rfl, HH, HH2⟩
theorem power_any (g : Nat) (d : Dk) (w : World) (h : DiskAt w g d) :
    Calls Try.prog 29 #[P g] w fun e w' => e = .returned (.tuple #[]) ∧ DiskAt w' g d.power ∧ Upd (JustB g) w w' := by
  have hc := h.left
  have hf := h.frozen 161
  have hc2 := h.dead
  have hf2 := h.frozen 162
  have HH : Hid (DiskAt ((w.setCell ⟨g, 161, none⟩ (.int .i64 (-1))).setCell ⟨g, 162, none⟩ (.bool false)) g d.power) := (h.set_left (-1)).set_dead false
  have HH2 : Hid (Upd (JustB g) w ((w.setCell ⟨g, 161, none⟩ (.int .i64 (-1))).setCell ⟨g, 162, none⟩ (.bool false))) := (one_set w g 161 _).trans (one_set _ g 162 _)
  clear h
  generalize d.left = l at *
  generalize d.dead = b at *
  go_enter Try.func29, Try.ntmps29
  go_wp2
  go_end0
  exact ⟨rfl, HH, HH2⟩

theorem write_sector (g : Nat) (i : Int) (s : ByteArray) (w : World) (h : i < 0 ∨ 160 ≤ i) :
    Calls Try.prog 26 #[P g, .int .i64 i, .string s] w fun e w' => e = .returned (.int .i64 10) ∧ w = w' := by
  by_cases h0 : i < 0
  · clear h
    go_enter Try.func26, Try.ntmps26
    go_wp2
    go_ret
    exact ⟨rfl, rfl⟩
  · have h1 : 160 ≤ i := by omega
    clear h
    go_enter Try.func26, Try.ntmps26
    go_wp2
    go_ret
    exact ⟨rfl, rfl⟩
theorem write_size (g : Nat) (i : Int) (s : ByteArray) (w : World) (h0 : 0 ≤ i) (h1 : i < 160) (hs : 512 < s.size) :
    Calls Try.prog 26 #[P g, .int .i64 i, .string s] w fun e w' => e = .returned (.int .i64 11) ∧ w = w' := by
  go_enter Try.func26, Try.ntmps26
  go_wp2
  go_ret
  exact ⟨rfl, rfl⟩
theorem write_dead (g : Nat) (i : Int) (s : ByteArray) (d : Dk) (w : World) (h0 : 0 ≤ i) (h1 : i < 160) (hs : s.size ≤ 512) (h : DiskAt w g d) (hg : d.gone = true) :
    Calls Try.prog 26 #[P g, .int .i64 i, .string s] w fun e w' => e = .returned (.int .i64 12) ∧ DiskAt w' g { d with dead := true } ∧ Upd (JustB g) w w' := by
  have hc := h.left
  have hc2 := h.dead
  have hf2 := h.frozen 162
  have HH : Hid (DiskAt (w.setCell ⟨g, 162, none⟩ (.bool true)) g { d with dead := true }) := h.set_dead true
  have HH2 : Hid (Upd (JustB g) w (w.setCell ⟨g, 162, none⟩ (.bool true))) := one_set w g 162 _
  clear h
  unfold Dk.gone at hg
  have hg' : d.dead = true ∨ (d.dead = false ∧ d.left = 0) := by
    cases hd : d.dead
    · rw [hd] at hg; exact .inr ⟨rfl, by simpa using hg⟩
    · exact .inl rfl
  clear hg
  rcases hg' with hd | ⟨hd, hl⟩
  · rw [hd] at hc2
    clear hd
    generalize d.left = l at *
    go_enter Try.func26, Try.ntmps26
    go_wp2
    go_ret
    exact ⟨rfl, HH, HH2⟩
  · rw [hd] at hc2
    rw [hl] at hc
    clear hd hl
    go_enter Try.func26, Try.ntmps26
    go_wp2
    go_ret
    exact ⟨rfl, HH, HH2⟩
theorem write_put (g : Nat) (i : Int) (s : ByteArray) (d : Dk) (w : World) (h0 : 0 ≤ i) (h1 : i < 160) (hs : s.size ≤ 512) (h : DiskAt w g d) (hg : d.gone = false) (hm0 : 0 ≤ d.made) (hm1 : d.made < 4611686018427387904) (hl1 : d.left ≤ 9223372036854775807) :
    Calls Try.prog 26 #[P g, .int .i64 i, .string s] w fun e w' => e = .returned (.int .i64 0) ∧ DiskAt w' g (d.put i.toNat s) ∧ Upd (JustB g) w w' := by
  have hi : i.toNat < 160 := by omega
  have hc0 := h.sec hi
  have hc1 := h.made
  have hc2 := h.left
  have hc3 := h.dead
  have hf0 := h.frozen i.toNat
  have hf1 := h.frozen 160
  have hf2 := h.frozen 161
  have hf3 := h.frozen 162
  unfold Dk.gone at hg
  have hd : d.dead = false := by
    cases hd : d.dead
    · rfl
    · rw [hd] at hg; simp at hg
  have hl : d.left ≠ 0 := by rw [hd] at hg; simpa using hg
  rw [hd] at hc3
  have K := ((h.set_dead false).set_sec i.toNat hi s).set_made (d.made + 1)
  have K2 : Upd (JustB g) w (((w.setCell ⟨g, 162, none⟩ (.bool false)).setCell ⟨g, i.toNat, none⟩ (.string s)).setCell ⟨g, 160, none⟩ (.int .i64 (d.made + 1))) := ((one_set w g 162 _).trans (one_set _ g _ _)).trans (one_set _ g 160 _)
  have L := (((h.set_dead false).set_left (d.left - 1)).set_sec i.toNat hi s).set_made (d.made + 1)
  have L2 : Upd (JustB g) w ((((w.setCell ⟨g, 162, none⟩ (.bool false)).setCell ⟨g, 161, none⟩ (.int .i64 (d.left - 1))).setCell ⟨g, i.toNat, none⟩ (.string s)).setCell ⟨g, 160, none⟩ (.int .i64 (d.made + 1))) :=
    (((one_set w g 162 _).trans (one_set _ g 161 _)).trans (one_set _ g _ _)).trans (one_set _ g 160 _)
  by_cases hp : 0 < d.left
  · have HH : Hid (DiskAt ((((w.setCell ⟨g, 162, none⟩ (.bool false)).setCell ⟨g, 161, none⟩ (.int .i64 (d.left - 1))).setCell ⟨g, i.toNat, none⟩ (.string s)).setCell ⟨g, 160, none⟩ (.int .i64 (d.made + 1))) g (d.put i.toNat s)) := by
      unfold Dk.put; rw [if_pos hp]; exact L
    have HH2 : Hid (Upd (JustB g) w ((((w.setCell ⟨g, 162, none⟩ (.bool false)).setCell ⟨g, 161, none⟩ (.int .i64 (d.left - 1))).setCell ⟨g, i.toNat, none⟩ (.string s)).setCell ⟨g, 160, none⟩ (.int .i64 (d.made + 1)))) := L2
    have hb : (d.left == 0) = false := beq_eq_false_iff_ne.2 hl
    clear K K2 L L2 h hg hd hl
    generalize d.S i.toNat = u at *
    generalize d.left = l at *
    generalize d.made = n at *
    go_enter Try.func26, Try.ntmps26
    go_wp2
    go_ret
    exact ⟨rfl, HH, HH2⟩
  · have HH : Hid (DiskAt (((w.setCell ⟨g, 162, none⟩ (.bool false)).setCell ⟨g, i.toNat, none⟩ (.string s)).setCell ⟨g, 160, none⟩ (.int .i64 (d.made + 1))) g (d.put i.toNat s)) := by
      unfold Dk.put; rw [if_neg hp]; exact K
    have HH2 : Hid (Upd (JustB g) w (((w.setCell ⟨g, 162, none⟩ (.bool false)).setCell ⟨g, i.toNat, none⟩ (.string s)).setCell ⟨g, 160, none⟩ (.int .i64 (d.made + 1)))) := K2
    have hb : (d.left == 0) = false := beq_eq_false_iff_ne.2 hl
    have hq : d.left ≤ 0 := by omega
    clear K K2 L L2 h hg hd hl hp
    generalize d.S i.toNat = u at *
    generalize d.left = l at *
    generalize d.made = n at *
    go_enter Try.func26, Try.ntmps26
    go_wp2
    go_ret
    exact ⟨rfl, HH, HH2⟩

theorem Dk.code_sector (d : Dk) {i : Int} (s : ByteArray) (h : i < 0 ∨ 160 ≤ i) : d.code i s = 10 := by unfold Dk.code; rw [if_pos h]
theorem Dk.code_size (d : Dk) {i : Int} {s : ByteArray} (h0 : 0 ≤ i) (h1 : i < 160) (h : 512 < s.size) : d.code i s = 11 := by unfold Dk.code; rw [if_neg (by omega), if_pos h]
theorem Dk.write_sector (d : Dk) {i : Int} (s : ByteArray) (h : i < 0 ∨ 160 ≤ i) : d.write i s = d := by unfold Dk.write; rw [if_pos h]
theorem Dk.write_size (d : Dk) {i : Int} {s : ByteArray} (h0 : 0 ≤ i) (h1 : i < 160) (h : 512 < s.size) : d.write i s = d := by unfold Dk.write; rw [if_neg (by omega), if_pos h]
theorem DiskAt.alloc {w : World} {g : Nat} {d : Dk} (h : DiskAt w g d) (o : Obj) : DiskAt (w.alloc o) g d := h.upd (Upd.one_alloc w o (fun _ => False)) (fun h => h)

/-- Write, whatever it is given. -/
theorem write_any (g : Nat) (i : Int) (s : ByteArray) (d : Dk) (w : World) (h : DiskAt w g d) (hm0 : 0 ≤ d.made) (hm1 : d.made < 4611686018427387904) (hl1 : d.left ≤ 9223372036854775807) :
    Calls Try.prog 26 #[P g, .int .i64 i, .string s] w fun e w' => e = .returned (.int .i64 (d.code i s)) ∧ DiskAt w' g (d.write i s) ∧ Upd (JustB g) w w' := by
  by_cases h1 : i < 0 ∨ 160 ≤ i
  · refine (write_sector g i s w h1).mono ?_
    rintro e w' ⟨rfl, rfl⟩
    unfold Dk.code Dk.write
    rw [if_pos h1, if_pos h1]
    exact ⟨rfl, h, Upd.refl _ _⟩
  · by_cases h2 : 512 < s.size
    · refine (write_size g i s w (by omega) (by omega) h2).mono ?_
      rintro e w' ⟨rfl, rfl⟩
      unfold Dk.code Dk.write
      rw [if_neg h1, if_neg h1, if_pos h2, if_pos h2]
      exact ⟨rfl, h, Upd.refl _ _⟩
    · by_cases h3 : d.gone = true
      · refine (write_dead g i s d w (by omega) (by omega) (by omega) h h3).mono ?_
        rintro e w' ⟨rfl, hd, hu⟩
        unfold Dk.code Dk.write
        rw [if_neg h1, if_neg h1, if_neg h2, if_neg h2, if_pos h3, if_pos h3]
        exact ⟨rfl, hd, hu⟩
      · refine (write_put g i s d w (by omega) (by omega) (by omega) h (by simpa using h3) hm0 hm1 hl1).mono ?_
        rintro e w' ⟨rfl, hd, hu⟩
        unfold Dk.code Dk.write
        rw [if_neg h1, if_neg h1, if_neg h2, if_neg h2, if_neg h3, if_neg h3]
        exact ⟨rfl, hd, hu⟩
set_option maxRecDepth 100000 in
/-- Clone: a new disk that is as this one. -/
theorem clone_any (g : Nat) (d : Dk) (w : World) (h : DiskAt w g d) :
    Calls Try.prog 45 #[P g] w fun e w' => e = .returned (P w.heap.size) ∧ DiskAt w' w.heap.size d ∧ Below w.heap.size w w' := by
  obtain ⟨cs, hb, hz, hs, hm, hl, hd⟩ := h.blk
  clear h
  have hall : cs.all (·.oneCell') = true := by
    rw [Array.all_eq_true']
    intro x hx
    obtain ⟨j, hj, rfl⟩ := Array.mem_iff_getElem.1 hx
    have hg : cs[j]? = some cs[j] := Array.getElem?_eq_getElem hj
    by_cases h1 : j < 160
    · rw [hs j h1] at hg; rw [← Option.some.inj hg]; rfl
    · obtain rfl | rfl | rfl : j = 160 ∨ j = 161 ∨ j = 162 := by omega
      · rw [hm] at hg; rw [← Option.some.inj hg]; rfl
      · rw [hl] at hg; rw [← Option.some.inj hg]; rfl
      · rw [hd] at hg; rw [← Option.some.inj hg]; rfl
  have hinf : (Try.prog.info? 100).map (·.size) = some cs.size := by rw [hz]; kernel_rfl
  have HP : Hid (DiskAt (w.alloc (.cells cs 100)) w.heap.size d) := ⟨cs, blk_new _ _, hz, hs, hm, hl, hd⟩
  have HA := Lib.hid hall
  have HI := Lib.hid hinf
  have HG := Lib.hid hb
  have HZ : Hid (Try.zeroCells100.size = cs.size) := by rw [hz]; exact zero_get.1
  clear hall hinf hs hm hl hd hz hb
  go_enter Try.func45, Try.ntmps45
  go_wp2_with (first
    | (refine wpList_load_row rfl 100 _ rfl g rfl 100 cs (0, 0) _ HG Try.underlying100 rfl HI ?_)
    | (refine wpList_store_row rfl 100 _ _ rfl w.heap.size cs rfl rfl 100 Try.zeroCells100 (blk_new _ _) HI HZ HA ?_))
  rw [World.setRow_alloc_new]
  go_ret
  exact ⟨rfl, HP, (Below.refl _ _).alloc (Nat.le_refl _) _⟩
end Go.Proofs.Ytlalaifbipmgeaa.Disk
