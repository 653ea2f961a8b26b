/- The document's own disk: what it is in memory, and the contract of each of its methods, beside the disk's. Condition: fewer than 2^62 writes so far, where a write is told. -/
import Derived.Test.YtlalaifbipmgeaaLaw01
import Derived.Deep.AppendLies
import Derived.Deep.RegionLaw
import Derived.Deep.RegionHeld3
namespace Go.Proofs.Ytlalaifbipmgeaa.Ref01
open Go.RowKit Go.Proofs.YtlalaifbipmgeaaW.PrintWords Go.Proofs.Ytlalaifbipmgeaa.MWorld Go.Proofs.Ytlalaifbipmgeaa.MArgs Go.Proofs.Ytlalaifbipmgeaa.Disk Go.Proofs.Ytlalaifbipmgeaa.Law01

/-- The document's disk at gr, its sectors at gs. -/
structure RefAt (w : World) (gr gs cap : Nat) (d : Dk) (ord : Bool) (L : Int) : Prop where
  blk : w.heap[gr]? = some (.cells #[.slice (some ⟨gs, 0, none⟩) 160 cap, .int .i64 d.made, .bool ord, .int .i64 L, .bool d.dead] 93 (0, 0))
  row : w.ownsRow 0 9 1 (.slice (some ⟨gs, 0, none⟩) 160 cap) 160 (Row d.S)
  yes : ord = true → L = d.left ∧ 0 ≤ d.left
  no : ord = false → d.left = -1

section
variable {w w' : World} {gr gs cap : Nat} {d : Dk} {ord : Bool} {L : Int} {M : Nat → Prop}
theorem RefAt.ne (h : RefAt w gr gs cap d ord L) : gs ≠ gr := by
  intro e
  have := own_ne h.row h.blk (by decide)
  subst e
  exact this rfl
theorem RefAt.lt (h : RefAt w gr gs cap d ord L) : gr < w.heap.size ∧ gs < w.heap.size := ⟨blk_lt h.blk, own_lt h.row gs rfl⟩
theorem RefAt.upd (h : RefAt w gr gs cap d ord L) (k : Upd M w w') (h1 : ¬ M gr) (h2 : ¬ M gs) : RefAt w' gr gs cap d ord L :=
  ⟨k.blk h.blk h1, own_upd h.row k (fun g _ _ hg => by cases hg; exact h2), h.yes, h.no⟩
theorem RefAt.below (h : RefAt w gr gs cap d ord L) (k : Below w.heap.size w w') : RefAt w' gr gs cap d ord L := h.upd (Upd.of_below k (Nat.le_refl _) (fun _ => False)) (fun h => h) (fun h => h)
theorem RefAt.alloc (h : RefAt w gr gs cap d ord L) (o : Obj) : RefAt (w.alloc o) gr gs cap d ord L := h.upd (Upd.one_alloc w o (fun _ => False)) (fun h => h) (fun h => h)
theorem RefAt.drew (h : RefAt w gr gs cap d ord L) : RefAt w.drew gr gs cap d ord L := ⟨h.blk, h.row, h.yes, h.no⟩
theorem RefAt.drewN (h : RefAt w gr gs cap d ord L) (n : Nat) : RefAt (w.drewN n) gr gs cap d ord L := ⟨h.blk, h.row, h.yes, h.no⟩
end
/-- The two blocks of one. -/
def Two (a b : Nat) : Nat → Prop := fun k => k = a ∨ k = b

def clip (n : Int) : Int := if n < 0 then 0 else n

theorem ref_read_no (g : Nat) (i : Int) (w : World) (h : i < 0 ∨ 160 ≤ i) :
    Calls Try.prog 49 #[P g, .int .i64 i] w fun e w' => e = .returned (.tuple #[.string ByteArray.empty, .int .i64 10]) ∧ w = w' := by
  by_cases h0 : i < 0
  · clear h
    go_enter Try.func49, Try.ntmps49
    go_wp2
    go_ret2
    exact ⟨rfl, rfl⟩
  · have h1 : 160 ≤ i := by omega
    clear h
    go_enter Try.func49, Try.ntmps49
    go_wp2
    go_ret2
    exact ⟨rfl, rfl⟩
theorem ref_read_yes (gr gs cap : Nat) (i : Int) (d : Dk) (ord : Bool) (L : Int) (w : World) (h0 : 0 ≤ i) (h1 : i < 160) (h : RefAt w gr gs cap d ord L) :
    Calls Try.prog 49 #[P gr, .int .i64 i] w fun e w' => e = .returned (.tuple #[.string (d.S i.toNat), .int .i64 0]) ∧ w = w' := by
  have hc : w.cell? ⟨gs, i.toNat, none⟩ = some (.string (d.S i.toNat)) := by rw [h.row.cellAt _ (by omega)]; exact row_at _ (by omega)
  have hb := blk_cell h.blk 0
  simp only [List.getElem?_toArray, List.getElem?_cons_zero] at hb
  clear h
  generalize d.S i.toNat = s at *
  go_enter Try.func49, Try.ntmps49
  go_wp2
  go_ret2
  exact ⟨rfl, rfl⟩
theorem ref_cut (gr gs cap : Nat) (n : Int) (d : Dk) (ord : Bool) (L : Int) (w : World) (h : RefAt w gr gs cap d ord L) :
    Calls Try.prog 50 #[P gr, .int .i64 n] w fun e w' => e = .returned (.tuple #[]) ∧ RefAt w' gr gs cap (d.cut n) true (clip n) ∧ Upd (Two gr gs) w w' := by
  have hb2 := blk_cell h.blk 2
  have hb3 := blk_cell h.blk 3
  have hf2 := blk_frozen h.blk 2
  have hf3 := blk_frozen h.blk 3
  simp only [List.getElem?_toArray, List.getElem?_cons_zero, List.getElem?_cons_succ] at hb2 hb3
  have hne := h.ne
  have key : ∀ m : Int, m = clip n → RefAt ((w.setCell ⟨gr, 2, none⟩ (.bool true)).setCell ⟨gr, 3, none⟩ (.int .i64 m)) gr gs cap (d.cut n) true (clip n) ∧ Upd (Two gr gs) w ((w.setCell ⟨gr, 2, none⟩ (.bool true)).setCell ⟨gr, 3, none⟩ (.int .i64 m)) := by
    intro m hm
    have hu : Upd (Two gr gs) w ((w.setCell ⟨gr, 2, none⟩ (.bool true)).setCell ⟨gr, 3, none⟩ (.int .i64 m)) := ((Upd.refl (Two gr gs) w).setCell (p := ⟨gr, 2, none⟩) (.inl (.inl rfl)) _).setCell (p := ⟨gr, 3, none⟩) (.inl (.inl rfl)) _
    have hu1 : Upd (fun k => k = gr) w ((w.setCell ⟨gr, 2, none⟩ (.bool true)).setCell ⟨gr, 3, none⟩ (.int .i64 m)) := ((Upd.refl (fun k => k = gr) w).setCell (p := ⟨gr, 2, none⟩) (.inl rfl) _).setCell (p := ⟨gr, 3, none⟩) (.inl rfl) _
    refine ⟨⟨?_, ?_, fun _ => ⟨rfl, ?_⟩, fun h => by cases h⟩, hu⟩
    · have := blk_set (blk_set h.blk 2 (.bool true)) 3 (.int .i64 m)
      rw [hm] at this ⊢
      exact this
    · exact own_upd h.row hu1 (fun g _ _ hg => by cases hg; exact hne)
    · simp only [Dk.cut]; split <;> omega
  by_cases hn : n ≤ 0
  · have HH : Hid (RefAt ((w.setCell ⟨gr, 2, none⟩ (.bool true)).setCell ⟨gr, 3, none⟩ (.int .i64 0)) gr gs cap (d.cut n) true (clip n) ∧ Upd (Two gr gs) w ((w.setCell ⟨gr, 2, none⟩ (.bool true)).setCell ⟨gr, 3, none⟩ (.int .i64 0))) := key 0 (by unfold clip; split <;> omega)
    clear key h
    go_enter Try.func50, Try.ntmps50
    go_wp2
    go_end0
    exact ⟨rfl, HH⟩
  · have HH : Hid (RefAt ((w.setCell ⟨gr, 2, none⟩ (.bool true)).setCell ⟨gr, 3, none⟩ (.int .i64 n)) gr gs cap (d.cut n) true (clip n) ∧ Upd (Two gr gs) w ((w.setCell ⟨gr, 2, none⟩ (.bool true)).setCell ⟨gr, 3, none⟩ (.int .i64 n))) := key n (by unfold clip; split <;> omega)
    clear key h
    go_enter Try.func50, Try.ntmps50
    go_wp2
    go_end0
    exact ⟨rfl, HH⟩
theorem ref_power (gr gs cap : Nat) (d : Dk) (ord : Bool) (L : Int) (w : World) (h : RefAt w gr gs cap d ord L) :
    Calls Try.prog 51 #[P gr] w fun e w' => e = .returned (.tuple #[]) ∧ RefAt w' gr gs cap d.power false L ∧ Upd (Two gr gs) w w' := by
  have hb2 := blk_cell h.blk 2
  have hb4 := blk_cell h.blk 4
  have hf2 := blk_frozen h.blk 2
  have hf4 := blk_frozen h.blk 4
  simp only [List.getElem?_toArray, List.getElem?_cons_zero, List.getElem?_cons_succ] at hb2 hb4
  have hne := h.ne
  have HH : Hid (RefAt ((w.setCell ⟨gr, 2, none⟩ (.bool false)).setCell ⟨gr, 4, none⟩ (.bool false)) gr gs cap d.power false L ∧ Upd (Two gr gs) w ((w.setCell ⟨gr, 2, none⟩ (.bool false)).setCell ⟨gr, 4, none⟩ (.bool false))) := by
    have hu : Upd (Two gr gs) w ((w.setCell ⟨gr, 2, none⟩ (.bool false)).setCell ⟨gr, 4, none⟩ (.bool false)) := ((Upd.refl (Two gr gs) w).setCell (p := ⟨gr, 2, none⟩) (.inl (.inl rfl)) _).setCell (p := ⟨gr, 4, none⟩) (.inl (.inl rfl)) _
    have hu1 : Upd (fun k => k = gr) w ((w.setCell ⟨gr, 2, none⟩ (.bool false)).setCell ⟨gr, 4, none⟩ (.bool false)) := ((Upd.refl (fun k => k = gr) w).setCell (p := ⟨gr, 2, none⟩) (.inl rfl) _).setCell (p := ⟨gr, 4, none⟩) (.inl rfl) _
    exact ⟨⟨blk_set (blk_set h.blk 2 (.bool false)) 4 (.bool false), own_upd h.row hu1 (fun g _ _ hg => by cases hg; exact hne), (fun h => by cases h), fun _ => rfl⟩, hu⟩
  clear h
  generalize d.dead = dd at *
  go_enter Try.func51, Try.ntmps51
  go_wp2
  go_end0
  exact ⟨rfl, HH⟩

theorem ref_write_sector (g : Nat) (i : Int) (s : ByteArray) (w : World) (h : i < 0 ∨ 160 ≤ i) :
    Calls Try.prog 48 #[P g, .int .i64 i, .string s] w fun e w' => e = .returned (.int .i64 10) ∧ w = w' := by
  by_cases h0 : i < 0
  · clear h
    go_enter Try.func48, Try.ntmps48
    go_wp2
    go_ret
    exact ⟨rfl, rfl⟩
  · have h1 : 160 ≤ i := by omega
    clear h
    go_enter Try.func48, Try.ntmps48
    go_wp2
    go_ret
    exact ⟨rfl, rfl⟩
theorem ref_write_size (g : Nat) (i : Int) (s : ByteArray) (w : World) (h0 : 0 ≤ i) (h1 : i < 160) (hs : 512 < s.size) :
    Calls Try.prog 48 #[P g, .int .i64 i, .string s] w fun e w' => e = .returned (.int .i64 11) ∧ w = w' := by
  go_enter Try.func48, Try.ntmps48
  go_wp2
  go_ret
  exact ⟨rfl, rfl⟩

section
variable {w : World} {gr gs cap : Nat} {d : Dk} {ord : Bool} {L : Int}
theorem RefAt.c1 (h : RefAt w gr gs cap d ord L) : w.cell? ⟨gr, 1, none⟩ = some (.int .i64 d.made) := by
  have := blk_cell h.blk 1
  simpa only [List.getElem?_toArray, List.getElem?_cons_zero, List.getElem?_cons_succ] using this
theorem RefAt.c0 (h : RefAt w gr gs cap d ord L) : w.cell? ⟨gr, 0, none⟩ = some (.slice (some ⟨gs, 0, none⟩) 160 cap) := by
  have := blk_cell h.blk 0
  simpa only [List.getElem?_toArray, List.getElem?_cons_zero, List.getElem?_cons_succ] using this
theorem RefAt.c2 (h : RefAt w gr gs cap d ord L) : w.cell? ⟨gr, 2, none⟩ = some (.bool ord) := by
  have := blk_cell h.blk 2
  simpa only [List.getElem?_toArray, List.getElem?_cons_zero, List.getElem?_cons_succ] using this
theorem RefAt.c3 (h : RefAt w gr gs cap d ord L) : w.cell? ⟨gr, 3, none⟩ = some (.int .i64 L) := by
  have := blk_cell h.blk 3
  simpa only [List.getElem?_toArray, List.getElem?_cons_zero, List.getElem?_cons_succ] using this
theorem RefAt.c4 (h : RefAt w gr gs cap d ord L) : w.cell? ⟨gr, 4, none⟩ = some (.bool d.dead) := by
  have := blk_cell h.blk 4
  simpa only [List.getElem?_toArray, List.getElem?_cons_zero, List.getElem?_cons_succ] using this
theorem RefAt.froz (h : RefAt w gr gs cap d ord L) (i : Nat) : w.frozen? ⟨gr, i, none⟩ = false := blk_frozen h.blk i
theorem RefAt.sec (h : RefAt w gr gs cap d ord L) {i : Nat} (hi : i < 160) : w.cell? ⟨gs, i, none⟩ = some (.string (d.S i)) := by
  rw [h.row.cellAt _ (by omega)]; exact row_at _ hi
theorem RefAt.sfroz (h : RefAt w gr gs cap d ord L) (i : Nat) : w.frozen? ⟨gs, i, none⟩ = false := h.row.frozenAt i
theorem RefAt.die (h : RefAt w gr gs cap d ord L) : RefAt (w.setCell ⟨gr, 4, none⟩ (.bool true)) gr gs cap { d with dead := true } ord L :=
  ⟨blk_set h.blk 4 (.bool true), own_upd h.row (one_set w gr 4 _) (fun g _ _ hg => by cases hg; intro e; exact h.ne e), h.yes, h.no⟩
theorem two_set (w : World) (gr gs i : Nat) (u : Value) : Upd (Two gr gs) w (w.setCell ⟨gr, i, none⟩ u) := (Upd.refl (Two gr gs) w).setCell (p := ⟨gr, i, none⟩) (.inl (.inl rfl)) u
theorem two_set' (w : World) (gr gs i : Nat) (u : Value) : Upd (Two gr gs) w (w.setCell ⟨gs, i, none⟩ u) := (Upd.refl (Two gr gs) w).setCell (p := ⟨gs, i, none⟩) (.inl (.inr rfl)) u
/-- A write that comes to pass: the sector, the count. -/
theorem RefAt.put (h : RefAt w gr gs cap d ord L) (hd : d.dead = false) (i : Nat) (s : ByteArray) (hw : ord = false) :
    RefAt ((w.setCell ⟨gs, i, none⟩ (.string s)).setCell ⟨gr, 1, none⟩ (.int .i64 (d.made + 1))) gr gs cap (d.put i s) ord L := by
  have hne := h.ne
  have h1 := (h.row.stored i (.string s)).1
  rw [row_put] at h1
  refine ⟨?_, own_upd h1 (one_set _ gr 1 _) (fun g _ _ hg => by cases hg; intro e; exact hne e), (fun e => by rw [hw] at e; cases e), fun _ => ?_⟩
  · have := blk_set (blk_far h.blk (p := ⟨gs, i, none⟩) (Ne.symm hne) (.string s)) 1 (.int .i64 (d.made + 1))
    rw [hd] at this
    exact this
  · have := h.no hw
    simp only [Dk.put]; rw [if_neg (by omega)]; exact this
theorem RefAt.putO (h : RefAt w gr gs cap d true L) (hd : d.dead = false) (hl : 0 < d.left) (i : Nat) (s : ByteArray) :
    RefAt (((w.setCell ⟨gr, 3, none⟩ (.int .i64 (L - 1))).setCell ⟨gs, i, none⟩ (.string s)).setCell ⟨gr, 1, none⟩ (.int .i64 (d.made + 1))) gr gs cap (d.put i s) true (L - 1) := by
  have hne := h.ne
  have h0 := own_upd h.row (one_set w gr 3 (.int .i64 (L - 1))) (fun g _ _ hg => by cases hg; intro e; exact hne e)
  have h1 := (h0.stored i (.string s)).1
  rw [row_put] at h1
  refine ⟨?_, own_upd h1 (one_set _ gr 1 _) (fun g _ _ hg => by cases hg; intro e; exact hne e), fun _ => ?_, fun e => by cases e⟩
  · have := blk_set (blk_far (blk_set h.blk 3 (.int .i64 (L - 1))) (p := ⟨gs, i, none⟩) (Ne.symm hne) (.string s)) 1 (.int .i64 (d.made + 1))
    rw [hd] at this
    exact this
  · have := h.yes rfl
    simp only [Dk.put]; rw [if_pos hl]; omega
end

/-- What a write leaves: the document's disk, as the disk is. -/
def RefPost (gr gs cap : Nat) (d : Dk) (c : Int) (w : World) (e : Ending) (w' : World) : Prop :=
  e = .returned (.int .i64 c) ∧ (∃ ord L, RefAt w' gr gs cap d ord L) ∧ Upd (Two gr gs) w w'

theorem dead_same {d : Dk} (h : d.dead = true) : ({ d with dead := true } : Dk) = d := by cases d; simp_all

theorem ref_write_dead (gr gs cap : Nat) (i : Int) (s : ByteArray) (d : Dk) (ord : Bool) (L : Int) (w : World) (h0 : 0 ≤ i) (h1 : i < 160) (hs : s.size ≤ 512) (h : RefAt w gr gs cap d ord L) (hg : d.gone = true) :
    Calls Try.prog 48 #[P gr, .int .i64 i, .string s] w (RefPost gr gs cap { d with dead := true } 12 w) := by
  have k2 := h.c2
  have k3 := h.c3
  have k4 := h.c4
  have f4 := h.froz 4
  unfold Dk.gone at hg
  cases ord with
  | true =>
    obtain ⟨hL, hL0⟩ := h.yes rfl
    by_cases hz : L = 0
    · have HH : Hid (RefAt (w.setCell ⟨gr, 4, none⟩ (.bool true)) gr gs cap { d with dead := true } true L) := h.die
      have HU : Hid (Upd (Two gr gs) w (w.setCell ⟨gr, 4, none⟩ (.bool true))) := two_set w gr gs 4 _
      have hzb : (L == 0) = true := beq_iff_eq.2 hz
      clear h hg hL hL0 hz
      generalize d.dead = dd at *
      go_enter Try.func48, Try.ntmps48
      go_wp2
      go_ret
      exact ⟨rfl, ⟨_, _, HH⟩, HU⟩
    · have hd : d.dead = true := by
        rw [← hL] at hg
        cases hd : d.dead
        · rw [hd] at hg; simp at hg; omega
        · rfl
      have HH : Hid (RefAt w gr gs cap { d with dead := true } true L) := by rw [dead_same hd]; exact h
      have hzb : (L == 0) = false := beq_eq_false_iff_ne.2 hz
      rw [hd] at k4
      clear h hg hL hL0 hz hd
      go_enter Try.func48, Try.ntmps48
      go_wp2
      go_ret
      exact ⟨rfl, ⟨_, _, HH⟩, Upd.refl _ _⟩
  | false =>
    have hL := h.no rfl
    have hd : d.dead = true := by
      rw [hL] at hg
      cases hd : d.dead
      · rw [hd] at hg; simp at hg
      · rfl
    have HH : Hid (RefAt w gr gs cap { d with dead := true } false L) := by rw [dead_same hd]; exact h
    rw [hd] at k4
    clear h hg hL hd
    go_enter Try.func48, Try.ntmps48
    go_wp2
    go_ret
    exact ⟨rfl, ⟨_, _, HH⟩, Upd.refl _ _⟩
theorem ref_write_put (gr gs cap : Nat) (i : Int) (s : ByteArray) (d : Dk) (ord : Bool) (L : Int) (w : World) (h0 : 0 ≤ i) (h1 : i < 160) (hs : s.size ≤ 512) (h : RefAt w gr gs cap d ord L) (hg : d.gone = false)
    (hm0 : 0 ≤ d.made) (hm1 : d.made < 4611686018427387904) (hl1 : d.left ≤ 9223372036854775807) :
    Calls Try.prog 48 #[P gr, .int .i64 i, .string s] w (RefPost gr gs cap (d.put i.toNat s) 0 w) := by
  have hi : i.toNat < 160 := by omega
  have k0 := h.c0
  have k1 := h.c1
  have k2 := h.c2
  have k3 := h.c3
  have k4 := h.c4
  have f1 := h.froz 1
  have f3 := h.froz 3
  have ks := h.sec hi
  have fs := h.sfroz i.toNat
  have hne := h.ne
  unfold Dk.gone at hg
  have hd : d.dead = false := by
    cases hd : d.dead
    · rfl
    · rw [hd] at hg; simp at hg
  have hl : d.left ≠ 0 := by rw [hd] at hg; simpa using hg
  rw [hd] at k4
  cases ord with
  | true =>
    obtain ⟨hL, hL0⟩ := h.yes rfl
    have HH : Hid (RefAt (((w.setCell ⟨gr, 3, none⟩ (.int .i64 (L - 1))).setCell ⟨gs, i.toNat, none⟩ (.string s)).setCell ⟨gr, 1, none⟩ (.int .i64 (d.made + 1))) gr gs cap (d.put i.toNat s) true (L - 1)) := h.putO hd (by omega) _ _
    have HU : Hid (Upd (Two gr gs) w (((w.setCell ⟨gr, 3, none⟩ (.int .i64 (L - 1))).setCell ⟨gs, i.toNat, none⟩ (.string s)).setCell ⟨gr, 1, none⟩ (.int .i64 (d.made + 1)))) := ((two_set w gr gs 3 _).trans (two_set' _ gr gs _ _)).trans (two_set _ gr gs 1 _)
    have hzb : (L == 0) = false := beq_eq_false_iff_ne.2 (by omega)
    have hLa : 0 ≤ L := by omega
    have hLb : L ≤ 9223372036854775807 := by omega
    clear h hg hL hL0 hd hl
    generalize d.S i.toNat = u at *
    generalize d.made = n at *
    go_enter Try.func48, Try.ntmps48
    go_wp2
    go_ret
    exact ⟨rfl, ⟨_, _, HH⟩, HU⟩
  | false =>
    have HH : Hid (RefAt ((w.setCell ⟨gs, i.toNat, none⟩ (.string s)).setCell ⟨gr, 1, none⟩ (.int .i64 (d.made + 1))) gr gs cap (d.put i.toNat s) false L) := h.put hd _ _ rfl
    have HU : Hid (Upd (Two gr gs) w ((w.setCell ⟨gs, i.toNat, none⟩ (.string s)).setCell ⟨gr, 1, none⟩ (.int .i64 (d.made + 1)))) := (two_set' w gr gs _ _).trans (two_set _ gr gs 1 _)
    clear h hg hd hl
    generalize d.S i.toNat = u at *
    generalize d.made = n at *
    go_enter Try.func48, Try.ntmps48
    go_wp2
    go_ret
    exact ⟨rfl, ⟨_, _, HH⟩, HU⟩
/-- Write, whatever it is given. -/
theorem ref_write (gr gs cap : Nat) (i : Int) (s : ByteArray) (d : Dk) (ord : Bool) (L : Int) (w : World) (h : RefAt w gr gs cap d ord L) (hm0 : 0 ≤ d.made) (hm1 : d.made < 4611686018427387904) (hl1 : d.left ≤ 9223372036854775807) :
    Calls Try.prog 48 #[P gr, .int .i64 i, .string s] w (RefPost gr gs cap (d.write i s) (d.code i s) w) := by
  by_cases h1 : i < 0 ∨ 160 ≤ i
  · refine (ref_write_sector gr i s w h1).mono ?_
    rintro e w' ⟨rfl, rfl⟩
    unfold Dk.code Dk.write
    rw [if_pos h1, if_pos h1]
    exact ⟨rfl, ⟨_, _, h⟩, Upd.refl _ _⟩
  · by_cases h2 : 512 < s.size
    · refine (ref_write_size gr i s w (by omega) (by omega) h2).mono ?_
      rintro e w' ⟨rfl, rfl⟩
      unfold Dk.code Dk.write
      rw [if_neg h1, if_neg h1, if_pos h2, if_pos h2]
      exact ⟨rfl, ⟨_, _, h⟩, Upd.refl _ _⟩
    · by_cases h3 : d.gone = true
      · have e1 : d.code i s = 12 := by unfold Dk.code; rw [if_neg h1, if_neg h2, if_pos h3]
        have e2 : d.write i s = { d with dead := true } := by unfold Dk.write; rw [if_neg h1, if_neg h2, if_pos h3]
        rw [e1, e2]
        exact ref_write_dead gr gs cap i s d ord L w (by omega) (by omega) (by omega) h h3
      · have e1 : d.code i s = 0 := by unfold Dk.code; rw [if_neg h1, if_neg h2, if_neg h3]
        have e2 : d.write i s = d.put i.toNat s := by unfold Dk.write; rw [if_neg h1, if_neg h2, if_neg h3]
        rw [e1, e2]
        exact ref_write_put gr gs cap i s d ord L w (by omega) (by omega) (by omega) h (by simpa using h3) hm0 hm1 hl1

set_option maxRecDepth 100000 in
theorem ref_new (w : World) : Calls Try.prog 46 #[] w fun e w' => e = .returned (P (w.heap.size + 1)) ∧ RefAt w' (w.heap.size + 1) w.heap.size 160 Dk.new false 0 ∧ Below w.heap.size w w' := by
  have hmk := print_make_of (P := Try.prog) 54 9 (.string ByteArray.empty) 16 Try.underlying54 info9 rfl (by omega) 160 (by omega) w
  have hown := own_made_of (enc := fun s : ByteArray => Value.string s) (d := ByteArray.empty) w 0 9 160 (by omega) (by omega)
  have HE : encs (fun s : ByteArray => Value.string s) (List.replicate 160 ByteArray.empty) = Row Dk.new.S := by
    show List.map _ (List.replicate 160 ByteArray.empty) = Row Dk.new.S
    rw [List.map_replicate]; exact blank_row 160
  rw [HE] at hown
  have HO := Lib.hid hown
  clear hown HE
  replace hmk : (Instr.makeSlice 54 (.int .i64 160) (.int .i64 160)).run Try.prog w = .ok (.slice (some ⟨w.heap.size, 0, none⟩) 160 160) (w.alloc (.cells (madeCells #[.string ByteArray.empty] 160) 9)) := hmk
  change Hid (World.ownsRow (w.alloc (.cells (madeCells #[.string ByteArray.empty] 160) 9)) _ _ _ _ _ _) at HO
  generalize madeCells #[.string ByteArray.empty] 160 = cs at *
  go_enter Try.func46, Try.ntmps46
  go_wp2
  go_ret
  refine ⟨rfl, ⟨?_, own_upd HO (Upd.one_alloc _ _ (fun _ => False)) (fun _ _ _ _ h => h), (fun h => by cases h), fun _ => rfl⟩, ((Below.refl _ _).alloc (Nat.le_refl _) _).alloc (by simp) _⟩
  have := blk_new (w.alloc (.cells cs 9)) (.cells #[.slice (some ⟨w.heap.size, 0, none⟩) 160 160, .int .i64 0, .bool false, .int .i64 0, .bool false] 93)
  rw [show (w.alloc (.cells cs 9)).heap.size = w.heap.size + 1 by simp] at this
  exact this
theorem row_length (S : Nat → ByteArray) : (Row S).length = 160 := by simp [Row]
theorem row_one (S : Nat → ByteArray) : ∀ u ∈ Row S, u.oneCell' = true := by
  intro u hu
  simp only [Row, List.mem_map] at hu
  obtain ⟨j, _, rfl⟩ := hu
  rfl

set_option maxRecDepth 100000 in
set_option maxHeartbeats 2000000 in
theorem ref_clone (gr gs cap : Nat) (d : Dk) (ord : Bool) (L : Int) (w : World) (h : RefAt w gr gs cap d ord L) :
    Calls Try.prog 52 #[P gr] w fun e w' => e = .returned (P w.heap.size) ∧ (∃ gs' cap', RefAt w' w.heap.size gs' cap' d ord L ∧ w.heap.size < gs') ∧ Below w.heap.size w w' := by
  have k0 := h.c0
  have k1 := h.c1
  have k2 := h.c2
  have k3 := h.c3
  have k4 := h.c4
  have hyes := Lib.hid h.yes
  have hno := Lib.hid h.no
  have HR : Hid (∀ j u, (Row d.S)[j]? = some u → w.cell? ((⟨gs, 0, none⟩ : Addr).add j) = some u) := h.row.cells rfl
  have hlt := h.lt
  clear h
  have HS : Hid (Row d.S = Row d.S) := rfl
  generalize hss : Row d.S = rs at *
  have hrl : rs.length = 160 := by rw [← hss]; exact row_length _
  have hro : ∀ u ∈ rs, u.oneCell' = true := by rw [← hss]; exact row_one _
  have HSS := Lib.hid hss
  have HRL := Lib.hid hrl
  have HRO := Lib.hid hro
  clear hss hrl hro HS
  obtain ⟨i0, hi0, hz0, hz1, hz2⟩ := info_parts info9
  have HI0 := Lib.hid hi0
  have HZ0 := Lib.hid hz0
  have HZ1 := Lib.hid hz1
  have HZ2 := Lib.hid hz2
  clear hi0 hz0 hz1 hz2
  generalize hmd : d.made = md at *
  generalize hdd : d.dead = dd at *
  have HMD := Lib.hid hmd
  have HDD := Lib.hid hdd
  clear hmd hdd
  go_enter Try.func52, Try.ntmps52
  go_wp2
  have HK := blk_new w (.cells #[.slice none 0 0, .int .i64 md, .bool ord, .int .i64 L, .bool dd] 93)
  have HBL : Below w.heap.size w (w.alloc (.cells #[.slice none 0 0, .int .i64 md, .bool ord, .int .i64 L, .bool dd] 93)) := (Below.refl _ _).alloc (Nat.le_refl _) _
  have HSZ : (w.alloc (.cells #[.slice none 0 0, .int .i64 md, .bool ord, .int .i64 L, .bool dd] 93)).heap.size = w.heap.size + 1 := by simp
  replace k0 := pw_cell_below HBL k0
  have HR2 : Hid (∀ j u, rs[j]? = some u → (w.alloc (.cells #[.slice none 0 0, .int .i64 md, .bool ord, .int .i64 L, .bool dd] 93)).cell? ((⟨gs, 0, none⟩ : Addr).add j) = some u) := fun j u hu => pw_cell_below HBL (HR.out j u hu)
  have HBL2 := Lib.hid HBL
  have HSZ2 := Lib.hid HSZ
  clear k1 k2 k3 k4 HR HBL HSZ
  generalize w.alloc (.cells #[.slice none 0 0, .int .i64 md, .bool ord, .int .i64 L, .bool dd] 93) = w2 at *
  have e0 : w2.cell? ⟨w.heap.size, 0, none⟩ = some (.slice none 0 0) := by rw [blk_cell HK]; rfl
  have f0 : w2.frozen? ⟨w.heap.size, 0, none⟩ = false := blk_frozen HK 0
  have HK2 := Lib.hid HK
  clear HK
  go_region_law (first
    | (refine step_append_lies _ (by rfl) _ _ _ (by rfl) (w.heap.size + 1) 9 i0 _ 1 16 Try.underlying54 HI0 HZ0 HZ1 HZ2 rfl (by omega) (.slice none 0 0) 0 [] (by rfl) (own_nil _ _ _ _) ⟨gs, 0, none⟩ 160 cap rs (by rfl) (by rw [HRL.out]) HR2 HRO (by omega) (by simp [maxLen]) (by omega) (by have := HSZ2.out; simp; omega) _ rfl ?_; intro g cap' w3 hown3 hgrow3 hat3 hlt3; have e3 := hgrow3.cell e0 (by simp [Value.ownBlock]); have f3 := (World.frozen?_of_block (hgrow3.block w.heap.size (by have := HSZ2.out; simp; omega) (by simp [Value.ownBlock]))).trans f0))
  all_goals
    go_wp2
    go_ret
    have hbk : w3.heap[w.heap.size]? = some (.cells #[.slice none 0 0, .int .i64 md, .bool ord, .int .i64 L, .bool dd] 93 (0, 0)) := (hgrow3.block w.heap.size (by have := HSZ2.out; simp; omega) (by simp [Value.ownBlock])).trans HK2
    have hg1 : w.heap.size < g := (hown3.lt g rfl).1
    have hb2 : Below w.heap.size w w3 := (HBL2.out.drew).grown hgrow3 (by have := HSZ2.out; simp; omega) (fun k hk => by simp [Value.ownBlock] at hk)
    refine ⟨rfl, ⟨g, cap', ⟨?_, ?_, hyes, hno⟩, hg1⟩, hb2.setCell (p := ⟨w.heap.size, 0, none⟩) (Nat.le_refl _) _⟩
    · rw [HMD.out, HDD.out]
      exact blk_set hbk 0 _
    · have h3 : w3.ownsRow 0 9 1 (.slice (some ⟨g, 0, none⟩) 160 cap') 160 (Row d.S) := by
        rw [HSS.out]
        exact own_less hown3 (by omega)
      exact own_upd h3 (one_set _ w.heap.size 0 _) (fun k _ _ hk => by simp [Value.ownBlock] at hk; intro e; unfold JustB at e; omega)
end Go.Proofs.Ytlalaifbipmgeaa.Ref01
