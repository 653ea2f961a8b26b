/- The script of the disk's laws: how it reads, and its bound: 'heavy' answers some bool; false only where the script has at most 1024 steps. -/
import Derived.Test.YtlalaifbipmgeaaDisk
import Derived.Test.YtlalaifbipmgeaaMArgs
import Derived.Outline
import Derived.Lib.Hide
namespace Go.Proofs.Ytlalaifbipmgeaa.Law01
open Go.RowKit Go.Proofs.YtlalaifbipmgeaaW.PrintWords Go.Proofs.Ytlalaifbipmgeaa.MWorld Go.Proofs.Ytlalaifbipmgeaa.MArgs Go.Proofs.Ytlalaifbipmgeaa.Disk Go.ChangeShapes Go.WideShapes Go.Deep

/-- A step of the script. -/
structure Stp where
  kind : Int
  n : Int
  text : ByteArray

def StpR (x : Stp) (cs : List Value) : Prop :=
  cs = [.int .i64 x.kind, .int .i64 x.n, .string x.text] ∧ (Lit.int .i64 x.kind).wf = true ∧ (Lit.int .i64 x.n).wf = true ∧ x.text.size ≤ maxLen

theorem len3 {α : Type} : ∀ {l : List α}, l.length = 3 → ∃ a b c, l = [a, b, c]
  | [a, b, c], _ => ⟨a, b, c, rfl⟩
theorem cellsStep : Try.prog.cellsOf 47 = 3 := by kernel_rfl
theorem bytesStep : Try.prog.bytesOf 47 = 32 := by kernel_rfl
theorem oneStep : oneCellFields Try.prog #[{ name := "Kind", type := 3, offset := 0, embedded := false, tag := "", pkgPath := "", byteOffset := 0 },
  { name := "N", type := 3, offset := 1, embedded := false, tag := "", pkgPath := "", byteOffset := 8 },
  { name := "Text", type := 9, offset := 2, embedded := false, tag := "", pkgPath := "", byteOffset := 16 }] = true := by kernel_rfl

theorem stp_of_trod {H : Type} {enc : TypeId × Value → H} {W : World} {base : Nat} (n : Nat) (cs : List Value) (y : DataW H × List MemPlace)
    (h : DataW.trod enc Try.prog W base (fun _ => true) true n 47 cs = some y) : ∃ x, StpR x cs := by
  obtain ⟨hl, hf⟩ := struct_cells Try.underlying47 oneStep h
  obtain ⟨a, b, c, rfl⟩ := len3 (hl.trans cellsStep)
  obtain ⟨_, _, e0⟩ := hf 0 _ rfl a rfl
  obtain ⟨_, _, e1⟩ := hf 1 _ rfl b rfl
  obtain ⟨_, _, e2⟩ := hf 2 _ rfl c rfl
  obtain ⟨p, rfl, wp⟩ := one_int Try.underlying3 e0
  obtain ⟨q, rfl, wq⟩ := one_int Try.underlying3 e1
  obtain ⟨s, rfl, ws⟩ := one_string Try.underlying9 e2
  exact ⟨⟨p, q, s⟩, rfl, wp, wq, ws⟩

abbrev ScriptIn (W : World) (A : Option Addr) (c : Nat) (l : List Stp) : Prop := RowIn StpR 3 32 W A c l

set_option maxRecDepth 100000 in
theorem open_steps {H : Type} {enc : TypeId × Value → H} {W : World} {base : Nat} {r : Reach} {b0 : Nat} {v : Value} {d : DataW H} {ps : List MemPlace} {ts : List TypeId} {ds : List (DataW H)} {j : Nat}
    (hv : Value.okWide Try.prog W r b0 40 v) (h : DataW.Trod enc Try.prog W base (fun _ => true) true 40 v d ps)
    (hsz : (DataW.weightsEach Try.prog ts ds).all (· ≤ reachBytes) = true) (htj : ts[j]? = some 40) (hd : ds[j]? = some d) :
    ∃ A c l, v = .slice A l.length c ∧ ScriptIn W A c l :=
  open_row_in (R := StpR) (size := 3) (B := 32) (r := r) (b0 := b0) (ts := ts) (ds := ds) (j := j) Try.underlying40 cellsStep bytesStep (stp_of_trod (enc := enc) (W := W) (base := base)) hv h hsz htj hd

/-- The cells of step k, in a world behind the one of the call. -/
theorem ScriptIn.cells {W w : World} {A : Option Addr} {c : Nat} {l : List Stp} (h : ScriptIn W A c l) (hb : Below W.heap.size W w) {k : Nat} {x : Stp} (hk : l[k]? = some x) :
    ∃ ad, A = some ad ∧ w.cell? (ad.add (k * 3)) = some (.int .i64 x.kind) ∧ w.cell? ⟨(ad.add (k * 3)).block, (ad.add (k * 3)).off + 1, none⟩ = some (.int .i64 x.n) ∧
      w.cell? ⟨(ad.add (k * 3)).block, (ad.add (k * 3)).off + 2, none⟩ = some (.string x.text) ∧ -9223372036854775808 ≤ x.n ∧ x.n ≤ 9223372036854775807 ∧ x.text.size ≤ 9223372036854775807 := by
  obtain ⟨ad, cs, e, ⟨rfl, _, wn, ws⟩, hc⟩ := h.at_ hk
  have h0 := pw_cell_below hb (hc 0 _ rfl)
  have h1 := pw_cell_below hb (hc 1 _ rfl)
  have h2 := pw_cell_below hb (hc 2 _ rfl)
  rw [add_field _ _ _ (by omega)] at h1 h2
  have := bounds_i64 wn
  exact ⟨ad, e, h0, h1, h2, this.1, this.2, by simpa [maxLen] using ws⟩

def HeavyPost (l : List Stp) (w : World) (e : Ending) (w' : World) : Prop := ∃ b : Bool, e = .returned (.bool b) ∧ (b = false → l.length ≤ 1024) ∧ w = w'

set_option maxHeartbeats 1000000 in
theorem heavy_any (A : Option Addr) (c : Nat) (l : List Stp) (W w : World) (h : ScriptIn W A c l) (hb : Below W.heap.size W w) :
    Calls Try.prog 24 #[.slice A l.length c] w (HeavyPost l w) := by
  have HS := Lib.hid h
  have HB := Lib.hid hb
  have hlen : l.length ≤ 4611686018427387904 := by have := h.bytes; omega
  clear h hb
  go_enter Try.func24, Try.ntmps24
  go_wp2
  go_loop [3, 4] (fun n i => ∃ (m : Int) (k : Nat), 0 ≤ m ∧ m ≤ 4611686018427387904 ∧ k ≤ l.length ∧ n = .int .i64 m ∧ i = .int .i64 k) (fun _ i => l.length - (intOf i).toNat)
  case atStart => exact ⟨_, 0, by omega, by omega, by omega, rfl, rfl⟩
  case round =>
    obtain ⟨m, k, hm0, hm1, hk, rfl, rfl⟩ := hrel
    by_cases hlt : k < l.length
    · obtain ⟨ad, rfl, h0, h1, h2, _, _, hsz⟩ := ScriptIn.cells HS.out HB.out (List.getElem?_eq_getElem hlt)
      generalize l[k].kind = x0 at *
      generalize l[k].n = x1 at *
      generalize l[k].text = x2 at *
      by_cases hm : m ≤ 262144
      · go_wp2
        all_goals
          go_round
          case rel => exact ⟨_, k + 1, by omega, by omega, by omega, rfl, by go_num⟩
          case measure => simp [intOf]; omega
      · go_wp2
        go_ret
        exact ⟨_, rfl, by intro h; simp at h, rfl⟩
    · by_cases hm : m ≤ 262144
      · go_wp2
        go_ret
        exact ⟨_, rfl, by intro h; simp at h; omega, rfl⟩
      · go_wp2
        go_ret
        exact ⟨_, rfl, by intro h; simp at h, rfl⟩
/-- The disk of a script without orders. -/
structure CalmD (d : Dk) (k : Nat) : Prop where
  left : d.left = -1
  dead : d.dead = false
  made0 : 0 ≤ d.made
  made1 : d.made ≤ k
theorem CalmD.more {d : Dk} {k : Nat} (h : CalmD d k) : CalmD d (k + 1) := ⟨h.left, h.dead, h.made0, by have := h.made1; omega⟩
theorem CalmD.gone {d : Dk} {k : Nat} (h : CalmD d k) : d.gone = false := by
  unfold Dk.gone; rw [h.left, h.dead]; rfl
theorem CalmD.write {d : Dk} {k : Nat} (h : CalmD d k) (i : Int) (s : ByteArray) : CalmD (d.write i s) (k + 1) := by
  have hg := h.gone
  have h1 := h.made0
  have h2 := h.made1
  have h3 := h.left
  unfold Dk.write
  split
  · exact ⟨h.left, h.dead, h1, by omega⟩
  · split
    · exact ⟨h.left, h.dead, h1, by omega⟩
    · split
      · rename_i hc; rw [hg] at hc; cases hc
      · exact ⟨by simp [Dk.put, h3], rfl, by simp [Dk.put]; omega, by simp [Dk.put]; omega⟩
theorem CalmD.code {d : Dk} {k : Nat} (h : CalmD d k) {i : Int} {s : ByteArray} (h0 : 0 ≤ i) (h1 : i < 160) (hs : s.size ≤ 512) : d.code i s = 0 := by
  unfold Dk.code
  rw [if_neg (by omega), if_neg (by omega), if_neg (by rw [h.gone]; simp)]
theorem CalmD.same {d : Dk} {k : Nat} (h : CalmD d k) {i : Int} {s : ByteArray} (h0 : 0 ≤ i) (h1 : i < 160) (hs : s.size ≤ 512) : (d.write i s).S i.toNat = s := by
  unfold Dk.write
  rw [if_neg (by omega), if_neg (by omega), if_neg (by rw [h.gone]; simp)]
  simp [Dk.put]
theorem CalmD.made {d : Dk} {k : Nat} (h : CalmD d k) {i : Int} {s : ByteArray} (h0 : 0 ≤ i) (h1 : i < 160) (hs : s.size ≤ 512) : (d.write i s).made = d.made + 1 := by
  unfold Dk.write
  rw [if_neg (by omega), if_neg (by omega), if_neg (by rw [h.gone]; simp)]
  rfl
theorem write_other (d : Dk) {i j : Int} {s : ByteArray} (h0 : 0 ≤ j) (hn : ¬ (i = j ∧ s.size ≤ 512)) : (d.write i s).S j.toNat = d.S j.toNat := by
  unfold Dk.write
  split
  · rfl
  · split
    · rfl
    · split
      · rfl
      · have : j.toNat ≠ i.toNat := by omega
        simp [Dk.put, this]

/-- How many writes at most; what is left fits. -/
structure Few (d : Dk) (k : Nat) : Prop where
  made0 : 0 ≤ d.made
  made1 : d.made ≤ k
  left1 : d.left ≤ 9223372036854775807
theorem Few.cut {d : Dk} {k : Nat} (h : Few d k) {n : Int} (hn : n ≤ 9223372036854775807) : Few (d.cut n) k := ⟨h.made0, h.made1, by simp only [Dk.cut]; split <;> omega⟩
theorem Few.write {d : Dk} {k : Nat} (h : Few d k) (i : Int) (s : ByteArray) : Few (d.write i s) (k + 1) := by
  have h0 := h.made0
  have h1 := h.made1
  have h2 := h.left1
  unfold Dk.write
  split
  · exact ⟨h0, by omega, h2⟩
  · split
    · exact ⟨h0, by omega, h2⟩
    · split
      · exact ⟨h0, by show d.made ≤ _; omega, h2⟩
      · refine ⟨by simp [Dk.put]; omega, by simp [Dk.put]; omega, ?_⟩
        simp only [Dk.put]; split <;> omega
theorem Few.power {d : Dk} {k : Nat} (h : Few d k) : Few d.power k := ⟨h.made0, h.made1, by simp [Dk.power]⟩
theorem Few.more {d : Dk} {k : Nat} (h : Few d k) : Few d (k + 1) := ⟨h.made0, by have := h.made1; omega, h.left1⟩
theorem Few.new : Few Dk.new 0 := ⟨by decide, by decide, by decide⟩


/-! The sectors as a row. -/
theorem info9 : (Try.prog.info? 9).map (fun i => (i.zero, i.size, i.bytes)) = some (some (.string ByteArray.empty), 1, 16) := by kernel_rfl
def Row (S : Nat → ByteArray) : List Value := (List.range 160).map fun j => .string (S j)
theorem row_at (S : Nat → ByteArray) {j : Nat} (hj : j < 160) : (Row S)[j]? = some (.string (S j)) := by simp [Row, hj]
def Blank (k : Nat) : List Value := List.replicate k (.string ByteArray.empty)
theorem blank_next (k : Nat) : Blank k ++ [.string ByteArray.empty] = Blank (k + 1) := by unfold Blank; rw [List.replicate_succ']
theorem blank_length (k : Nat) : (Blank k).length = k := List.length_replicate ..
theorem blank_row : ∀ n, Blank n = (List.range n).map fun j => .string (Dk.new.S j)
  | 0 => rfl
  | n + 1 => by rw [← blank_next, blank_row n, List.range_succ, List.map_append]; rfl
theorem row_put (d : Dk) (i : Nat) (s : ByteArray) : (Row d.S).set i (.string s) = Row (d.put i s).S := by
  apply List.ext_getElem?
  intro j
  by_cases hj : j < 160
  · rw [row_at _ hj]
    by_cases e : i = j
    · subst e
      rw [List.getElem?_set_self (by simpa [Row] using hj)]; simp [Dk.put]
    · rw [List.getElem?_set_ne e, row_at _ hj]; simp [Dk.put, Ne.symm e]
  · have h1 : (Row d.S).length ≤ j := by simp [Row]; omega
    rw [List.getElem?_eq_none (by simpa using h1), List.getElem?_eq_none (by simp [Row]; omega)]

end Go.Proofs.Ytlalaifbipmgeaa.Law01
