/- The check sum of a header with its own sum behind it is 0, and two bytes at even places that change places change nothing: the pure statement of WireSums, for every list of bytes; conditions: those of the printed statement alone. -/
import Derived.Test.YtlalaifbipmgeaaPWireSumsx2
namespace Go.Proofs.Ytlalaifbipmgeaa.Pure
open Go.RowKit Go.Proofs.Ytlalaifbipmgeaa.PWireSums Go.Proofs.YtlalaifbipmgeaaW.PrintWords Go.Proofs.YtlalaifbipmgeaaW.PrintLast

/-- The sum of the words of bytes. -/
def W : List Int → Int
  | [] => 0
  | [a] => a * 256
  | a :: b :: t => a * 256 + b + W t

/-- A sum, its carries added till it has sixteen bits. -/
def F (s : Int) : Int := if s = 0 then 0 else (s - 1) % 65535 + 1

def Bytes (l : List Int) : Prop := ∀ x ∈ l, 0 ≤ x ∧ x ≤ 255

theorem wrap_in {n : Int} (h0 : -9223372036854775808 ≤ n) (h1 : n ≤ 9223372036854775807) : wrap64 n = n := by
  unfold wrap64; omega

theorem i64_wrap_small (n : Int) (h0 : 0 ≤ n) (h1 : n < 2 ^ 62) : IntKind.i64.wrap n = n := by
  rw [IntKind.wrap_i64]; omega
theorem i64_or8 (x y : Int) (h0 : 0 ≤ x) (h1 : x < 2 ^ 50) (hx : x % 256 = 0) (h2 : 0 ≤ y) (h3 : y ≤ 255) : Go.bits .or .i64 x y = x + y :=
  bits_join .i64 62 (by decide) i64_wrap_small 8 x y h0 (by simpa using hx) (by omega) h2 (by omega) (by omega)
theorem i64_and16 (x : Int) (h0 : 0 ≤ x) (h1 : x < 2 ^ 62) : Go.bits .and .i64 x 65535 = x % 65536 :=
  bits_mask .i64 62 (by decide) i64_wrap_small 16 (by decide) x h0 h1

theorem W_bounds : ∀ l : List Int, Bytes l → 0 ≤ W l ∧ W l ≤ 65535 * (l.length : Int)
  | [], _ => by simp [W]
  | [a], h => by
    have := h a (by simp)
    simp [W]; omega
  | a :: b :: t, h => by
    have ha := h a (by simp)
    have hb := h b (by simp)
    have := W_bounds t (fun x hx => h x (by simp [hx]))
    simp only [W, List.length_cons]; omega

theorem rd_cons_zero (a : Int) (l : List Int) : rd (a :: l) 0 = a := rfl
theorem get_two (a b : Int) (ha : 0 ≤ a ∧ a ≤ 255) (hb : 0 ≤ b ∧ b ≤ 255) : ∀ k, wire_get.f (k + 3) [a, b] = some (a * 256 + b) := by
  intro k
  have e0 : wrap64 0 = 0 := wrap_in (by omega) (by omega)
  have ea : wrap64 a = a := wrap_in (by omega) (by omega)
  have eb : wrap64 b = b := wrap_in (by omega) (by omega)
  have e1 : wrap64 1 = 1 := wrap_in (by omega) (by omega)
  have e2 : wrap64 2 = 2 := wrap_in (by omega) (by omega)
  have e3 : wrap64 (a * 256) = a * 256 := wrap_in (by omega) (by omega)
  have o1 : Go.bits .or .i64 0 a = a := by rw [i64_or8 0 a (by omega) (by omega) (by omega) ha.1 ha.2]; omega
  have o2 : Go.bits .or .i64 (a * 256) b = a * 256 + b := i64_or8 _ _ (by omega) (by omega) (by omega) hb.1 hb.2
  have r0 : rd [a, b] 0 = a := rfl
  have r1 : rd [a, b] 1 = b := rfl
  unfold wire_get.f
  simp [wire_get.l0, e0, ea, eb, e1, e2, e3, o1, o2, r0, r1]

theorem fold_ev (n : Nat) : ∀ s : Int, 0 ≤ s → s.toNat ≤ n → s < 2 ^ 60 → Ev (fun k => wire_Sum.l1 k s) (65535 - F s) := by
  induction n with
  | zero =>
    intro s h0 hn _
    obtain rfl : s = 0 := by omega
    refine ⟨1, fun k hk => ?_⟩
    obtain ⟨m, rfl⟩ : ∃ m, k = m + 1 := ⟨k - 1, by omega⟩
    simp [wire_Sum.l1, F, wrap_in]
  | succ n ih =>
    intro s h0 hn hs
    by_cases hz : s / 65536 = 0
    · refine ⟨1, fun k hk => ?_⟩
      obtain ⟨m, rfl⟩ : ∃ m, k = m + 1 := ⟨k - 1, by omega⟩
      have : wrap64 (65535 - s) = 65535 - F s := by
        rw [wrap_in (by omega) (by omega)]; unfold F; split <;> omega
      simp only [wire_Sum.l1]; rw [if_pos hz, this]
    · have e1 : wrap64 (s / 65536 + Go.bits .and .i64 s 65535) = s / 65536 + s % 65536 := by
        rw [i64_and16 s h0 (by omega)]; exact wrap_in (by omega) (by omega)
      have hF : F (s / 65536 + s % 65536) = F s := by unfold F; split <;> split <;> omega
      have := ih (s / 65536 + s % 65536) (by omega) (by omega) (by omega)
      rw [hF] at this
      refine Ev.step (fun k => ?_) this
      simp only [wire_Sum.l1]; rw [if_neg hz, e1]

theorem sum_ev (n : Nat) : ∀ (l : List Int) (s : Int), l.length ≤ n → Bytes l → 0 ≤ s → s + 65535 * (l.length : Int) < 2 ^ 60 → Ev (fun k => wire_Sum.l0 k l s) (65535 - F (s + W l)) := by
  induction n with
  | zero =>
    intro l s hl _ h0 hs
    obtain rfl := List.eq_nil_of_length_eq_zero (Nat.le_zero.1 hl)
    refine Ev.step (f := fun k => wire_Sum.j1 k s) (fun k => by simp [wire_Sum.l0]) ?_
    refine Ev.step (f := fun k => wire_Sum.l1 k s) (fun k => by simp [wire_Sum.j1]) ?_
    simp only [W, Int.add_zero]
    exact fold_ev s.toNat s h0 (Nat.le_refl _) (by simpa using hs)
  | succ n ih =>
    intro l s hl hb h0 hs
    match l with
    | [] =>
      refine Ev.step (f := fun k => wire_Sum.j1 k s) (fun k => by simp [wire_Sum.l0]) ?_
      refine Ev.step (f := fun k => wire_Sum.l1 k s) (fun k => by simp [wire_Sum.j1]) ?_
      simp only [W, Int.add_zero]
      exact fold_ev s.toNat s h0 (Nat.le_refl _) (by simpa using hs)
    | [a] =>
      have ha := hb a (by simp)
      have hs' : s + 65535 < 2 ^ 60 := by simpa using hs
      have ea : wrap64 a = a := wrap_in (by omega) (by omega)
      have eb : wrap64 (a * 256) = a * 256 := wrap_in (by omega) (by omega)
      have ec : wrap64 (s + a * 256) = s + a * 256 := wrap_in (by omega) (by omega)
      refine Ev.step (f := fun k => wire_Sum.j1 k (s + a * 256)) (fun k => by simp [wire_Sum.l0, rd_cons_zero, ea, eb, ec]) ?_
      refine Ev.step (f := fun k => wire_Sum.l1 k (s + a * 256)) (fun k => by simp [wire_Sum.j1]) ?_
      simp only [W]
      exact fold_ev (s + a * 256).toNat _ (by omega) (Nat.le_refl _) (by omega)
    | a :: b :: t =>
      have ha := hb a (by simp)
      have hbb := hb b (by simp)
      have hbt : Bytes t := fun x hx => hb x (by simp [hx])
      have hlt : t.length ≤ n := by simp at hl; omega
      have hs' : s + 65535 * ((t.length : Int) + 1 + 1) < 2 ^ 60 := by simpa using hs
      have ec : wrap64 (s + (a * 256 + b)) = s + (a * 256 + b) := wrap_in (by omega) (by omega)
      have hrec := ih t (s + (a * 256 + b)) hlt hbt (by omega) (by omega)
      have hev : Ev (fun k => (wire_get.f k [a, b]).bind fun t107 => wire_Sum.l0 k t (wrap64 (s + t107))) (65535 - F (s + W (a :: b :: t))) := by
        refine Ev.bind (a := a * 256 + b) ⟨3, fun k hk => ?_⟩ ?_
        · obtain ⟨m, rfl⟩ : ∃ m, k = m + 3 := ⟨k - 3, by omega⟩
          exact get_two a b ha hbb m
        · rw [ec]
          have : s + W (a :: b :: t) = s + (a * 256 + b) + W t := by simp only [W]; omega
          rw [this]; exact hrec
      refine Ev.step (fun k => ?_) hev
      simp only [wire_Sum.l0, List.length_cons]
      rw [if_pos (by omega), if_pos (by omega)]
      rfl

theorem Sum_ev (l : List Int) (hb : Bytes l) (hl : l.length ≤ 100000) : Ev (fun k => wire_Sum.f k l) (65535 - F (W l)) := by
  have := sum_ev l.length l 0 (Nat.le_refl _) hb (by omega) (by omega)
  rw [Int.zero_add] at this
  exact this

/-! The reference. -/
theorem rfold_ev (n : Nat) : ∀ s : Int, 0 ≤ s → s.toNat ≤ n → s < 2 ^ 60 → Ev (fun k => sallyportref04_Sum.l1 k s) (65535 - F s) := by
  induction n with
  | zero =>
    intro s h0 hn _
    obtain rfl : s = 0 := by omega
    refine ⟨1, fun k hk => ?_⟩
    obtain ⟨m, rfl⟩ : ∃ m, k = m + 1 := ⟨k - 1, by omega⟩
    simp [sallyportref04_Sum.l1, F, wrap_in]
  | succ n ih =>
    intro s h0 hn hs
    by_cases hz : s > 65535
    · have ed : Int.tdiv s 65536 = s / 65536 := Int.tdiv_eq_ediv_of_nonneg h0
      have em : Int.tmod s 65536 = s % 65536 := Int.tmod_eq_emod_of_nonneg h0
      have e1 : wrap64 (wrap64 (Int.tdiv s 65536) + Int.tmod s 65536) = s / 65536 + s % 65536 := by
        rw [ed, em, wrap_in (n := s / 65536) (by omega) (by omega)]; exact wrap_in (by omega) (by omega)
      have hF : F (s / 65536 + s % 65536) = F s := by unfold F; split <;> split <;> omega
      have := ih (s / 65536 + s % 65536) (by omega) (by omega) (by omega)
      rw [hF] at this
      refine Ev.step (fun k => ?_) this
      simp only [sallyportref04_Sum.l1]; rw [if_pos hz, e1]
    · refine ⟨1, fun k hk => ?_⟩
      obtain ⟨m, rfl⟩ : ∃ m, k = m + 1 := ⟨k - 1, by omega⟩
      have : wrap64 (65535 - s) = 65535 - F s := by
        rw [wrap_in (by omega) (by omega)]; unfold F; split <;> omega
      simp only [sallyportref04_Sum.l1]; rw [if_neg hz, this]

theorem rsum_ev (l : List Int) (hb : Bytes l) (hl : l.length ≤ 100000) (n : Nat) : ∀ (i : Nat) (s : Int), l.length ≤ i + n → 0 ≤ s → s + 65535 * ((l.length : Int) - i) < 2 ^ 60 → i ≤ l.length + 2 → s < 2 ^ 60 →
    Ev (fun k => sallyportref04_Sum.l0 k l s i) (65535 - F (s + W (l.drop i))) := by
  induction n with
  | zero =>
    intro i s hi h0 hs hil hs2
    refine Ev.step (f := fun k => sallyportref04_Sum.l1 k s) (fun k => by simp only [sallyportref04_Sum.l0]; rw [if_neg (by omega)]) ?_
    rw [List.drop_eq_nil_of_le (by omega)]
    simp only [W, Int.add_zero]
    exact rfold_ev s.toNat s h0 (Nat.le_refl _) hs2
  | succ n ih =>
    intro i s hi h0 hs hil hs2
    by_cases hlt : i < l.length
    · have e1 : wrap64 ((i : Int) + 1) = ((i + 1 : Nat) : Int) := by rw [wrap_in (by omega) (by omega)]; omega
      have e2 : wrap64 ((i : Int) + 2) = ((i + 2 : Nat) : Int) := by rw [wrap_in (by omega) (by omega)]; omega
      have hd : l.drop i = l[i] :: l.drop (i + 1) := List.drop_eq_getElem_cons hlt
      have hr : rd l (i : Int) = l[i] := by unfold rd; simp [List.getD_eq_getElem?_getD, List.getElem?_eq_getElem hlt]
      have ha := hb l[i] (List.getElem_mem _)
      have ea : wrap64 (l[i]) = l[i] := wrap_in (by omega) (by omega)
      have eb : wrap64 (l[i] * 256) = l[i] * 256 := wrap_in (by omega) (by omega)
      have ec : wrap64 (s + l[i] * 256) = s + l[i] * 256 := wrap_in (by omega) (by omega)
      by_cases h2 : i + 1 < l.length
      · have hd2 : l.drop (i + 1) = l[i + 1] :: l.drop (i + 2) := List.drop_eq_getElem_cons h2
        have hr2 : rd l ((i + 1 : Nat) : Int) = l[i + 1] := by unfold rd; simp [List.getD_eq_getElem?_getD, List.getElem?_eq_getElem h2]
        have hb2 := hb l[i + 1] (List.getElem_mem _)
        have eb2 : wrap64 (l[i + 1]) = l[i + 1] := wrap_in (by omega) (by omega)
        have ed : wrap64 (s + l[i] * 256 + l[i + 1]) = s + l[i] * 256 + l[i + 1] := wrap_in (by omega) (by omega)
        have hrec := ih (i + 2) (s + l[i] * 256 + l[i + 1]) (by omega) (by omega) (by omega) (by omega) (by omega)
        have hw : s + W (l.drop i) = s + l[i] * 256 + l[i + 1] + W (l.drop (i + 2)) := by rw [hd, hd2]; simp only [W]; omega
        rw [hw]
        refine Ev.step (fun k => ?_) hrec
        simp only [sallyportref04_Sum.l0]
        rw [if_pos (by omega), if_pos (by omega), e1, if_pos (by omega), if_pos (by omega), hr, ea, eb, ec, hr2, eb2, ed, e2]
      · have hd2 : l.drop (i + 1) = [] := List.drop_eq_nil_of_le (by omega)
        have hrec := ih (i + 2) (s + l[i] * 256) (by omega) (by omega) (by omega) (by omega) (by omega)
        rw [List.drop_eq_nil_of_le (by omega : l.length ≤ i + 2)] at hrec
        have hw : s + W (l.drop i) = s + l[i] * 256 + W [] := by rw [hd, hd2]; simp only [W]; omega
        rw [hw]
        refine Ev.step (fun k => ?_) hrec
        simp only [sallyportref04_Sum.l0]
        rw [if_pos (by omega), if_pos (by omega), e1, if_neg (by omega), hr, ea, eb, ec, e2]
    · refine Ev.step (f := fun k => sallyportref04_Sum.l1 k s) (fun k => by simp only [sallyportref04_Sum.l0]; rw [if_neg (by omega)]) ?_
      rw [List.drop_eq_nil_of_le (by omega)]
      simp only [W, Int.add_zero]
      exact rfold_ev s.toNat s h0 (Nat.le_refl _) hs2

theorem rSum_ev (l : List Int) (hb : Bytes l) (hl : l.length ≤ 100000) : Ev (fun k => sallyportref04_Sum.f k l) (65535 - F (W l)) := by
  have := rsum_ev l hb hl l.length 0 0 (by omega) (by omega) (by omega) (by omega) (by omega)
  rw [Int.zero_add, List.drop_zero] at this
  exact this

/-! What the law says of words. -/
theorem W_append_even (n : Nat) : ∀ l r : List Int, l.length = 2 * n → W (l ++ r) = W l + W r := by
  induction n with
  | zero => intro l r h; obtain rfl := List.eq_nil_of_length_eq_zero (by omega : l.length = 0); simp [W]
  | succ n ih =>
    intro l r h
    match l with
    | [] => simp at h
    | [a] => simp at h; omega
    | a :: b :: t =>
      have ht : t.length = 2 * n := by simp at h; omega
      simp only [List.cons_append, W, ih t r ht]; omega

theorem W_pad (n : Nat) : ∀ l : List Int, l.length = 2 * n + 1 → W (l ++ [0]) = W l := by
  induction n with
  | zero =>
    intro l h
    match l with
    | [a] => simp [W]
    | [] => simp at h
    | a :: b :: t => simp at h
  | succ n ih =>
    intro l h
    match l with
    | [] => simp at h
    | [a] => simp at h
    | a :: b :: t =>
      have ht : t.length = 2 * n + 1 := by simp at h; omega
      simp only [List.cons_append, W, ih t ht]

/-- One byte at an even place is another one. -/
theorem W_set (n : Nat) : ∀ (l : List Int) (i : Nat) (v : Int), l.length = 2 * n → 2 * i < l.length → W (l.set (2 * i) v) = W l + (v - rd l ((2 * i : Nat) : Int)) * 256 := by
  induction n with
  | zero => intro l i v h hi; omega
  | succ n ih =>
    intro l i v h hi
    match l with
    | [] => simp at h
    | [a] => simp at h; omega
    | a :: b :: t =>
      have ht : t.length = 2 * n := by simp at h; omega
      match i with
      | 0 => simp [W, rd]; omega
      | i + 1 =>
        have h2 : 2 * i < t.length := by simp at hi; omega
        have := ih t i v ht h2
        have e : rd (a :: b :: t) ((2 * (i + 1) : Nat) : Int) = rd t ((2 * i : Nat) : Int) := by
          unfold rd
          rw [Int.toNat_natCast, Int.toNat_natCast, show 2 * (i + 1) = 2 * i + 1 + 1 by omega]
          rfl
        rw [e, show 2 * (i + 1) = 2 * i + 1 + 1 by omega]
        simp only [List.set_cons_succ, W, this]; omega

theorem rd_set_same (l : List Int) (i : Nat) (v : Int) (h : i < l.length) : rd (l.set i v) (i : Int) = v := by
  unfold rd; simp [List.getD_eq_getElem?_getD, h]
theorem rd_set_ne (l : List Int) (i j : Nat) (v : Int) (h : i ≠ j) : rd (l.set i v) (j : Int) = rd l (j : Int) := by
  unfold rd; simp [List.getD_eq_getElem?_getD, List.getElem?_set_ne h]
theorem W_swap (n : Nat) (l : List Int) (i k : Nat) (h : l.length = 2 * n) (hi : 2 * i < l.length) (hk : 2 * k < l.length) :
    W ((l.set (2 * i) (rd l ((2 * k : Nat) : Int))).set (2 * k) (rd l ((2 * i : Nat) : Int))) = W l := by
  rw [W_set n _ k _ (by simpa using h) (by simpa using hk), W_set n l i _ h hi]
  by_cases e : i = k
  · subst e
    rw [rd_set_same _ _ _ hi]; omega
  · rw [rd_set_ne _ _ _ _ (by omega)]; omega

theorem rd_byte (l : List Int) (hb : Bytes l) (i : Nat) (h : i < l.length) : 0 ≤ rd l (i : Int) ∧ rd l (i : Int) ≤ 255 := by
  have : rd l (i : Int) = l[i] := by unfold rd; simp [List.getD_eq_getElem?_getD, List.getElem?_eq_getElem h]
  rw [this]; exact hb _ (List.getElem_mem _)
theorem bytes_set (l : List Int) (hb : Bytes l) (i : Nat) (v : Int) (h0 : 0 ≤ v) (h1 : v ≤ 255) : Bytes (l.set i v) := fun x hx => by
  rcases List.mem_or_eq_of_mem_set hx with h | h
  · exact hb x h
  · subst h; exact ⟨h0, h1⟩

/-- The place that the law takes. -/
theorem place (a : Int) (m : Nat) (hm : 2 ≤ m) (hm2 : m ≤ 100000) :
    ∃ p : Nat, p < m ∧ wrap64 (Int.tmod (wrap64 (Int.tmod a (m : Int) + (m : Int))) (m : Int) * 2) = ((2 * p : Nat) : Int) := by
  have h1 : -(m : Int) < Int.tmod a m ∧ Int.tmod a m < m := by
    constructor
    · have := Int.lt_tmod_of_pos a (b := (m : Int)) (by omega); omega
    · exact Int.tmod_lt_of_pos a (by omega)
  rw [wrap_in (n := Int.tmod a (m : Int) + m) (by omega) (by omega)]
  generalize hq : Int.tmod a (m : Int) + m = q at *
  have hq0 : 0 ≤ q := by omega
  rw [Int.tmod_eq_emod_of_nonneg hq0]
  have h2 := Int.emod_nonneg q (by omega : (m : Int) ≠ 0)
  have h3 := Int.emod_lt_of_pos q (by omega : (0 : Int) < m)
  refine ⟨(q % (m : Int)).toNat, by omega, ?_⟩
  rw [wrap_in (by omega) (by omega)]; omega

theorem wf_u8 {x : Int} (h : (Lit.int .u8 x).wf = true) : 0 ≤ x ∧ x ≤ 255 := by
  simp [Lit.wf, IntKind.min, IntKind.max, IntKind.bits, IntKind.signed] at h; omega
theorem sum_range (l : List Int) (hb : Bytes l) : 0 ≤ 65535 - F (W l) ∧ 65535 - F (W l) ≤ 65535 := by
  have := (W_bounds l hb).1
  unfold F; split <;> omega

/-- From the sum on. -/
theorem tail_ev (l x : List Int) (a1 a2 : Int) (hb : Bytes l) (h4 : 4 ≤ l.length) (hl : l.length ≤ 65536)
    (n : Nat) (hx : x.length = 2 * n) (hxl : l.length ≤ x.length) (hxu : x.length ≤ 65538) (hbx : Bytes x) (hw : W x = W l) :
    Ev (fun k => sallyportlaw04_WireSums.j2 k l a1 a2 (65535 - F (W l)) x) true := by
  have em : wrap64 ((l.length : Int) / 2) = ((l.length / 2 : Nat) : Int) := by rw [wrap_in (by omega) (by omega)]; omega
  obtain ⟨p, hp, ep⟩ := place a1 (l.length / 2) (by omega) (by omega)
  obtain ⟨q, hq, eq⟩ := place a2 (l.length / 2) (by omega) (by omega)
  have hr := sum_range l hb
  generalize hnn : 65535 - F (W l) = nn at *
  have hy : Bytes ((x.set (2 * p) (rd x ((2 * q : Nat) : Int))).set (2 * q) (rd x ((2 * p : Nat) : Int))) :=
    bytes_set _ (bytes_set _ hbx _ _ (rd_byte x hbx _ (by omega)).1 (rd_byte x hbx _ (by omega)).2) _ _ (rd_byte x hbx _ (by omega)).1 (rd_byte x hbx _ (by omega)).2
  have hWy := W_swap n x p q hx (by omega) (by omega)
  have hyl : ((x.set (2 * p) (rd x ((2 * q : Nat) : Int))).set (2 * q) (rd x ((2 * p : Nat) : Int))).length = 2 * n := by simpa using hx
  generalize hyy : (x.set (2 * p) (rd x ((2 * q : Nat) : Int))).set (2 * q) (rd x ((2 * p : Nat) : Int)) = y at *
  have ev1 := Sum_ev y hy (by omega)
  rw [hWy, hw, hnn] at ev1
  have hz : Bytes (y ++ [nn / 256 % 256, nn % 256]) := by
    intro v hv
    rcases List.mem_append.1 hv with h | h
    · exact hy v h
    · simp at h; rcases h with h | h <;> omega
  have ev2 := Sum_ev (y ++ [nn / 256 % 256, nn % 256]) hz (by simp; omega)
  have hWz : 65535 - F (W (y ++ [nn / 256 % 256, nn % 256])) = 0 := by
    rw [W_append_even n _ _ hyl, hWy, hw]
    have h0 := (W_bounds l hb).1
    have : W [nn / 256 % 256, nn % 256] = nn := by simp [W]; omega
    rw [this, ← hnn]
    unfold F; split <;> split <;> omega
  rw [hWz] at ev2
  have hfin : Ev (fun k => (wire_Sum.f k y).bind fun t132 => if t132 = nn then ((some (([nn / 256 % 256, nn % 256] : List Int) : List Int)).bind fun y133 => (if y.length + y133.length < 140737488355328 then ((wire_Sum.f k (y ++ y133)).bind fun t139 => (some (t139 == 0))) else (none))) else (some false)) true := by
    refine Ev.bind ev1 ?_
    have hlt : y.length + [nn / 256 % 256, nn % 256].length < 140737488355328 := by simp; omega
    simp only [if_true, Option.bind_some, hlt]
    exact Ev.bind ev2 ⟨0, fun _ _ => rfl⟩
  refine Ev.step (fun k => ?_) hfin
  simp only [sallyportlaw04_WireSums.j2]
  rw [em, ep, eq, if_neg (by omega), if_pos (by omega), if_pos (by omega), if_pos (by omega), if_pos (by omega)]
  simp only [Option.bind_some, Int.toNat_natCast]
  rw [hyy]

theorem WireSums : sallyportlaw04_WireSums.Pure := by
  intro l a1 a2 _ _ hb _ _
  have hb' : Bytes l := fun x hx => wf_u8 (hb x hx)
  refine Ev.rounds ?_
  unfold sallyportlaw04_WireSums.f sallyportlaw04_long.f
  simp only [Option.bind_some]
  by_cases hlong : (l.length : Int) > 65536
  · simp only [decide_eq_true hlong, if_true]
    exact Ev.step (fun k => by simp [sallyportlaw04_WireSums.j0]) (Ev.now true)
  · simp only [decide_eq_false hlong, Bool.false_eq_true, if_false]
    by_cases h4 : (l.length : Int) < 4
    · refine Ev.step (f := fun _ => some true) (fun k => by simp only [sallyportlaw04_WireSums.j0]; rw [if_pos (by simpa using h4)]) (Ev.now true)
    · have hr := sum_range l hb'
      have hlen : l.length ≤ 65536 := by omega
      have ev1 := Sum_ev l hb' (by omega)
      have ev2 := rSum_ev l hb' (by omega)
      have hmid : Ev (fun k => (wire_Sum.f k l).bind fun t117 => ((sallyportref04_Sum.f k l).bind fun t118 => (if t117 = t118 then (if t117 < 0 then (sallyportlaw04_WireSums.j1 k l a1 a2 t117 true) else (sallyportlaw04_WireSums.j1 k l a1 a2 t117 (decide (t117 > 65535)))) else (sallyportlaw04_WireSums.j1 k l a1 a2 t117 true)))) true := by
        refine Ev.bind ev1 (Ev.bind ev2 ?_)
        have g1 : ¬ (65535 - F (W l) < 0) := by omega
        have g2 : ¬ (65535 - F (W l) > 65535) := by omega
        simp only [if_true, if_neg g1, decide_eq_false g2]
        by_cases hodd : (l.length : Int) % 2 = 1
        · refine Ev.step (f := fun k => sallyportlaw04_WireSums.j2 k l a1 a2 (65535 - F (W l)) (l ++ [0])) (fun k => ?_) ?_
          · simp only [sallyportlaw04_WireSums.j1, Option.bind_some, List.nil_append, List.length_nil]
            rw [if_neg (by simp), if_pos (by omega), if_pos hodd, if_pos (by omega)]
          · obtain ⟨n, hn⟩ : ∃ n, l.length = 2 * n + 1 := ⟨l.length / 2, by omega⟩
            refine tail_ev l (l ++ [0]) a1 a2 hb' (by omega) hlen (n + 1) (by simp; omega) (by simp) (by simp; omega) ?_ (W_pad n l hn)
            intro v hv
            rcases List.mem_append.1 hv with h | h
            · exact hb' v h
            · simp at h; omega
        · refine Ev.step (f := fun k => sallyportlaw04_WireSums.j2 k l a1 a2 (65535 - F (W l)) l) (fun k => ?_) ?_
          · simp only [sallyportlaw04_WireSums.j1, Option.bind_some, List.nil_append, List.length_nil]
            rw [if_neg (by simp), if_pos (by omega), if_neg hodd]
          · obtain ⟨n, hn⟩ : ∃ n, l.length = 2 * n := ⟨l.length / 2, by omega⟩
            exact tail_ev l l a1 a2 hb' (by omega) hlen n hn (Nat.le_refl _) (by omega) hb' rfl
      refine Ev.step (fun k => ?_) hmid
      simp only [sallyportlaw04_WireSums.j0]
      rw [if_neg (by simpa using h4)]

end Go.Proofs.Ytlalaifbipmgeaa.Pure
