/- WindowWraps in plain Lean: where the numbers begin changes nothing. No condition. -/
import Derived.Test.YtainkpgplmkiaaaWinClosed
import Derived.Test.YtainkpgplmkiaaaWinArgs
namespace Go.Proofs.Ytainkpgplmkiaaa.WinWraps
set_option linter.unusedVariables false
set_option linter.unusedSimpArgs false
open Go Go.Proofs.Ytainkpgplmkiaaa.Win Go.Proofs.Ytainkpgplmkiaaa.Win2 Go.Proofs.Ytainkpgplmkiaaa.WinModel Go.Proofs.Ytainkpgplmkiaaa.Win6 Go.Proofs.Ytainkpgplmkiaaa.WinFlags Go.Proofs.Ytainkpgplmkiaaa.WinOpens Go.Proofs.Ytainkpgplmkiaaa.WinArgs
theorem less_moved (x y s : Int) : less ((x + s) % 4294967296) ((y + s) % 4294967296) = less x y := by
  unfold less
  have e : ((y + s) % 4294967296 - (x + s) % 4294967296) % 4294967296 = (y - x) % 4294967296 := by omega
  rw [e]
theorem later_moved (x y s : Int) : later ((x + s) % 4294967296) ((y + s) % 4294967296) = (later x y + s) % 4294967296 := by
  unfold later
  rw [less_moved]
  cases less x y <;> rfl
theorem grant_moved (sn ac : Bool) (mo ak wi s : Int) : grant sn ac ((mo + s) % 4294967296) ((ak + s) % 4294967296) wi = (grant sn ac mo ak wi + s) % 4294967296 := by
  unfold grant
  have e : ((ak + s) % 4294967296 + wi) % 4294967296 = ((ak + wi) % 4294967296 + s) % 4294967296 := by omega
  rw [e, later_moved]
  cases sn && ac <;> rfl
theorem grant_no (sn : Bool) (mo ak wi : Int) : grant sn false mo ak wi = mo := by
  unfold grant; cases sn <;> rfl
theorem end_moved (sq fl da s : Int) : endOf ((sq + s) % 4294967296) fl da = (endOf sq fl da + s) % 4294967296 := by
  unfold endOf
  cases flag fl 2 <;> cases flag fl 1 <;> simp only [if_true, if_false, Bool.false_eq_true, reduceIte] <;> omega
theorem back_moved (e s : Int) : ((e + s) % 4294967296 - 65536) % 4294967296 = ((e - 65536) % 4294967296 + s) % 4294967296 := by omega
theorem eq_moved (x y s : Int) (h1 : 0 ≤ x) (h2 : x < 4294967296) (h3 : 0 ≤ y) (h4 : y < 4294967296) : ((x + s) % 4294967296 == (y + s) % 4294967296) = (x == y) := by
  rw [Bool.eq_iff_iff]
  simp only [beq_iff_eq]
  omega
theorem end_low (sq fl da : Int) : 0 ≤ endOf sq fl da ∧ endOf sq fl da < 4294967296 := by
  unfold endOf; omega
structure SdR (s : Int) (x x' : Sd) : Prop where
  seen : x'.seen = x.seen
  fin : x'.fin = x.fin
  e : x.seen = true → x'.e = (x.e + s) % 4294967296
  m : x.seen = true → x'.m = (x.m + s) % 4294967296
  r : x.seen = true → 0 ≤ x.e ∧ x.e < 4294967296
/-- A connection whose numbers are so much further on. -/
structure CnR (a b : Int) (c d : Cn) : Prop where
  st : d.st = c.st
  one : c.a.seen = true
  a : SdR a c.a d.a
  b : SdR b c.b d.b
def Same (a b : Int) (r r' : Cn × Bool) : Prop := r'.2 = r.2 ∧ CnR a b r.1 r'.1
theorem same_of {a b : Int} {c d : Cn} (h : CnR a b c d) (g : Bool) : Same a b (c, g) (d, g) := ⟨rfl, h⟩
theorem same_mk {a b : Int} {c d : Cn} {g : Bool} (h1 : d.st = c.st) (h2 : c.a.seen = true) (h3 : SdR a c.a d.a) (h4 : SdR b c.b d.b) : Same a b (c, g) (d, g) := ⟨rfl, h1, h2, h3, h4⟩
theorem sdr_mk {s : Int} {sn fi : Bool} {e m e' m' : Int} (h1 : e' = (e + s) % 4294967296) (h2 : m' = (m + s) % 4294967296) (h3 : 0 ≤ e ∧ e < 4294967296) : SdR s ⟨sn, e, m, fi⟩ ⟨sn, e', m', fi⟩ := ⟨rfl, rfl, fun _ => h1, fun _ => h2, fun _ => h3⟩
theorem sdr_no {s : Int} {fi : Bool} {e m e' m' : Int} : SdR s ⟨false, e, m, fi⟩ ⟨false, e', m', fi⟩ := ⟨rfl, rfl, fun h => (by cases h), fun h => (by cases h), fun h => by cases h⟩
theorem later_low {x y : Int} (hx : 0 ≤ x ∧ x < 4294967296) (hy : 0 ≤ y ∧ y < 4294967296) : 0 ≤ later x y ∧ later x y < 4294967296 := by
  unfold later; cases less x y
  · exact hx
  · exact hy
theorem same_ite {a b : Int} {p : Prop} [Decidable p] {x y x' y' : Cn × Bool} (h1 : p → Same a b x x') (h2 : ¬p → Same a b y y') : Same a b (if p then x else y) (if p then x' else y') := by
  by_cases h : p
  · rw [if_pos h, if_pos h]; exact h1 h
  · rw [if_neg h, if_neg h]; exact h2 h
/-- A segment of the side x, on either side of the connection: both sides are seen. -/
theorem moved_both (a b st e1 m1 e2 m2 sp dp sq ak ak' fl wi ty co he da : Int) (f1 f2 back : Bool) (r1 : 0 ≤ e1 ∧ e1 < 4294967296) (r2 : 0 ≤ e2 ∧ e2 < 4294967296) (rk : 0 ≤ ak ∧ ak < 4294967296)
    (hak : ak' = if flag fl 16 then (ak + (if back then a else b)) % 4294967296 else ak) :
    Same a b (next ⟨st, ⟨true, e1, m1, f1⟩, ⟨true, e2, m2, f2⟩⟩ back ⟨sp, dp, sq, ak, fl, wi, ty, co, he, da⟩) (next ⟨st, ⟨true, (e1 + a) % 4294967296, (m1 + a) % 4294967296, f1⟩, ⟨true, (e2 + b) % 4294967296, (m2 + b) % 4294967296, f2⟩⟩ back ⟨sp, dp, (sq + (if back then b else a)) % 4294967296, ak', fl, wi, ty, co, he, da⟩) := by
  have h0 : CnR a b ⟨st, ⟨true, e1, m1, f1⟩, ⟨true, e2, m2, f2⟩⟩ ⟨st, ⟨true, (e1 + a) % 4294967296, (m1 + a) % 4294967296, f1⟩, ⟨true, (e2 + b) % 4294967296, (m2 + b) % 4294967296, f2⟩⟩ := ⟨rfl, rfl, sdr_mk rfl rfl r1, sdr_mk rfl rfl r2⟩
  have hen := end_low sq fl da
  unfold next synced
  subst hak
  simp only [end_moved]
  generalize flag fl 1 = fi
  generalize flag fl 2 = sy
  generalize flag fl 4 = rs
  generalize flag fl 16 = ac
  generalize endOf sq fl da = en at *
  cases back
  · simp only [Bool.false_eq_true, if_false, reduceIte, back_moved, less_moved, later_moved, eq_moved en e1 a hen.1 hen.2 r1.1 r1.2]
    have y1 : ((true && ac) && less ((e2 + b) % 4294967296) (if ac = true then (ak + b) % 4294967296 else ak)) = ((true && ac) && less e2 ak) := by
      cases ac
      · rfl
      · simp only [if_true, less_moved]
    have y2 : grant true ac ((m2 + b) % 4294967296) (if ac = true then (ak + b) % 4294967296 else ak) wi = (grant true ac m2 ak wi + b) % 4294967296 := by
      cases ac
      · simp only [grant_no]
      · simp only [if_true, grant_moved]
    simp only [y1, y2, Bool.not_true, Bool.not_false, Bool.false_eq_true, if_true, if_false, eq_self]
    repeat' (first | exact same_of h0 _ | refine same_ite (fun _ => ?_) (fun _ => ?_))
    exact same_mk rfl rfl (sdr_mk rfl rfl (later_low r1 hen)) (sdr_mk rfl rfl r2)
  · simp only [if_true, reduceIte, back_moved, less_moved, later_moved, eq_moved en e2 b hen.1 hen.2 r2.1 r2.2]
    have y1 : ((true && ac) && less ((e1 + a) % 4294967296) (if ac = true then (ak + a) % 4294967296 else ak)) = ((true && ac) && less e1 ak) := by
      cases ac
      · rfl
      · simp only [if_true, less_moved]
    have y2 : grant true ac ((m1 + a) % 4294967296) (if ac = true then (ak + a) % 4294967296 else ak) wi = (grant true ac m1 ak wi + a) % 4294967296 := by
      cases ac
      · simp only [grant_no]
      · simp only [if_true, grant_moved]
    simp only [y1, y2, Bool.not_true, Bool.not_false, Bool.false_eq_true, if_true, if_false, eq_self]
    repeat' (first | exact same_of h0 _ | refine same_ite (fun _ => ?_) (fun _ => ?_))
    exact same_mk rfl rfl (sdr_mk rfl rfl r1) (sdr_mk rfl rfl (later_low r2 hen))
/-- .. the side that did not open it is not seen. -/
theorem moved_one (a b st e1 m1 e2 m2 e2' m2' sp dp sq ak ak' fl wi ty co he da : Int) (f1 f2 back : Bool) (r1 : 0 ≤ e1 ∧ e1 < 4294967296) (rk : 0 ≤ ak ∧ ak < 4294967296)
    (hak : ak' = if flag fl 16 then (ak + (if back then a else b)) % 4294967296 else ak) :
    Same a b (next ⟨st, ⟨true, e1, m1, f1⟩, ⟨false, e2, m2, f2⟩⟩ back ⟨sp, dp, sq, ak, fl, wi, ty, co, he, da⟩) (next ⟨st, ⟨true, (e1 + a) % 4294967296, (m1 + a) % 4294967296, f1⟩, ⟨false, e2', m2', f2⟩⟩ back ⟨sp, dp, (sq + (if back then b else a)) % 4294967296, ak', fl, wi, ty, co, he, da⟩) := by
  have h0 : CnR a b ⟨st, ⟨true, e1, m1, f1⟩, ⟨false, e2, m2, f2⟩⟩ ⟨st, ⟨true, (e1 + a) % 4294967296, (m1 + a) % 4294967296, f1⟩, ⟨false, e2', m2', f2⟩⟩ := ⟨rfl, rfl, sdr_mk rfl rfl r1, sdr_no⟩
  have hen := end_low sq fl da
  unfold next synced
  subst hak
  simp only [end_moved]
  generalize flag fl 1 = fi
  generalize flag fl 2 = sy
  generalize flag fl 4 = rs
  generalize flag fl 16 = ac
  generalize endOf sq fl da = en at *
  have gn : ∀ (ac : Bool) (x y : Int), grant false ac x y wi = x := fun ac x y => by unfold grant; rfl
  have ew : ((en + b) % 4294967296 + wi) % 4294967296 = ((en + wi) % 4294967296 + b) % 4294967296 := by omega
  cases back
  · simp only [Bool.false_eq_true, if_false, reduceIte, back_moved, less_moved, later_moved, eq_moved en e1 a hen.1 hen.2 r1.1 r1.2, gn, Bool.false_and, Bool.not_true, Bool.not_false, if_true, eq_self]
    repeat' (first | exact same_of h0 _ | refine same_ite (fun _ => ?_) (fun _ => ?_))
    exact same_mk rfl rfl (sdr_mk rfl rfl (later_low r1 hen)) sdr_no
  · cases ac
    · simp only [if_true, if_false, Bool.false_eq_true, reduceIte, Bool.true_and, Bool.and_false, Bool.false_and, Bool.not_true, Bool.not_false, eq_self]
      repeat' (first | exact same_of h0 _ | refine same_ite (fun _ => ?_) (fun _ => ?_))
    · have bk : ((ak + a) % 4294967296 != (e1 + a) % 4294967296) = (ak != e1) := by
        unfold bne; rw [eq_moved ak e1 a rk.1 rk.2 r1.1 r1.2]
      simp only [if_true, if_false, Bool.false_eq_true, reduceIte, less_moved, grant_moved, bk, ew, eq_moved ak e1 a rk.1 rk.2 r1.1 r1.2, Bool.not_true, Bool.not_false, eq_self]
      repeat' (first | exact same_of h0 _ | exact same_mk rfl rfl (sdr_mk rfl rfl r1) (sdr_mk rfl rfl hen) | exact same_mk rfl rfl (sdr_mk rfl rfl r1) sdr_no | refine same_ite (fun _ => ?_) (fun _ => ?_))
/-- The same segment, so much further on, belongs to the same connection, so much further on. -/
theorem next_moved {a b : Int} {c d : Cn} (h : CnR a b c d) (back : Bool) (t : Tr) (ht : TrOk t) (q2 q3 : Int) (h2 : (t.sq + (if back then b else a)) % 4294967296 = q2) (h3 : (if flag t.fl 16 then (t.ak + (if back then a else b)) % 4294967296 else t.ak) = q3) :
    Same a b (next c back t) (next d back ⟨t.sp, t.dp, q2, q3, t.fl, t.wi, t.ty, t.co, t.he, t.da⟩) := by
  obtain ⟨st, ⟨s1, e1, m1, f1⟩, ⟨s2, e2, m2, f2⟩⟩ := c
  obtain ⟨st', ⟨s1', e1', m1', f1'⟩, ⟨s2', e2', m2', f2'⟩⟩ := d
  obtain ⟨sp, dp, sq, ak, fl, wi, ty, co, he, da⟩ := t
  obtain ⟨k1, k2, ⟨k3, k4, k5, k6, k7⟩, ⟨k8, k9, k10, k11, k12⟩⟩ := h
  replace k1 : st' = st := k1
  replace k2 : s1 = true := k2
  replace k3 : s1' = s1 := k3
  replace k4 : f1' = f1 := k4
  replace k8 : s2' = s2 := k8
  replace k9 : f2' = f2 := k9
  subst k1 k2 k3 k4 k8 k9
  replace k5 : e1' = (e1 + a) % 4294967296 := k5 rfl
  replace k6 : m1' = (m1 + a) % 4294967296 := k6 rfl
  subst k5 k6 h2
  cases s2'
  · exact moved_one a b _ e1 m1 e2 m2 e2' m2' sp dp sq ak q3 fl wi ty co he da _ _ back (k7 rfl) ⟨ht.ak0, ht.ak1⟩ h3.symm
  · replace k10 : e2' = (e2 + b) % 4294967296 := k10 rfl
    replace k11 : m2' = (m2 + b) % 4294967296 := k11 rfl
    subst k10 k11
    exact moved_both a b _ e1 m1 e2 m2 sp dp sq ak q3 fl wi ty co he da _ _ back (k7 rfl) (k12 rfl) ⟨ht.ak0, ht.ak1⟩ h3.symm
theorem opened_moved (t : Tr) (a b q2 q3 : Int) (h2 : (t.sq + a) % 4294967296 = q2) : (opened t = (Cn.zero, false) ∧ opened ⟨t.sp, t.dp, q2, q3, t.fl, t.wi, t.ty, t.co, t.he, t.da⟩ = (Cn.zero, false)) ∨
    ∃ e m e' m', opened t = (⟨1, ⟨true, e, m, false⟩, ⟨false, 0, 0, false⟩⟩, true) ∧ opened ⟨t.sp, t.dp, q2, q3, t.fl, t.wi, t.ty, t.co, t.he, t.da⟩ = (⟨1, ⟨true, e', m', false⟩, ⟨false, 0, 0, false⟩⟩, true) ∧
      CnR a b ⟨1, ⟨true, e, m, false⟩, ⟨false, 0, 0, false⟩⟩ ⟨1, ⟨true, e', m', false⟩, ⟨false, 0, 0, false⟩⟩ := by
  subst h2
  unfold opened
  dsimp only
  rw [end_moved]
  split
  · exact .inl ⟨rfl, rfl⟩
  · refine .inr ⟨_, _, _, _, rfl, rfl, rfl, rfl, sdr_mk rfl ?_ (end_low _ _ _), sdr_no⟩
    omega
end Go.Proofs.Ytainkpgplmkiaaa.WinWraps
