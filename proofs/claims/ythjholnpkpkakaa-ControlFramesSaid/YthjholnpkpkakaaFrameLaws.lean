/- The plain law of control's frames: what the document's answer computes, as lists; no program in sight. -/
import Derived.Test.YthjholnpkpkakaaPControlFramesx3
import Derived.Test.YthjholnpkpkakaaPControlFramesx2
import Derived.Test.YthjholnpkpkakaaPControlFramesx1
namespace Go.Proofs.Ythjholnpkpkakaa.FrameLaws
open Go.RowKit Go.Proofs.YthjholnpkpkakaaW.PrintWords Go.Proofs.YthjholnpkpkakaaW.PrintMore Go.Proofs.Ythjholnpkpkakaa.PControlFrames
set_option linter.unusedVariables false

/-- All are bytes. -/
def Byt (xs : List Int) : Prop := ∀ x ∈ xs, 0 ≤ x ∧ x < 256
theorem Byt.take {xs : List Int} (h : Byt xs) (n : Nat) : Byt (xs.take n) := fun x hx => h x (List.mem_of_mem_take hx)
theorem Byt.drop {xs : List Int} (h : Byt xs) (n : Nat) : Byt (xs.drop n) := fun x hx => h x (List.mem_of_mem_drop hx)
theorem Byt.append {xs ys : List Int} (h : Byt xs) (k : Byt ys) : Byt (xs ++ ys) := fun x hx => (List.mem_append.1 hx).elim (h x) (k x)
theorem Byt.sum {xs : List Int} (h : Byt xs) : 0 ≤ xs.sum ∧ xs.sum ≤ 255 * xs.length := by
  induction xs with
  | nil => simp
  | cons a l ih =>
    have h1 := h a (by simp)
    have h2 := ih (fun x hx => h x (by simp [hx]))
    rw [List.sum_cons, List.length_cons]
    omega

theorem rd_at (xs : List Int) (i : Nat) (h : i < xs.length) : rd xs (i : Int) = xs[i] := by
  simp [rd, List.getD_eq_getElem?_getD, h]
theorem wrap_of {x : Int} (h0 : -9223372036854775808 ≤ x) (h1 : x < 9223372036854775808) : wrap64 x = x := by
  unfold wrap64; omega

/-- sum -/
theorem sum_l0 (xs : List Int) (hl : xs.length < 100000000) : ∀ (m i : Nat) (acc : Int), i + m = xs.length → 0 ≤ acc → acc < 256 →
    control_sum.l0 (m + 1) acc xs (xs.length : Int) i = some ((acc + (xs.drop i).sum) % 256)
  | 0, i, acc, h, h0, h1 => by
    have hi : ¬ ((i : Int) < (xs.length : Int)) := by omega
    rw [control_sum.l0, if_neg hi, List.drop_eq_nil_of_le (by omega)]
    simp; omega
  | m + 1, i, acc, h, h0, h1 => by
    have hi : ((i : Int) < (xs.length : Int)) := by omega
    have hlt : i < xs.length := by omega
    rw [control_sum.l0, if_pos hi, if_pos (by omega), if_pos hi, rd_at xs i hlt, wrap_of (by omega) (by omega)]
    have := sum_l0 xs hl m (i + 1) ((acc + xs[i]) % 256) (by omega) (Int.emod_nonneg _ (by omega)) (Int.emod_lt_of_pos _ (by omega))
    rw [show ((i : Int) + 1) = ((i + 1 : Nat) : Int) by omega, this, List.drop_eq_getElem_cons hlt, List.sum_cons]
    congr 1
    omega
theorem sum_f (xs : List Int) (hl : xs.length < 100000000) : control_sum.f (xs.length + 1) xs = some (xs.sum % 256) := by
  have := sum_l0 xs hl xs.length 0 0 (by omega) (by omega) (by omega)
  simpa [control_sum.f] using this

/-- A frame's bytes without the sum; a frame. -/
def head (op seq st : Int) (body : List Int) : List Int :=
  [(7 + (body.length : Int)) / 256, (7 + (body.length : Int)) % 256, op, seq / 256, seq % 256, st] ++ body
def frame (op seq st : Int) (body : List Int) : List Int := head op seq st body ++ [(head op seq st body).sum % 256]
def Fits (op seq st : Int) (body : List Int) : Prop := 0 ≤ op ∧ op ≤ 255 ∧ 0 ≤ st ∧ st ≤ 255 ∧ 0 ≤ seq ∧ seq ≤ 65535 ∧ body.length ≤ 1017
instance (op seq st : Int) (body : List Int) : Decidable (Fits op seq st body) := by unfold Fits; infer_instance

theorem head_length (op seq st : Int) (body : List Int) : (head op seq st body).length = 6 + body.length := by simp [head]; omega
theorem frame_length (op seq st : Int) (body : List Int) : (frame op seq st body).length = 7 + body.length := by simp [frame, head_length]; omega
theorem head_byt {op seq st : Int} {body : List Int} (h : Fits op seq st body) (hb : Byt body) : Byt (head op seq st body) := by
  obtain ⟨h1, h2, h3, h4, h5, h6, h7⟩ := h
  refine Byt.append ?_ hb
  intro x hx
  simp at hx
  omega
theorem frame_byt {op seq st : Int} {body : List Int} (h : Fits op seq st body) (hb : Byt body) : Byt (frame op seq st body) := by
  refine Byt.append (head_byt h hb) ?_
  intro x hx
  simp at hx
  omega

theorem enc_l0 (xs : List Int) (hb : Byt xs) (hl : xs.length < 100000000) : ∀ (m i : Nat) (acc : Int), i + m = xs.length → 0 ≤ acc → acc ≤ 255 * i →
    sallyportref20_Encode.l0 (m + 1) xs acc i = some (xs ++ [(acc + (xs.drop i).sum) % 256], 0)
  | 0, i, acc, h, h0, h1 => by
    have hi : ¬ ((i : Int) < (xs.length : Int)) := by omega
    rw [sallyportref20_Encode.l0, if_neg hi, List.drop_eq_nil_of_le (by omega), if_pos (by omega), Int.tmod_eq_emod_of_nonneg h0]
    simp
  | m + 1, i, acc, h, h0, h1 => by
    have hi : ((i : Int) < (xs.length : Int)) := by omega
    have hlt : i < xs.length := by omega
    have hx := hb xs[i] (List.getElem_mem hlt)
    rw [sallyportref20_Encode.l0, if_pos hi, if_pos (by omega), rd_at xs i hlt, wrap_of (x := xs[i]) (by omega) (by omega), wrap_of (x := acc + xs[i]) (by omega) (by omega), wrap_of (by omega) (by omega)]
    have := enc_l0 xs hb hl m (i + 1) (acc + xs[i]) (by omega) (by omega) (by omega)
    rw [show ((i : Int) + 1) = ((i + 1 : Nat) : Int) by omega, this, List.drop_eq_getElem_cons hlt, List.sum_cons]
    congr 4
    omega

theorem within_f (n hi : Int) : sallyportref20_within.f n hi = some (decide (0 ≤ n ∧ n ≤ hi)) := by
  unfold sallyportref20_within.f
  by_cases h : n ≥ 0
  · rw [if_pos h]; congr 1; exact decide_eq_decide.2 ⟨fun k => ⟨h, k⟩, fun k => k.2⟩
  · rw [if_neg h]; congr 1; symm; exact decide_eq_false (by omega)

theorem enc_bad (k : Nat) {op seq st : Int} {body : List Int} (hl : body.length < 100000000) (h : ¬ Fits op seq st body) : sallyportref20_Encode.f (k + 1) op seq st body = some ([], 1) := by
  unfold sallyportref20_Encode.f
  simp only [within_f, Option.bind_some, decide_eq_true_eq, sallyportref20_Encode.j0]
  by_cases h1 : 0 ≤ op ∧ op ≤ 255
  · by_cases h2 : 0 ≤ st ∧ st ≤ 255
    · by_cases h3 : 0 ≤ seq ∧ seq ≤ 65535
      · rw [if_pos h1, if_pos h2, if_pos h3, if_pos]
        rw [wrap_of (by omega) (by omega)]
        have : ¬ body.length ≤ 1017 := fun k => h ⟨h1.1, h1.2, h2.1, h2.2, h3.1, h3.2, k⟩
        omega
      · rw [if_pos h1, if_pos h2, if_neg h3]; rfl
    · rw [if_pos h1, if_neg h2]; rfl
  · rw [if_neg h1]; rfl

theorem enc_good {op seq st : Int} {body : List Int} (hb : Byt body) (h : Fits op seq st body) : ∃ k, sallyportref20_Encode.f k op seq st body = some (frame op seq st body, 0) := by
  have hG := h
  obtain ⟨h1, h2, h3, h4, h5, h6, h7⟩ := h
  refine ⟨(head op seq st body).length + 2, ?_⟩
  unfold sallyportref20_Encode.f
  simp only [within_f, Option.bind_some, decide_eq_true_eq, sallyportref20_Encode.j0]
  rw [if_pos ⟨h1, h2⟩, if_pos ⟨h3, h4⟩, if_pos ⟨h5, h6⟩, wrap_of (x := 7 + (body.length : Int)) (by omega) (by omega), if_neg (by omega)]
  have e : [(wrap64 (Int.tdiv (7 + (body.length : Int)) 256)) % 256, (Int.tmod (7 + (body.length : Int)) 256) % 256, op % 256, (wrap64 (Int.tdiv seq 256)) % 256, (Int.tmod seq 256) % 256, st % 256] ++ body = head op seq st body := by
    rw [Int.tdiv_eq_ediv_of_nonneg (by omega), Int.tmod_eq_emod_of_nonneg (by omega), Int.tdiv_eq_ediv_of_nonneg h5, Int.tmod_eq_emod_of_nonneg h5, wrap_of (by omega) (by omega), wrap_of (by omega) (by omega)]
    unfold head
    congr 1
    simp only [List.cons.injEq, and_true]
    omega
  rw [e, if_pos (by simp; omega)]
  have := enc_l0 (head op seq st body) (head_byt hG hb) (by rw [head_length]; omega) (head op seq st body).length 0 0 (by omega) (by omega) (by omega)
  simpa [frame] using this
end Go.Proofs.Ythjholnpkpkakaa.FrameLaws
