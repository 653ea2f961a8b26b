/- The plain law of control's frames, second part: reading back. No program in sight. -/
import Derived.Test.YthjholnpkpkakaaFrameLaws
import Derived.Lib.Bytes
namespace Go.Proofs.Ythjholnpkpkakaa.FrameLaws
open Go.RowKit Go.Proofs.YthjholnpkpkakaaW.PrintWords Go.Proofs.YthjholnpkpkakaaW.PrintMore Go.Proofs.Ythjholnpkpkakaa.PControlFrames
set_option linter.unusedVariables false

/-- The bytes are a frame. -/
def Fr (xs : List Int) : Prop := 7 ≤ xs.length ∧ xs.length ≤ 1024 ∧ xs.getD 0 0 * 256 + xs.getD 1 0 = xs.length ∧ (xs.take (xs.length - 1)).sum % 256 = xs.getD (xs.length - 1) 0
instance (xs : List Int) : Decidable (Fr xs) := by unfold Fr; infer_instance
def body (xs : List Int) : List Int := (xs.take (xs.length - 1)).drop 6
def seqOf (xs : List Int) : Int := xs.getD 3 0 * 256 + xs.getD 4 0

theorem shape (xs : List Int) (h : 7 ≤ xs.length) : ∃ x0 x1 x2 x3 x4 x5 b y, xs = x0 :: x1 :: x2 :: x3 :: x4 :: x5 :: (b ++ [y]) := by
  match xs, h with
  | x0 :: x1 :: x2 :: x3 :: x4 :: x5 :: x6 :: r, _ =>
    refine ⟨x0, x1, x2, x3, x4, x5, (x6 :: r).dropLast, (x6 :: r).getLast (by simp), ?_⟩
    rw [List.dropLast_concat_getLast]
theorem take_shape (x0 x1 x2 x3 x4 x5 : Int) (b : List Int) (y : Int) :
    (x0 :: x1 :: x2 :: x3 :: x4 :: x5 :: (b ++ [y])).take ((x0 :: x1 :: x2 :: x3 :: x4 :: x5 :: (b ++ [y])).length - 1) = x0 :: x1 :: x2 :: x3 :: x4 :: x5 :: b := by
  have : (x0 :: x1 :: x2 :: x3 :: x4 :: x5 :: (b ++ [y])).length - 1 = b.length + 6 := by simp
  rw [this]
  simp
theorem last_shape (x0 x1 x2 x3 x4 x5 : Int) (b : List Int) (y : Int) :
    (x0 :: x1 :: x2 :: x3 :: x4 :: x5 :: (b ++ [y])).getD ((x0 :: x1 :: x2 :: x3 :: x4 :: x5 :: (b ++ [y])).length - 1) 0 = y := by
  have : (x0 :: x1 :: x2 :: x3 :: x4 :: x5 :: (b ++ [y])).length - 1 = b.length + 6 := by simp
  rw [this]
  simp
theorem fr_shape (x0 x1 x2 x3 x4 x5 : Int) (b : List Int) (y : Int) :
    Fr (x0 :: x1 :: x2 :: x3 :: x4 :: x5 :: (b ++ [y])) ↔ b.length ≤ 1017 ∧ x0 * 256 + x1 = 7 + (b.length : Int) ∧ (x0 + (x1 + (x2 + (x3 + (x4 + (x5 + b.sum)))))) % 256 = y := by
  unfold Fr
  rw [take_shape, last_shape]
  simp only [List.length_cons, List.length_append, List.length_nil, List.getD_cons_zero, List.getD_cons_succ, List.sum_cons]
  constructor
  · rintro ⟨h1, h2, h3, h4⟩; exact ⟨by omega, by omega, h4⟩
  · rintro ⟨h1, h2, h3⟩; exact ⟨by omega, by omega, by omega, h3⟩
theorem body_shape (x0 x1 x2 x3 x4 x5 : Int) (b : List Int) (y : Int) : body (x0 :: x1 :: x2 :: x3 :: x4 :: x5 :: (b ++ [y])) = b := by
  unfold body; rw [take_shape]; rfl
theorem frame_shape (op seq st : Int) (b : List Int) : frame op seq st b = (7 + (b.length : Int)) / 256 :: (7 + (b.length : Int)) % 256 :: op :: seq / 256 :: seq % 256 :: st :: (b ++ [(head op seq st b).sum % 256]) := rfl

/-- What is written is a frame. -/
theorem fr_frame {op seq st : Int} {b : List Int} (h : Fits op seq st b) : Fr (frame op seq st b) := by
  rw [frame_shape, fr_shape]
  refine ⟨h.2.2.2.2.2.2, by omega, ?_⟩
  simp [head]
theorem frame_fields (op seq st : Int) (b : List Int) : (frame op seq st b).getD 2 0 = op ∧ seqOf (frame op seq st b) = seq ∧ (frame op seq st b).getD 5 0 = st ∧ body (frame op seq st b) = b := by
  refine ⟨rfl, ?_, rfl, ?_⟩
  · show seq / 256 * 256 + seq % 256 = seq
    omega
  · rw [frame_shape, body_shape]
/-- A frame that is read fits, and is written just so. -/
theorem fits_of_fr {xs : List Int} (hb : Byt xs) (h : Fr xs) : Fits (xs.getD 2 0) (seqOf xs) (xs.getD 5 0) (body xs) ∧ frame (xs.getD 2 0) (seqOf xs) (xs.getD 5 0) (body xs) = xs := by
  obtain ⟨x0, x1, x2, x3, x4, x5, b, y, rfl⟩ := shape xs h.1
  have hF := h
  rw [fr_shape] at h
  obtain ⟨h1, h2, h3⟩ := h
  have b0 := hb x0 (by simp)
  have b1 := hb x1 (by simp)
  have b2 := hb x2 (by simp)
  have b3 := hb x3 (by simp)
  have b4 := hb x4 (by simp)
  have b5 := hb x5 (by simp)
  rw [body_shape]
  have e2 : (x0 :: x1 :: x2 :: x3 :: x4 :: x5 :: (b ++ [y])).getD 2 0 = x2 := rfl
  have e5 : (x0 :: x1 :: x2 :: x3 :: x4 :: x5 :: (b ++ [y])).getD 5 0 = x5 := rfl
  have es : seqOf (x0 :: x1 :: x2 :: x3 :: x4 :: x5 :: (b ++ [y])) = x3 * 256 + x4 := rfl
  rw [e2, e5, es]
  refine ⟨⟨b2.1, by omega, b5.1, by omega, by omega, by omega, h1⟩, ?_⟩
  rw [frame_shape]
  have d0 : (7 + (b.length : Int)) / 256 = x0 := by omega
  have d1 : (7 + (b.length : Int)) % 256 = x1 := by omega
  have d3 : (x3 * 256 + x4) / 256 = x3 := by omega
  have d4 : (x3 * 256 + x4) % 256 = x4 := by omega
  have hs : (head x2 (x3 * 256 + x4) x5 b).sum % 256 = y := by
    unfold head
    rw [d0, d1, d3, d4]
    simpa using h3
  rw [hs, d0, d1, d3, d4]
theorem Byt.body {xs : List Int} (h : Byt xs) : Byt (body xs) := (h.take _).drop _
theorem body_length (xs : List Int) : (body xs).length = xs.length - 7 := by simp [body]; omega

/-- Bytes of numbers: as texts they are the same only if they are the same. -/
theorem bytes_inj {xs ys : List Int} (hx : Byt xs) (hy : Byt ys) (h : (strOfNums xs).toList = (strOfNums ys).toList) : xs = ys := by
  rw [Go.Lib.strOfNums_toList, Go.Lib.strOfNums_toList] at h
  unfold Go.Lib.bytesOf at h
  induction xs generalizing ys with
  | nil => cases ys with
    | nil => rfl
    | cons a l => simp at h
  | cons a l ih => cases ys with
    | nil => simp at h
    | cons c r =>
      rw [List.map_cons, List.map_cons] at h
      injection h with h1 h2
      have ha := hx a (by simp)
      have hc := hy c (by simp)
      have e : a.toNat = c.toNat := by
        have := congrArg UInt8.toNat h1
        simpa [Nat.mod_eq_of_lt (show a.toNat < 256 by omega), Nat.mod_eq_of_lt (show c.toNat < 256 by omega)] using this
      rw [ih (fun x hx' => hx x (by simp [hx'])) (fun x hx' => hy x (by simp [hx'])) h2]
      congr 1
      omega

theorem rd_byt {xs : List Int} (hb : Byt xs) (i : Nat) (hi : i < xs.length) : 0 ≤ rd xs (i : Int) ∧ rd xs (i : Int) < 256 := by
  rw [rd_at xs i hi]; exact hb _ (List.getElem_mem hi)
theorem dec_short (k : Nat) {xs : List Int} (h : xs.length < 7) : sallyportref20_Decode.f k xs = some (0, 0, 0, [], 200) := by
  unfold sallyportref20_Decode.f
  rw [if_pos (by omega)]
theorem dec_unfold (k : Nat) {xs : List Int} (hb : Byt xs) (h : 7 ≤ xs.length) (hl : xs.length < 100000000) :
    sallyportref20_Decode.f k xs = ((sallyportref20_Encode.f k (xs.getD 2 0) (seqOf xs) (xs.getD 5 0) (body xs)).bind fun bt => (if bt.2 = 0 then (if (strOfNums bt.1).toList = (strOfNums xs).toList then (some (xs.getD 2 0, seqOf xs, xs.getD 5 0, body xs, 0)) else (some (0, 0, 0, ([] : List Int), 200))) else (some (0, 0, 0, ([] : List Int), 200)))) := by
  have g (i : Nat) (hi : i < xs.length) : 0 ≤ xs.getD i 0 ∧ xs.getD i 0 < 256 := by
    rw [List.getD_eq_getElem?_getD, List.getElem?_eq_getElem hi]; exact hb _ (List.getElem_mem hi)
  have r (i : Nat) : rd xs (i : Int) = xs.getD i 0 := by simp [rd]
  have g2 := g 2 (by omega)
  have g3 := g 3 (by omega)
  have g4 := g 4 (by omega)
  have g5 := g 5 (by omega)
  have r2 : rd xs 2 = xs.getD 2 0 := r 2
  have r3 : rd xs 3 = xs.getD 3 0 := r 3
  have r4 : rd xs 4 = xs.getD 4 0 := r 4
  have r5 : rd xs 5 = xs.getD 5 0 := r 5
  have hn : wrap64 ((xs.length : Int) - 1) = (xs.length : Int) - 1 := wrap_of (by omega) (by omega)
  have ht : ((xs.length : Int) - 1).toNat = xs.length - 1 := by omega
  unfold sallyportref20_Decode.f
  rw [if_neg (by omega), if_pos (by omega), if_pos (by omega), if_pos (by omega), if_pos (by omega), hn, ht, if_pos (by omega), if_pos (by omega), if_pos (by simp; omega), r2, r3, r4, r5]
  rw [wrap_of (x := xs.getD 2 0) (by omega) (by omega), wrap_of (x := xs.getD 3 0) (by omega) (by omega), wrap_of (x := xs.getD 4 0) (by omega) (by omega), wrap_of (x := xs.getD 5 0) (by omega) (by omega)]
  rw [wrap_of (x := xs.getD 3 0 * 256) (by omega) (by omega), wrap_of (x := xs.getD 3 0 * 256 + xs.getD 4 0) (by omega) (by omega)]
  rfl
theorem dec_good {xs : List Int} (hb : Byt xs) (h : Fr xs) : ∃ k, sallyportref20_Decode.f k xs = some (xs.getD 2 0, seqOf xs, xs.getD 5 0, body xs, 0) := by
  obtain ⟨h1, h2⟩ := fits_of_fr hb h
  obtain ⟨k, hk⟩ := enc_good hb.body h1
  refine ⟨k, ?_⟩
  rw [dec_unfold k hb h.1 (by have := h.2.1; omega), hk, h2]
  simp
theorem dec_bad {xs : List Int} (hb : Byt xs) (hl : xs.length < 100000000) (h : ¬ Fr xs) : ∃ k, sallyportref20_Decode.f k xs = some (0, 0, 0, [], 200) := by
  by_cases h7 : xs.length < 7
  · exact ⟨0, dec_short 0 h7⟩
  by_cases hf : Fits (xs.getD 2 0) (seqOf xs) (xs.getD 5 0) (body xs)
  · obtain ⟨k, hk⟩ := enc_good hb.body hf
    refine ⟨k, ?_⟩
    rw [dec_unfold k hb (by omega) hl, hk]
    rw [Option.bind_some, if_pos rfl, if_neg]
    intro e
    have := bytes_inj (frame_byt hf hb.body) hb e
    exact h (this ▸ fr_frame hf)
  · refine ⟨1, ?_⟩
    rw [dec_unfold 1 hb (by omega) hl, enc_bad 0 (by rw [body_length]; omega) hf]
    rfl
end Go.Proofs.Ythjholnpkpkakaa.FrameLaws
