/- control's Encode and Decode at whatever is handed in, beside the reference's: both say the same. No condition but the sizes. -/
import Derived.Test.YthjholnpkpkakaaTheirs
import Derived.Test.YthjholnpkpkakaaPControlFramesx1
import Derived.Test.YthjholnpkpkakaaPControlFramesx2
namespace Go.Proofs.Ythjholnpkpkakaa.FrameAny
open Go.RowKit Go.Proofs.YthjholnpkpkakaaW.PrintWords Go.Proofs.Ythjholnpkpkakaa.PControlFrames Go.Proofs.Ythjholnpkpkakaa.FrameLaws Go.Proofs.Ythjholnpkpkakaa.Parts Go.Proofs.Ythjholnpkpkakaa.Encode Go.Proofs.Ythjholnpkpkakaa.Decode
def EncSays (p q s : Int) (l F : List Int) (m : Int) : Prop := (∃ k, sallyportref20_Encode.f k p q s l = some (F, m)) ∧ (Fits p q s l → F = frame p q s l ∧ m = 0) ∧ (¬ Fits p q s l → F = [] ∧ m = 1)
theorem enc_ex (p q s : Int) (l : List Int) (hb : Byt l) (hl : l.length < 100000000) : ∃ F m, EncSays p q s l F m := by
  by_cases h : Fits p q s l
  · exact ⟨_, _, enc_good hb h, fun _ => ⟨rfl, rfl⟩, fun g => absurd h g⟩
  · exact ⟨_, _, ⟨1, enc_bad 0 hl h⟩, fun g => absurd g h, fun _ => ⟨rfl, rfl⟩⟩
def EncPost (F : List Int) (m : Int) (w : World) (e : Ending) (w' : World) : Prop :=
  ∃ A c, e = .returned (.tuple #[.slice A F.length c, .int .i64 m]) ∧ Kd.C (Kd.int .u8) w' A F.length F ∧ Below w.heap.size w w'
theorem encode_any (A : Option Addr) (c : Nat) (p q s : Int) (l : List Int) (w : World) (hr : Kd.C (Kd.int .u8) w A l.length l) (hc : l.length ≤ c) (hb : Byt l) (hl : l.length < 100000000) (F : List Int) (m : Int) (h : EncSays p q s l F m) :
    Calls Try.prog 28 #[.agg #[.int .i64 p, .int .i64 q, .int .i64 s, .slice A l.length c]] w (EncPost F m w) := by
  by_cases hf : Fits p q s l
  · obtain ⟨rfl, rfl⟩ := h.2.1 hf
    refine (encode_good A c p q s l w hr hc hb hf).mono ?_
    rintro e w' ⟨v, rfl, ho, hbl⟩
    obtain ⟨A', c', rfl, _, hC⟩ := Kd.R_reads ho
    exact ⟨_, _, rfl, hC, hbl⟩
  · obtain ⟨rfl, rfl⟩ := h.2.2 hf
    refine (encode_bad A c p q s l w hc hl hf).mono ?_
    rintro e w' ⟨rfl, hbl⟩
    exact ⟨none, 0, rfl, Kd.C_of_reads (d := (0 : Int)) (h1 := fun _ => rfl) (ReadsInt.nil _ _), hbl⟩
theorem ref_encode_any (A : Option Addr) (c : Nat) (p q s : Int) (l : List Int) (w : World) (hr : Kd.C (Kd.int .u8) w A l.length l) (hc : l.length ≤ c) (F : List Int) (m : Int) (h : EncSays p q s l F m) :
    Calls Try.prog 29 #[.agg #[.int .i64 p, .int .i64 q, .int .i64 s, .slice A l.length c]] w (EncPost F m w) := by
  obtain ⟨⟨k, hk⟩, _⟩ := h
  refine (sallyportref20_Encode.calls k p q s A c l F m w hr hc hk).mono ?_
  rintro e w' ⟨v, rfl, ho, hbl⟩
  obtain ⟨A', c', rfl, _, hC⟩ := Kd.R_reads ho
  exact ⟨_, _, rfl, hC, hbl⟩

/-- What Decode says: the frame's fields, or nothing. -/
def DecSays (l : List Int) (a b d : Int) (L : List Int) (m : Int) : Prop := (∃ k, sallyportref20_Decode.f k l = some (a, b, d, L, m)) ∧ (Fr l → a = l.getD 2 0 ∧ b = seqOf l ∧ d = l.getD 5 0 ∧ L = body l ∧ m = 0) ∧ (¬ Fr l → a = 0 ∧ b = 0 ∧ d = 0 ∧ L = [] ∧ m = 200)
theorem dec_ex (l : List Int) (hb : Byt l) (hl : l.length < 100000000) : ∃ a b d L m, DecSays l a b d L m := by
  by_cases h : Fr l
  · exact ⟨_, _, _, _, _, dec_good hb h, fun _ => ⟨rfl, rfl, rfl, rfl, rfl⟩, fun g => absurd h g⟩
  · exact ⟨_, _, _, _, _, dec_bad hb hl h, fun g => absurd g h, fun _ => ⟨rfl, rfl, rfl, rfl, rfl⟩⟩
def DecPostF (a b d : Int) (L : List Int) (m : Int) (w : World) (e : Ending) (w' : World) : Prop :=
  ∃ A c, e = .returned (.tuple #[.agg #[.int .i64 a, .int .i64 b, .int .i64 d, .slice A L.length c], .int .i64 m]) ∧ L.length ≤ c ∧ Kd.C (Kd.int .u8) w' A L.length L ∧ Below w.heap.size w w'
theorem decode_full (A : Option Addr) (n c : Nat) (l : List Int) (w : World) (hr : Bs w A l) (hn : n = l.length) (hc : l.length ≤ c) (hb : Byt l) (a b d : Int) (L : List Int) (m : Int) (h : DecSays l a b d L m) :
    Calls Try.prog 31 #[.slice A n c] w (DecPostF a b d L m w) := by
  subst hn
  by_cases hf : Fr l
  · obtain ⟨rfl, rfl, rfl, rfl, rfl⟩ := h.2.1 hf
    refine (decode_good A c l w hr hc hb hf).mono ?_
    rintro e w' ⟨v, rfl, ho, hbl⟩
    obtain ⟨A', c', rfl, hle, hC⟩ := Kd.R_reads ho
    exact ⟨_, _, rfl, hle, hC, hbl⟩
  · obtain ⟨rfl, rfl, rfl, rfl, rfl⟩ := h.2.2 hf
    refine (decode_bad A c l w hr hc hb hf).mono ?_
    rintro e w' ⟨rfl, hbl⟩
    exact ⟨none, 0, rfl, by simp, Kd.C_of_reads (d := (0 : Int)) (h1 := fun _ => rfl) (ReadsInt.nil _ _), hbl⟩
theorem ref_decode_full (A : Option Addr) (c : Nat) (l : List Int) (w : World) (hr : Kd.C (Kd.int .u8) w A l.length l) (hc : l.length ≤ c) (a b d : Int) (L : List Int) (m : Int) (h : DecSays l a b d L m) :
    Calls Try.prog 33 #[.slice A l.length c] w (DecPostF a b d L m w) := by
  obtain ⟨⟨k, hk⟩, _⟩ := h
  refine (sallyportref20_Decode.calls k A c l a b d L m w hr hc hk).mono ?_
  rintro e w' ⟨v, rfl, ho, hbl⟩
  obtain ⟨A', c', rfl, hle, hC⟩ := Kd.R_reads ho
  exact ⟨_, _, rfl, hle, hC, hbl⟩
end Go.Proofs.Ythjholnpkpkakaa.FrameAny
