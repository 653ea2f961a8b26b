/- A script's step read in a region; a block made and written amid others. No condition. -/
import Derived.Test.YtainkpgplmkiaaaWinArgs
import Derived.Test.YtainkpgplmkiaaaWinOpens
import Derived.Test.YtainkpgplmkiaaaRgw
namespace Go.Proofs.Ytainkpgplmkiaaa.WinScript
open Go Go.Deep Go.RowKit Go.Proofs.YtainkpgplmkiaaaW.PrintWords Go.Proofs.YtainkpgplmkiaaaW.PrintLast Go.Proofs.YtainkpgplmkiaaaW.PrintMore Go.Proofs.Ytainkpgplmkiaaa.MWorld Go.Proofs.Ytainkpgplmkiaaa.MArgs Go.Proofs.Ytainkpgplmkiaaa.Ev Go.Proofs.Ytainkpgplmkiaaa.Rg Go.Proofs.Ytainkpgplmkiaaa.WinModel Go.Proofs.Ytainkpgplmkiaaa.WinArgs
section
variable {P : Program} {ops : Array Oper} {o : Oper} {a a0 : Act} {Q : Exit → Act → World → Prop} {W w w' : World} {K : Act → World → Prop} {listed : Array Bool} {vals : Nat → Value}
/-- What was waited for, with its value. -/
theorem done_val (hD : Done ops a0 listed vals a) (ha : ∀ e ∈ o.after, Region.binds .any e = true → listed.getD e.on false = true)
    (j d : Nat) (he : (o.after.toList.any fun e => Region.binds .any e && e.on == j) = true) (hd : dstOf ops j = some d) : listed.getD j false = true ∧ a.tmps[d]? = some (vals j) := by
  obtain ⟨e, hm, hb⟩ := List.any_eq_true.1 he
  simp only [Bool.and_eq_true, beq_iff_eq] at hb
  have hl := ha e (Array.mem_toList_iff.1 hm) hb.1
  rw [hb.2] at hl
  exact ⟨hl, hD.got j d hl hd⟩
/-- A block that operation ia makes and operation is writes. -/
def MadeV (ia is n0 : Nat) (Z N : Array Value) (t : TypeId) (d : Nat → Bool) (vals : Nat → Value) (w : World) : Prop :=
  d ia = true → ∃ g, vals ia = .pointer (some ⟨g, 0, none⟩) ∧ n0 ≤ g ∧ w.heap[g]? = some (.cells (if d is then N else Z) t (0, 0))
variable {ia is n0 : Nat} {Z N : Array Value} {t : TypeId} {d : Nat → Bool}
theorem madev_start : MadeV ia is n0 Z N t (fun _ => false) vals w := fun h => by cases h
theorem madev_below {i : Nat} {v : Value} (h1 : ia ≠ i) (h2 : is ≠ i) (h : MadeV ia is n0 Z N t d vals w) (hb : Below w.heap.size w w') : MadeV ia is n0 Z N t (fun j => if j = i then true else d j) (fun j => if j = i then v else vals j) w' := by
  intro hd
  simp only [if_neg h1] at hd
  obtain ⟨g, hv, hg, hc⟩ := h hd
  refine ⟨g, by simp only [if_neg h1]; exact hv, hg, ?_⟩
  simp only [if_neg h2]
  exact blk_below hc hb
theorem madev_other {i : Nat} {v : Value} (h1 : ia ≠ i) (h2 : is ≠ i) (h : MadeV ia is n0 Z N t d vals w) : MadeV ia is n0 Z N t (fun j => if j = i then true else d j) (fun j => if j = i then v else vals j) w := madev_below h1 h2 h (Below.refl _ _)
theorem madev_made {g : Nat} (hn : is ≠ ia) (hf : d is = false) (hg : n0 ≤ g) (hc : w.heap[g]? = some (.cells Z t (0, 0))) : MadeV ia is n0 Z N t (fun j => if j = ia then true else d j) (fun j => if j = ia then .pointer (some ⟨g, 0, none⟩) else vals j) w := by
  intro _
  refine ⟨g, by simp only [if_true], hg, ?_⟩
  simp only [if_neg hn, hf]
  exact hc
theorem madev_at (h : MadeV ia is n0 Z N t d vals w) (hd : d ia = true) (hf : d is = false) : ∃ g, vals ia = .pointer (some ⟨g, 0, none⟩) ∧ n0 ≤ g ∧ w.heap[g]? = some (.cells Z t (0, 0)) := by
  obtain ⟨g, h1, h2, h3⟩ := h hd
  rw [hf] at h3
  exact ⟨g, h1, h2, h3⟩
theorem madev_put {g : Nat} {v : Value} (hn : ia ≠ is) (hv : vals ia = .pointer (some ⟨g, 0, none⟩)) (hg : n0 ≤ g) (hc : w.heap[g]? = some (.cells N t (0, 0))) : MadeV ia is n0 Z N t (fun j => if j = is then true else d j) (fun j => if j = is then v else vals j) w := by
  intro _
  refine ⟨g, by simp only [if_neg hn]; exact hv, hg, ?_⟩
  simp only [if_true]
  exact hc
theorem madev_end (h : MadeV ia is n0 Z N t d vals w) (h1 : d ia = true) (h2 : d is = true) : ∃ g, vals ia = .pointer (some ⟨g, 0, none⟩) ∧ n0 ≤ g ∧ w.heap[g]? = some (.cells N t (0, 0)) := by
  obtain ⟨g, a1, a2, a3⟩ := h h1
  rw [h2] at a3
  exact ⟨g, a1, a2, a3⟩
/-- As an operation of a region: a struct in the midst of a block is read. -/
theorem rg_loadmid {ty : TypeId} {x : Operand} (ho : o.op = .load ty x) {b f : Nat} (hx : a.eval x = .pointer (some ⟨b, f, none⟩)) {cs : List Value} {d : TypeDesc}
    (hc : W.rangeAt b f cs) (hu : P.underlying ty = some d) (hd : d.isRow = true) (hi : (P.info? ty).map (·.size) = some cs.length) : (execOp a.eval o).run P W = .ok (.value (.agg cs.toArray)) W := by
  simp only [execOp, ho, hx, Sem.run_bind, Sem.run_pure, run_loadAt_mid W b f ty cs d hc hu hd hi, Result.andThen_ok]
theorem rg_loadcell {ty : TypeId} {x : Operand} (ho : o.op = .load ty x) {p : Addr} (hx : a.eval x = .pointer (some p)) {v : Value} {d : TypeDesc}
    (hc : W.cell? p = some v) (hu : P.underlying ty = some d) (hd : (match d with | .struct _ | .array _ _ => true | _ => false) = false) : (execOp a.eval o).run P W = .ok (.value v) W := by
  simp only [execOp, ho, hx, Sem.run_bind, Sem.run_pure, run_load_one (P := P) W p ty d v hc hu hd, Result.andThen_ok]
end
section
variable {o : Oper} {a : Act} {W : World}
theorem rg_index {x y : Operand} (ho : o.op = .indexAddr 70 x y) {ad : Addr} {n c k : Nat} (hx : a.eval x = .slice (some ad) n c) (hy : a.eval y = .int .i64 (k : Int)) (hk : k < n) :
    (execOp a.eval o).run Try.prog W = .ok (.value (.pointer (some (ad.add (k * 11))))) W := by
  have h1 : (k : Int) < (n : Int) := by omega
  simp only [execOp, ho, hx, hy]
  go_simp
theorem rg_field0 {x : Operand} (ho : o.op = .fieldAddr 75 x 0) {p : Addr} (hx : a.eval x = .pointer (some p)) :
    (execOp a.eval o).run Try.prog W = .ok (.value (.pointer (some p))) W := by
  simp only [execOp, ho, hx]
  go_simp
theorem rg_field1 {x : Operand} (ho : o.op = .fieldAddr 75 x 1) {p : Addr} (hx : a.eval x = .pointer (some p)) :
    (execOp a.eval o).run Try.prog W = .ok (.value (.pointer (some ⟨p.block, p.off + 1, none⟩))) W := by
  simp only [execOp, ho, hx]
  go_simp
theorem rg_fieldT {x : Operand} (ho : o.op = .fieldAddr 43 x 4) {b f : Nat} (hx : a.eval x = .pointer (some ⟨b, f, none⟩)) :
    (execOp a.eval o).run Try.prog W = .ok (.value (.pointer (some ⟨b, f + 4, none⟩))) W := by
  simp only [execOp, ho, hx]
  go_simp
theorem script_cell {W w : World} {ad : Addr} {c : Nat} {l : List (Bool × Tr)} (h : ScriptIn W (some ad) c l) (hb : Below W.heap.size W w) {k : Nat} {x : Bool × Tr} (hk : l[k]? = some x) :
    w.cell? (ad.add (k * 11)) = some (.bool x.1) := by
  obtain ⟨ad', e, h0, h1, h2⟩ := h.step hb hk
  cases e
  exact h0
theorem script_range {W w : World} {ad : Addr} {c : Nat} {l : List (Bool × Tr)} (h : ScriptIn W (some ad) c l) (hb : Below W.heap.size W w) {k : Nat} {x : Bool × Tr} (hk : l[k]? = some x) :
    w.rangeAt (ad.add (k * 11)).block ((ad.add (k * 11)).off + 1) (Tr.cells x.2) := by
  obtain ⟨ad', e, h0, h1, h2⟩ := h.step hb hk
  cases e
  exact h1
theorem script_flags {W w : World} {ad : Addr} {c : Nat} {l : List (Bool × Tr)} (h : ScriptIn W (some ad) c l) (hb : Below W.heap.size W w) {k : Nat} {x : Bool × Tr} (hk : l[k]? = some x) :
    w.cell? ⟨(ad.add (k * 11)).block, (ad.add (k * 11)).off + 1 + 4, none⟩ = some (.int .i64 x.2.fl) := script_range h hb hk 4 _ rfl
theorem script_some {W : World} {A : Option Addr} {c : Nat} {l : List (Bool × Tr)} (h : ScriptIn W A c l) {k : Nat} {x : Bool × Tr} (hk : l[k]? = some x) : ∃ ad, A = some ad := by
  obtain ⟨ad', e, h0⟩ := h.step (Below.refl _ _) hk
  exact ⟨ad', e⟩
end
section
variable {P : Program} {ops : Array Oper} {rest : List Oper} {o : Oper} {a : Act} {Q : Exit → Act → World → Prop} {W : World}
/-- A struct in the midst of a block is read. -/
theorem loadmid_event (hgd : o.guard = none) (ty : TypeId) (x : Operand) (ho : o.op = .load ty x) (b f : Nat) (hx : a.eval x = .pointer (some ⟨b, f, none⟩)) (cs : List Value) (d : TypeDesc)
    (hc : W.rangeAt b f cs) (hu : P.underlying ty = some d) (hd : d.isRow = true) (hi : (P.info? ty).map (·.size) = some cs.length)
    (h : wpList P ops Q rest (a.put o.dst (.agg cs.toArray)) W) : wpList P ops Q (o :: rest) a W := Kd.event_run hgd (rg_loadmid ho hx hc hu hd hi) h
theorem open_as (a wi m : Int) (hm : ((a + 1) % 4294967296 + wi) % 4294967296 = m) (w : World) : Calls Try.prog 28 #[.agg #[.int .i64 0, .int .i64 0, .int .u32 a, .int .u32 0, .int .i64 2, .int .i64 wi, .int .i64 0, .int .i64 0, .int .i64 0, .int .i64 0]] w fun e w' => e = .returned (.tuple #[.agg #[.int .i64 1, .bool true, .int .u32 ((a + 1) % 4294967296), .int .u32 m, .bool false, .bool false, .int .u32 0, .int .u32 0, .bool false], .bool true]) ∧ Below w.heap.size w w' := by
  subst hm
  have h := Win6.open_any ⟨0, 0, a, 0, 2, wi, 0, 0, 0, 0⟩ w
  unfold Win6.OpenPost at h
  rw [WinOpens.open_first] at h
  exact h
theorem next_as (c : Cn) (back : Bool) (t : Tr) (st : Int) (x y : Sd) (gd : Bool) (hn : next c back t = (⟨st, x, y⟩, gd)) (w : World) : Calls Try.prog 17 #[c.val, .bool back, t.val] w fun e w' => e = .returned (.tuple #[.agg #[.int .i64 st, .bool x.seen, .int .u32 x.e, .int .u32 x.m, .bool x.fin, .bool y.seen, .int .u32 y.e, .int .u32 y.m, .bool y.fin], .bool gd]) ∧ Below w.heap.size w w' := by
  have h := Win6.next_any c back t w
  unfold Win4.NextPost at h
  rw [hn] at h
  exact h
end
end Go.Proofs.Ytainkpgplmkiaaa.WinScript
