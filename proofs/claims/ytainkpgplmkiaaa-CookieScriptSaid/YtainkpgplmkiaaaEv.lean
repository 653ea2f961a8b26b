/- Events: one operation on a block that is known whole; the world behind it is a letter. No condition. -/
import Derived.Test.YtainkpgplmkiaaaMWorld
import Derived.Test.YtainkpgplmkiaaaWWords
import Derived.Test.YtainkpgplmkiaaaWLast
import Derived.Test.YtainkpgplmkiaaaWMore
import Derived.Laws.Tables
import Derived.Laws.Rows
import Derived.Deep.MidRow
import Derived.Test.YtainkpgplmkiaaaRg
namespace Go.Proofs.Ytainkpgplmkiaaa.Ev
open Go Go.RowKit Go.Proofs.YtainkpgplmkiaaaW.PrintWords Go.Proofs.YtainkpgplmkiaaaW.PrintLast Go.Proofs.YtainkpgplmkiaaaW.PrintMore Go.Proofs.Ytainkpgplmkiaaa.MWorld Go.Proofs.Ytainkpgplmkiaaa.Rg
section
variable {P : Program} {ops : Array Oper} {rest : List Oper} {o : Oper} {a : Act} {Q : Exit → Act → World → Prop} {W : World}
/-- The one block that turns. -/
def One (g : Nat) : Nat → Prop := fun k => k = g
theorem One.not {g k : Nat} (h : k ≠ g) : ¬ One g k := h
/-- A struct or an array goes whole into a block. -/
theorem store_event (hgd : o.guard = none) (ty : TypeId) (x y : Operand) (ho : o.op = .store ty x y)
    (g : Nat) (cells : Array Value) (hx : a.eval x = .pointer (some ⟨g, 0, none⟩)) (hy : a.eval y = .agg cells)
    (t : TypeId) (old : Array Value) (hg : W.heap[g]? = some (.cells old t (0, 0))) (hi : (P.info? ty).map (·.size) = some cells.size)
    (hold : old.size = cells.size) (h1 : cells.toList.all (·.oneCell') = true)
    (h : ∀ w1, w1.heap[g]? = some (.cells cells t (0, 0)) → Upd (One g) W w1 → wpList P ops Q rest (a.put o.dst undef) w1) : wpList P ops Q (o :: rest) a W := by
  refine wpList_store_row hgd ty x y ho g cells hx hy t old hg hi hold (by rw [← Array.all_toList]; exact h1) (h _ (setRow_heap W g old cells t (0, 0) hg) ⟨rfl, rfl, rfl, by simp, fun k hk hn => ?_⟩)
  simp only [World.setRow]
  rw [Array.getElem?_modify, if_neg (fun e => hn e.symm)]
/-- A struct or an array is read whole out of a block. -/
theorem load_event (hgd : o.guard = none) (ty : TypeId) (x : Operand) (ho : o.op = .load ty x)
    (g : Nat) (hx : a.eval x = .pointer (some ⟨g, 0, none⟩)) (t : TypeId) (cs : Array Value) (d : TypeDesc) (hg : W.heap[g]? = some (.cells cs t (0, 0)))
    (hu : P.underlying ty = some d) (hd : (match d with | .struct _ | .array _ _ => true | _ => false) = true) (hi : (P.info? ty).map (·.size) = some cs.size)
    (h : wpList P ops Q rest (a.put o.dst (.agg cs)) W) : wpList P ops Q (o :: rest) a W :=
  wpList_load_row hgd ty x ho g hx t cs (0, 0) d hg hu hd hi h
/-- One cell of a block is written. -/
theorem cell_event {g i : Nat} {v : Value} (hgd : o.guard = none) (hrun : (execOp a.eval o).run P W = .ok .skip (W.setCell ⟨g, i, none⟩ v)) (cs cs' : Array Value) (t : TypeId) (hg : W.heap[g]? = some (.cells cs t (0, 0)))
    (hcs : cs.setIfInBounds i v = cs') (h : ∀ w1, w1.heap[g]? = some (.cells cs' t (0, 0)) → Upd (One g) W w1 → wpList P ops Q rest (a.put o.dst undef) w1) : wpList P ops Q (o :: rest) a W := by
  subst hcs
  refine wpList_plain hgd fun K hK => ?_
  unfold Oper.wp
  rw [hrun]
  exact hK _ _ (h _ (blk_set hg i v) ((Upd.refl (One g) W).setCell (p := ⟨g, i, none⟩) (.inl rfl) v))
theorem run_load_one (w : World) (p : Addr) (ty : TypeId) (d : TypeDesc) (v : Value) (hc : w.cell? p = some v) (hu : P.underlying ty = some d) (hd : (match d with | .struct _ | .array _ _ => true | _ => false) = false) :
    (Instr.loadAt ty (.pointer (some p))).run P w = .ok v w := by
  have hagg : (isAgg ty).run P w = .ok false w := by
    unfold isAgg
    rw [Sem.run_bind, run_underlying hu w]
    cases d <;> simp_all
  simp [Instr.loadAt, Instr.sureAddr, loadVar, Sem.run_bind, hagg, run_load, hc]
theorem run_store_one (w : World) (p : Addr) (ty : TypeId) (v u : Value) (hc : w.cell? p = some u) (hf : w.frozen? p = false) (hi : (P.info? ty).map (·.size) = some 1) (hv : v.cells = #[v]) (h1 : v.oneCell' = true) :
    (Instr.storeAt ty (.pointer (some p)) v).run P w = .ok () (w.setCell p v) := by
  cases hq : P.info? ty with
  | none => simp [hq] at hi
  | some i =>
    have hs : i.size = 1 := by simpa [hq] using hi
    have ha : p.add 0 = p := by unfold Addr.add; simp
    simp [Instr.storeAt, Instr.sureAddr, storeVar, Sem.run_bind, sizeOf, typeInfo, hq, hs, hv, storeCells, ha, run_store _ _ _ _ _ h1, hc, hf]
/-- One cell of a block is read. -/
theorem load1_event (hgd : o.guard = none) (ty : TypeId) (x : Operand) (ho : o.op = .load ty x) (g i : Nat) (hx : a.eval x = .pointer (some ⟨g, i, none⟩)) (t : TypeId) (cs : Array Value) (d : TypeDesc) (v : Value)
    (hg : W.heap[g]? = some (.cells cs t (0, 0))) (hv : cs[i]? = some v) (hu : P.underlying ty = some d) (hd : (match d with | .struct _ | .array _ _ => true | _ => false) = false)
    (h : wpList P ops Q rest (a.put o.dst v) W) : wpList P ops Q (o :: rest) a W := by
  refine Kd.event_run hgd ?_ h
  simp only [execOp, ho, hx, Sem.run_bind, Sem.run_pure, run_load_one (P := P) W ⟨g, i, none⟩ ty d v ((blk_cell hg i).trans hv) hu hd, Result.andThen_ok]
/-- One cell of a block is written. -/
theorem store1_event (hgd : o.guard = none) (ty : TypeId) (x y : Operand) (ho : o.op = .store ty x y) (g i : Nat) (hx : a.eval x = .pointer (some ⟨g, i, none⟩)) (v u : Value) (hy : a.eval y = v) (t : TypeId) (cs cs' : Array Value)
    (hg : W.heap[g]? = some (.cells cs t (0, 0))) (hu : cs[i]? = some u) (hi : (P.info? ty).map (·.size) = some 1) (hv : v.cells = #[v]) (h1 : v.oneCell' = true) (hcs : cs.setIfInBounds i v = cs')
    (h : ∀ w1, w1.heap[g]? = some (.cells cs' t (0, 0)) → Upd (One g) W w1 → wpList P ops Q rest (a.put o.dst undef) w1) : wpList P ops Q (o :: rest) a W := by
  refine cell_event (g := g) (i := i) (v := v) hgd ?_ cs cs' t hg hcs h
  simp only [execOp, ho, hx, hy, Sem.run_bind, Sem.run_pure, run_store_one (P := P) W ⟨g, i, none⟩ ty v u ((blk_cell hg i).trans hu) (blk_frozen hg i) hi hv h1, Result.andThen_ok]
/-- As an operation of a region: one cell is read. -/
theorem rg_load {ty : TypeId} {x : Operand} (ho : o.op = .load ty x) {g i : Nat} (hx : a.eval x = .pointer (some ⟨g, i, none⟩)) {t : TypeId} {cs : Array Value} {d : TypeDesc} {v : Value}
    (hg : W.heap[g]? = some (.cells cs t (0, 0))) (hv : cs[i]? = some v) (hu : P.underlying ty = some d) (hd : (match d with | .struct _ | .array _ _ => true | _ => false) = false) : (execOp a.eval o).run P W = .ok (.value v) W := by
  simp only [execOp, ho, hx, Sem.run_bind, Sem.run_pure, run_load_one (P := P) W ⟨g, i, none⟩ ty d v ((blk_cell hg i).trans hv) hu hd, Result.andThen_ok]
/-- As an operation of a region: a struct is read whole. -/
theorem rg_loadall {ty : TypeId} {x : Operand} (ho : o.op = .load ty x) {g : Nat} (hx : a.eval x = .pointer (some ⟨g, 0, none⟩)) {t : TypeId} {cs : Array Value} {d : TypeDesc}
    (hg : W.heap[g]? = some (.cells cs t (0, 0))) (hu : P.underlying ty = some d) (hd : (match d with | .struct _ | .array _ _ => true | _ => false) = true) (hi : (P.info? ty).map (·.size) = some cs.size) : (execOp a.eval o).run P W = .ok (.value (.agg cs)) W := by
  simp only [execOp, ho, hx, Instr.loadAt, Instr.sureAddr, Sem.run_bind, Sem.run_pure, Result.andThen_ok, run_loadVar_row W g t ty cs (0, 0) d hg hu hd hi]
def putMid (cs : Array Value) : Nat → List Value → Array Value
  | _, [] => cs
  | o, v :: r => putMid (cs.setIfInBounds o v) (o + 1) r
theorem blk_setCells {g : Nat} {t : TypeId} : ∀ (vs : List Value) (o : Nat) (w : World) (cs : Array Value), w.heap[g]? = some (.cells cs t (0, 0)) →
    (w.setCells g o vs).heap[g]? = some (.cells (putMid cs o vs) t (0, 0)) ∧ Upd (One g) w (w.setCells g o vs)
  | [], _, w, cs, h => ⟨h, Upd.refl _ _⟩
  | v :: r, o, w, cs, h => by
    obtain ⟨h1, h2⟩ := blk_setCells r (o + 1) (w.setCell ⟨g, o, none⟩ v) _ (blk_set h o v)
    exact ⟨h1, ((Upd.refl (One g) w).setCell (p := ⟨g, o, none⟩) (.inl rfl) v).trans h2⟩
/-- A struct goes into a part of a block. -/
theorem storemid_event (hgd : o.guard = none) (ty : TypeId) (x y : Operand) (ho : o.op = .store ty x y)
    (g off : Nat) (hx : a.eval x = .pointer (some ⟨g, off, none⟩)) (cells : Array Value) (hy : a.eval y = .agg cells)
    (t : TypeId) (old new : Array Value) (hg : W.heap[g]? = some (.cells old t (0, 0))) (hfit : Nat.ble (off + cells.size) old.size = true) (hi : (P.info? ty).map (·.size) = some cells.size)
    (h1 : cells.toList.all (·.oneCell') = true) (hnew : putMid old off cells.toList = new)
    (h : ∀ w1, w1.heap[g]? = some (.cells new t (0, 0)) → Upd (One g) W w1 → wpList P ops Q rest (a.put o.dst undef) w1) : wpList P ops Q (o :: rest) a W := by
  subst hnew
  have hf := Nat.le_of_ble_eq_true hfit
  have ht : W.there g off cells.size := fun j hj => ⟨by rw [blk_cell hg, Array.getElem?_eq_getElem (by omega)]; rfl, blk_frozen hg _⟩
  obtain ⟨h2, h3⟩ := blk_setCells cells.toList off W old hg
  exact wpList_store_mid hgd ty x y ho g off cells hx hy ht hi (by rw [← Array.all_toList]; exact h1) (h _ h2 h3)
/-! ### A region in which one block is written whole, once, at whatever point -/
def StPut (g : Nat) (o : Obj) (x y : World) : Prop := Upd (One g) x y ∧ (y.heap[g]? = x.heap[g]? ∨ y.heap[g]? = some o)
theorem stput_refl (g : Nat) (o : Obj) (x : World) : StPut g o x x := ⟨Upd.refl _ _, .inl rfl⟩
theorem stput_drew (g : Nat) (o : Obj) (x : World) : StPut g o x x.drew := ⟨(Upd.refl _ _).drew, .inl rfl⟩
theorem stput_tr (g : Nat) (o : Obj) (x y z : World) (h : StPut g o x y) (k : StPut g o y z) : StPut g o x z :=
  ⟨h.1.trans k.1, k.2.elim (fun e => h.2.elim (fun e' => .inl (e.trans e')) (fun e' => .inr (e.trans e'))) .inr⟩
theorem stput_keep {g : Nat} {o : Obj} {x y : World} (h : StPut g o x y) (k : x.heap[g]? = some o) : y.heap[g]? = some o := h.2.elim (fun e => e.trans k) id
theorem rg_store {ty : TypeId} {x y : Operand} (ho : o.op = .store ty x y) {g : Nat} {cells old : Array Value} {W0 : World} (hx : a.eval x = .pointer (some ⟨g, 0, none⟩)) (hy : a.eval y = .agg cells) {t : TypeId}
    (h0 : W0.heap[g]? = some (.cells old t (0, 0))) (hst : StPut g (.cells cells t (0, 0)) W0 W) (hi : (P.info? ty).map (·.size) = some cells.size) (hold : old.size = cells.size) (h1 : cells.toList.all (·.oneCell') = true) :
    ∃ w', (execOp a.eval o).run P W = .ok .skip w' ∧ StPut g (.cells cells t (0, 0)) W w' ∧ w'.heap[g]? = some (.cells cells t (0, 0)) := by
  have key : ∀ old : Array Value, W.heap[g]? = some (.cells old t (0, 0)) → old.size = cells.size → ∃ w', (execOp a.eval o).run P W = .ok .skip w' ∧ StPut g (.cells cells t (0, 0)) W w' ∧ w'.heap[g]? = some (.cells cells t (0, 0)) := by
    intro old hg hs
    have hput := setRow_heap W g old cells t (0, 0) hg
    refine ⟨W.setRow g cells, ?_, ⟨⟨rfl, rfl, rfl, by simp, fun k hk hn => ?_⟩, .inr hput⟩, hput⟩
    · simp only [execOp, ho, hx, hy, Instr.storeAt, Instr.sureAddr, Sem.run_bind, Sem.run_pure, Result.andThen_ok, run_storeVar_row W g t ty old cells hg hi hs (by rw [← Array.all_toList]; exact h1)]
    · simp only [World.setRow]
      rw [Array.getElem?_modify, if_neg (fun e => hn e.symm)]
  rcases hst.2 with e | e
  · exact key old (e.trans h0) hold
  · exact key cells e rfl
theorem rg_step_store {K : Act → World → Prop} {ty : TypeId} {x y : Operand} {g : Nat} {cells old : Array Value} {W0 : World} {t : TypeId} (hw : Region.wanted o (yielded ops a.tmps) = true) (ho : o.op = .store ty x y) (hx : a.eval x = .pointer (some ⟨g, 0, none⟩)) (hy : a.eval y = .agg cells)
    (h0 : W0.heap[g]? = some (.cells old t (0, 0))) (hst : StPut g (.cells cells t (0, 0)) W0 W) (hi : (P.info? ty).map (·.size) = some cells.size) (hold : old.size = cells.size) (h1 : cells.toList.all (·.oneCell') = true)
    (hk : ∀ w', StPut g (.cells cells t (0, 0)) W w' → w'.heap[g]? = some (.cells cells t (0, 0)) → K (a.put o.dst undef) w') : StepTo P Q ops o a W K := by
  obtain ⟨w', hr, hs, hg⟩ := rg_store (P := P) ho hx hy h0 hst hi hold h1
  exact Go.Proofs.Ytainkpgplmkiaaa.Rg.step_skip hw hr (hk w' hs hg)
/-! ### A region in which one cell is written, once -/
def PutV (s g : Nat) (c0 c1 : Array Value) (t : TypeId) (d : Nat → Bool) (w : World) : Prop := w.heap[g]? = some (.cells (if d s then c1 else c0) t (0, 0))
theorem putv_other {s g i : Nat} {c0 c1 : Array Value} {t : TypeId} {f : Nat → Bool} {w : World} (hn : s ≠ i) (h : PutV s g c0 c1 t f w) : PutV s g c0 c1 t (fun j => if j = i then true else f j) w := by
  unfold PutV at *; simp only [if_neg hn]; exact h
theorem putv_not {s g : Nat} {c0 c1 : Array Value} {t : TypeId} {f : Nat → Bool} {w : World} (h : PutV s g c0 c1 t f w) (hf : f s = false) : w.heap[g]? = some (.cells c0 t (0, 0)) := by
  unfold PutV at h; rw [hf] at h; exact h
theorem putv_self {s g : Nat} {c0 c1 : Array Value} {t : TypeId} {f : Nat → Bool} {w : World} (h : w.heap[g]? = some (.cells c1 t (0, 0))) : PutV s g c0 c1 t (fun j => if j = s then true else f j) w := by
  unfold PutV; simp only [if_true]; exact h
theorem putv_start {s g : Nat} {c0 c1 : Array Value} {t : TypeId} {w : World} (h : w.heap[g]? = some (.cells c0 t (0, 0))) : PutV s g c0 c1 t (fun _ => false) w := h
theorem putv_end {s g : Nat} {c0 c1 : Array Value} {t : TypeId} {d : Nat → Bool} {w : World} (h : PutV s g c0 c1 t d w) (hd : d s = true) : w.heap[g]? = some (.cells c1 t (0, 0)) := by
  unfold PutV at h; rw [hd] at h; exact h
theorem un_of {listed : Array Bool} {i : Nat} (h : listed.getD i true = false) : listed.getD i false = false := by
  rw [Array.getD_eq_getD_getElem?] at h ⊢
  cases hq : listed[i]? with
  | none => rfl
  | some b => rw [hq] at h; exact h
theorem rg_step_store1 {K : Act → World → Prop} {ty : TypeId} {x y : Operand} {g i : Nat} {c0 c1 : Array Value} {t : TypeId} {v u : Value} (hw : Region.wanted o (yielded ops a.tmps) = true) (ho : o.op = .store ty x y) (hx : a.eval x = .pointer (some ⟨g, i, none⟩)) (hy : a.eval y = v)
    (hg : W.heap[g]? = some (.cells c0 t (0, 0))) (hu : c0[i]? = some u) (hi : (P.info? ty).map (·.size) = some 1) (hv : v.cells = #[v]) (h1 : v.oneCell' = true) (hcs : c0.setIfInBounds i v = c1)
    (hk : ∀ w', Upd (One g) W w' → w'.heap[g]? = some (.cells c1 t (0, 0)) → K (a.put o.dst undef) w') : StepTo P Q ops o a W K := by
  subst hcs
  refine Go.Proofs.Ytainkpgplmkiaaa.Rg.step_skip (w' := W.setCell ⟨g, i, none⟩ v) hw ?_ (hk _ ((Upd.refl (One g) W).setCell (p := ⟨g, i, none⟩) (.inl rfl) v) (blk_set hg i v))
  simp only [execOp, ho, hx, hy, Sem.run_bind, Sem.run_pure, run_store_one (P := P) W ⟨g, i, none⟩ ty v u ((blk_cell hg i).trans hu) (blk_frozen hg i) hi hv h1, Result.andThen_ok]
end
end Go.Proofs.Ytainkpgplmkiaaa.Ev
