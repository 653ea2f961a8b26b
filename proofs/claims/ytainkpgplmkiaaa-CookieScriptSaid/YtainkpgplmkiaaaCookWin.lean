/- cookie's and the reference's Window, Hash and Cookie by letters. No condition. -/
import Derived.Test.YtainkpgplmkiaaaRefCook
namespace Go.Proofs.Ytainkpgplmkiaaa.CookWin
open Go Go.RowKit Go.Deep Go.Proofs.YtainkpgplmkiaaaW.PrintWords Go.Proofs.YtainkpgplmkiaaaW.PrintLast Go.Proofs.YtainkpgplmkiaaaW.PrintMore Go.Proofs.Ytainkpgplmkiaaa.MWorld Go.Proofs.Ytainkpgplmkiaaa.Ev Go.Proofs.Ytainkpgplmkiaaa.Rg Go.Proofs.Ytainkpgplmkiaaa.Cook Go.Proofs.Ytainkpgplmkiaaa.HashDef Go.Proofs.Ytainkpgplmkiaaa.CookLow Go.Proofs.Ytainkpgplmkiaaa.CookHash Go.Proofs.Ytainkpgplmkiaaa.CookCookie Go.Proofs.Ytainkpgplmkiaaa.RefCook
set_option linter.unusedVariables false
section
variable {o : Oper} {a : Act} {W : World}
theorem rg_index {x y : Operand} (ho : o.op = .indexAddr 25 x y) {ad : Addr} {n c k : Nat} (hx : a.eval x = .slice (some ad) n c) (hy : a.eval y = .int .i64 (k : Int)) (hk : k < n) :
    (execOp a.eval o).run Try.prog W = .ok (.value (.pointer (some (ad.add k)))) W := by
  have h1 : (k : Int) < (n : Int) := by omega
  simp only [execOp, ho, hx, hy]
  go_simp
theorem rg_loadcell {ty : TypeId} {x : Operand} (ho : o.op = .load ty x) {p : Addr} (hx : a.eval x = .pointer (some p)) {v : Value} {d : TypeDesc}
    (hc : W.cell? p = some v) (hd : (match d with | .struct _ | .array _ _ => true | _ => false) = false) (hu : Try.prog.underlying ty = some d) : (execOp a.eval o).run Try.prog W = .ok (.value v) W := by
  simp only [execOp, ho, hx, Sem.run_bind, Sem.run_pure, run_load_one (P := Try.prog) W p ty d v hc hu (by cases d <;> exact hd), Result.andThen_ok]
end
theorem hash_w (sa sb : Int) (A : Option Addr) (c : Nat) (l : List Int) (h : Int) (hh : hsh sa sb l = h) (w : World) (hr : ReadsInt w .u8 A l.length l) (hc : l.length ≤ c) (hl : l.length < 1099511627776) : Calls Try.prog 11 #[.agg #[.int .u64 sa, .int .u64 sb], .slice A l.length c] w fun e w' => e = .returned (.int .u64 h) ∧ Below w.heap.size w w' := by
  subst hh; exact hash_any sa sb A c l w hr hc hl
theorem rhash_w (sa sb : Int) (A : Option Addr) (c : Nat) (l : List Int) (h : Int) (hh : hsh sa sb l = h) (w : World) (hr : ReadsInt w .u8 A l.length l) (hc : l.length ≤ c) (hl : l.length < 1099511627776) : Calls Try.prog 12 #[.agg #[.int .u64 sa, .int .u64 sb], .slice A l.length c] w fun e w' => e = .returned (.int .u64 h) ∧ Below w.heap.size w w' := by
  subst hh; exact rhash_any sa sb A c l w hr hc hl
theorem cookie_w (sa sb p sh sl dh dl sp dp wn h : Int) (hh : ck sa sb p sh sl dh dl sp dp wn = h) (w : World) : Calls Try.prog 13 #[.agg #[.int .u64 sa, .int .u64 sb], .agg #[.int .i64 p, .int .u64 sh, .int .u64 sl, .int .u64 dh, .int .u64 dl, .int .i64 sp, .int .i64 dp], .int .i64 wn] w fun e w' => e = .returned (.int .u32 h) ∧ Below w.heap.size w w' := by
  subst hh; exact cookie_any sa sb p sh sl dh dl sp dp wn w
theorem rcookie_w (sa sb p sh sl dh dl sp dp wn h : Int) (hh : ck sa sb p sh sl dh dl sp dp wn = h) (w : World) : Calls Try.prog 14 #[.agg #[.int .u64 sa, .int .u64 sb], .agg #[.int .i64 p, .int .u64 sh, .int .u64 sl, .int .u64 dh, .int .u64 dl, .int .i64 sp, .int .i64 dp], .int .i64 wn] w fun e w' => e = .returned (.int .u32 h) ∧ Below w.heap.size w w' := by
  subst hh; exact rcookie_any sa sb p sh sl dh dl sp dp wn w
theorem window_any (now : Int) (w : World) : Calls Try.prog 15 #[.int .i64 now] w fun e w' => e = .returned (.int .i64 (now / 16)) ∧ Below w.heap.size w w' := by
  go_enter Try.func15, Try.ntmps15
  go_wp2
  go_ret
  exact ⟨rfl, Below.refl _ _⟩
theorem rwindow_any (now : Int) (w : World) : Calls Try.prog 16 #[.int .i64 now] w fun e w' => e = .returned (.int .i64 (now / 16)) ∧ Below w.heap.size w w' := by
  go_enter Try.func16, Try.ntmps16
  go_wp2
  go_ret
  exact ⟨rfl, Below.refl _ _⟩
section
variable {P : Program} {ops : Array Oper} {rest : List Oper} {o : Oper} {a : Act} {Q : Exit → Act → World → Prop}
theorem lit_event {W : World} (hgd : o.guard = none) {N : Tmp} (_hd : o.dst = some N) {n : Nat} {cs : Array Value} {t : TypeId}
    (hrun : (execOp a.eval o).run P W = .ok (.value (.slice (some ⟨W.heap.size, 0, none⟩) n n)) (W.alloc (.cells cs t (0, 0))))
    (h : ∀ g, g = W.heap.size → ∀ w1, w1.heap[g]? = some (.cells cs t (0, 0)) → Below W.heap.size W w1 → wpList P ops Q rest (a.put o.dst (.slice (some ⟨g, 0, none⟩) n n)) w1) : wpList P ops Q (o :: rest) a W :=
  Kd.event_run hgd hrun (h _ rfl _ (blk_new W _) (below_alloc (Below.refl _ _) _))
end
end Go.Proofs.Ytainkpgplmkiaaa.CookWin
