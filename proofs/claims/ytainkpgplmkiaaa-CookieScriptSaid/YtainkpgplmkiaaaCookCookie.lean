/- cookie's Cookie: its contract. No condition. -/
import Derived.Test.YtainkpgplmkiaaaCookHash
import Derived.Test.YtainkpgplmkiaaaCookPut
import Derived.Deep.MidRow
namespace Go.Proofs.Ytainkpgplmkiaaa.CookCookie
open Go Go.RowKit Go.Deep Go.Proofs.YtainkpgplmkiaaaW.PrintWords Go.Proofs.YtainkpgplmkiaaaW.PrintLast Go.Proofs.YtainkpgplmkiaaaW.PrintMore Go.Proofs.Ytainkpgplmkiaaa.MWorld Go.Proofs.Ytainkpgplmkiaaa.Ev Go.Proofs.Ytainkpgplmkiaaa.Rg Go.Proofs.Ytainkpgplmkiaaa.Cook Go.Proofs.Ytainkpgplmkiaaa.HashDef Go.Proofs.Ytainkpgplmkiaaa.CookLow Go.Proofs.Ytainkpgplmkiaaa.CookHash Go.Proofs.Ytainkpgplmkiaaa.CookPut
set_option linter.unusedVariables false
set_option linter.unusedSimpArgs false
section
variable {P : Program} {ops : Array Oper} {rest : List Oper} {o : Oper} {a : Act} {Q : Exit → Act → World → Prop} {W : World}
theorem loadmid_event (hgd : o.guard = none) (ty : TypeId) (x : Operand) (ho : o.op = .load ty x) (b f : Nat) (hx : a.eval x = .pointer (some ⟨b, f, none⟩)) (cs : List Value) (d : TypeDesc)
    (hc : W.rangeAt b f cs) (hu : P.underlying ty = some d) (hd : d.isRow = true) (hi : (P.info? ty).map (·.size) = some cs.length)
    (h : wpList P ops Q rest (a.put o.dst (.agg cs.toArray)) W) : wpList P ops Q (o :: rest) a W :=
  Kd.event_run hgd (by simp only [execOp, ho, hx, Sem.run_bind, Sem.run_pure, run_loadAt_mid W b f ty cs d hc hu hd hi, Result.andThen_ok]) h
end
def Nof (a b c d : Nat) : Nat → Prop := fun k => k = a ∨ k = b ∨ k = c ∨ k = d
theorem nof_lt {a b c d n : Nat} (ha : a < n) (hb : b < n) (hc : c < n) (hd : d < n) : ∀ k, Nof a b c d k → k < n := by
  rintro k (rfl | rfl | rfl | rfl) <;> assumption
theorem r_in {w : World} {base a b c g : Nat} {v : Value} {ys : List Int} (h : Kd.R (Kd.int .u8) 5 w base (fun k => ¬ Nof a b c c k) v ys) (hg : w.heap.size ≤ g) : Kd.R (Kd.int .u8) 5 w base (fun k => ¬ Nof a b c g k) v ys := by
  refine Kd.R_mono (Kd.R_bound h) (fun k hk hn => ?_)
  rcases hn with e | e | e | e
  · exact hk.1 (.inl e)
  · exact hk.1 (.inr (.inl e))
  · exact hk.1 (.inr (.inr (.inl e)))
  · have := hk.2.2.1; omega
theorem r_out {w : World} {base a b c g : Nat} {v : Value} {ys : List Int} (h : Kd.R (Kd.int .u8) 5 w base (fun k => ¬ Nof a b c g k) v ys) : Kd.R (Kd.int .u8) 5 w base (fun k => ¬ Nof a b c c k) v ys := by
  refine Kd.R_mono h (fun k hk hn => hk ?_)
  rcases hn with e | e | e | e
  · exact .inl e
  · exact .inr (.inl e)
  · exact .inr (.inr (.inl e))
  · exact .inr (.inr (.inl e))
theorem blk_range {w : World} {g : Nat} {cs : Array Value} {t : TypeId} (h : w.heap[g]? = some (.cells cs t (0, 0))) (off : Nat) (vs : List Value) (he : (cs.toList.drop off).take vs.length = vs) : w.rangeAt g off vs := by
  intro j v hv
  have e : w.cell? ⟨g, off + j, none⟩ = cs[off + j]? := blk_cell h (off + j)
  rw [e, ← Array.getElem?_toList, ← List.getElem?_drop]
  rw [← he] at hv
  rw [List.getElem?_take] at hv
  split at hv
  · exact hv
  · cases hv
theorem reads_of {w : World} {A : Option Addr} {n : Nat} {xs : List Int} (h : Kd.C (Kd.int .u8) w A n xs) : ReadsInt w .u8 A n xs := by
  refine ⟨h.1, h.2.1, fun hp => ?_⟩
  obtain ⟨ad, e, hc⟩ := h.2.2 hp
  refine ⟨ad, e, fun j hj => ?_⟩
  have hj' : j < xs.length := by rw [h.1]; exact hj
  obtain ⟨c, hl, hk, hcell⟩ := hc j _ (List.getElem?_eq_getElem hj')
  have hk' : c = [.int .u8 xs[j]] := hk
  subst hk'
  have := hcell 0 _ rfl
  simpa [show (Kd.int IntKind.u8).sz = 1 from rfl, List.getD_eq_getElem?_getD, List.getElem?_eq_getElem hj'] using this
theorem aidx0 (a b c d : Value) (w : World) : (Instr.index 92 (.agg #[a, b, c, d]) (.int .i64 0)).run Try.prog w = .ok (.agg #[a, b]) w := by kernel_rfl
theorem aidx1 (a b c d : Value) (w : World) : (Instr.index 92 (.agg #[a, b, c, d]) (.int .i64 1)).run Try.prog w = .ok (.agg #[c, d]) w := by kernel_rfl
/-- The bytes that a cookie is the hash of. -/
def keyBytes (p sh sl dh dl sp dp wn : Int) : List Int := ((((((([] ++ digits (IntKind.u64.wrap p) 2) ++ digits sh 8) ++ digits sl 8) ++ digits dh 8) ++ digits dl 8) ++ digits (IntKind.u64.wrap sp) 2) ++ digits (IntKind.u64.wrap dp) 2) ++ digits (IntKind.u64.wrap wn) 8
def ck (sa sb p sh sl dh dl sp dp wn : Int) : Int := hsh sa sb (keyBytes p sh sl dh dl sp dp wn) % 4294967296
set_option maxRecDepth 100000 in
set_option maxHeartbeats 16000000 in
theorem cookie_any (sa sb p sh sl dh dl sp dp wn : Int) (w : World) : Calls Try.prog 13 #[.agg #[.int .u64 sa, .int .u64 sb], .agg #[.int .i64 p, .int .u64 sh, .int .u64 sl, .int .u64 dh, .int .u64 dl, .int .i64 sp, .int .i64 dp], .int .i64 wn] w fun e w' => e = .returned (.int .u32 (ck sa sb p sh sl dh dl sp dp wn)) ∧ Below w.heap.size w w' := by
  have hmf : ∀ (fn : Fn) (first cap : Array Value) (w : World), (Instr.makeFunc fn first cap).run Try.prog w = .ok (.func fn first cap) w := fun _ _ _ _ => rfl
  have hx0 := aidx0 (.int .u64 sh) (.int .u64 sl) (.int .u64 dh) (.int .u64 dl)
  have hx1 := aidx1 (.int .u64 sh) (.int .u64 sl) (.int .u64 dh) (.int .u64 dl)
  obtain ⟨np, hnp⟩ : ∃ x : Int, IntKind.u64.wrap p = x := ⟨_, rfl⟩
  obtain ⟨ns, hns⟩ : ∃ x : Int, IntKind.u64.wrap sp = x := ⟨_, rfl⟩
  obtain ⟨nd, hnd⟩ : ∃ x : Int, IntKind.u64.wrap dp = x := ⟨_, rfl⟩
  obtain ⟨nw, hnw⟩ : ∃ x : Int, IntKind.u64.wrap wn = x := ⟨_, rfl⟩
  go_enter Try.func13, Try.ntmps13
  go_upto_region 3 with (first | ((with_reducible refine gate_dst (N := 3) rfl ?_); refine box_event ?hg (N := 3) ?hd (cs := #[.int .u64 sa, .int .u64 sb]) (t := 24) ?hr ?_; (case hd => rfl); (case hg => rfl); (case hr => first | (go_simp; done) | (go_simp; rfl)); intro g3 hgg wx1 hbox hb; have Lg3 := Aside0.mk (show w.heap.size ≤ g3 by rw [hgg]; exact Nat.le_refl _); have HB_1 := Aside0.mk (hb); have Bg3_1 := Aside0.mk hbox; clear hbox hb hgg) | ((with_reducible refine gate_dst (N := 4) rfl ?_); refine box_event ?hg (N := 4) ?hd (cs := #[.int .i64 p, .int .u64 sh, .int .u64 sl, .int .u64 dh, .int .u64 dl, .int .i64 sp, .int .i64 dp]) (t := 29) ?hr ?_; (case hd => rfl); (case hg => rfl); (case hr => first | (go_simp; done) | (go_simp; rfl)); intro g4 hgg wx2 hbox hb; have Ng3g4 := Aside0.mk (show g3 ≠ g4 by rw [hgg]; exact Nat.ne_of_lt (blk_lt Bg3_1.out)); have Lg4 := Aside0.mk (show w.heap.size ≤ g4 by rw [hgg]; exact below_size HB_1.out); have HB_2 := Aside0.mk (below_step HB_1.out hb); clear HB_1; have Bg3_2 := Aside0.mk (blk_below Bg3_1.out hb); clear Bg3_1; have Bg4_2 := Aside0.mk hbox; clear hbox hb hgg) | ((with_reducible refine gate_dst (N := 7) rfl ?_); refine box_event ?hg (N := 7) ?hd (cs := #[.slice none 0 0]) (t := 25) ?hr ?_; (case hd => rfl); (case hg => rfl); (case hr => first | (go_simp; done) | (go_simp; rfl)); intro g7 hgg wx3 hbox hb; have Ng3g7 := Aside0.mk (show g3 ≠ g7 by rw [hgg]; exact Nat.ne_of_lt (blk_lt Bg3_2.out)); have Ng4g7 := Aside0.mk (show g4 ≠ g7 by rw [hgg]; exact Nat.ne_of_lt (blk_lt Bg4_2.out)); have Lg7 := Aside0.mk (show w.heap.size ≤ g7 by rw [hgg]; exact below_size HB_2.out); have HB_3 := Aside0.mk (below_step HB_2.out hb); clear HB_2; have Bg3_3 := Aside0.mk (blk_below Bg3_2.out hb); clear Bg3_2; have Bg4_3 := Aside0.mk (blk_below Bg4_2.out hb); clear Bg4_2; have Bg7_3 := Aside0.mk hbox; clear hbox hb hgg))
  have HR := Aside0.mk (Kd.R_nil (Kd.int .u8) 5 wx3 w.heap.size (fun k => ¬ Nof g3 g4 g7 g7 k))
  go_upto_region 4 with (first | ((with_reducible refine gate_dst (N := 14) rfl ?_); refine load1_event rfl _ _ rfl g4 0 rfl _ _ _ _ Bg4_3.out rfl Try.underlying3 rfl ?_) | (go_at_call 37; refine (put_any g7 np 2 (by decide) ([] : List Int) (by simp [digits_len]) (.slice none 0 0) w _ HB_3.out Lg7.out Bg7_3.out (Nof g3 g4 g7 g7) (.inr (.inr (.inl rfl))) (nof_lt (blk_lt Bg3_3.out) (blk_lt Bg4_3.out) (blk_lt Bg7_3.out) (blk_lt Bg7_3.out)) HR.out).mono ?_; rintro e wz100 ⟨rfl, v100, hc, hr, hb, hk⟩; have Bg3_100 := Aside0.mk ((hk.2 g3 (.inl rfl) Ng3g7.out).trans Bg3_3.out); clear Bg3_3; have Bg4_100 := Aside0.mk ((hk.2 g4 (.inr (.inl rfl)) Ng4g7.out).trans Bg4_3.out); clear Bg4_3; have Bg7_100 := Aside0.mk hc; have HR_100 := Aside0.mk hr; have HB_100 := Aside0.mk hb; clear hc hr hb hk Bg7_3 HR HB_3))
  go_upto_region 5 with (first | ((with_reducible refine gate_dst (N := 18) rfl ?_); refine loadmid_event rfl _ _ rfl g4 1 rfl [.int .u64 sh, .int .u64 sl] _ (blk_range Bg4_100.out 1 [.int .u64 sh, .int .u64 sl] rfl) Try.underlying27 rfl (by kernel_rfl) ?_) | ((with_reducible refine gate_dst (N := 20) rfl ?_); refine loadmid_event rfl _ _ rfl g4 3 rfl [.int .u64 dh, .int .u64 dl] _ (blk_range Bg4_100.out 3 [.int .u64 dh, .int .u64 dl] rfl) Try.underlying27 rfl (by kernel_rfl) ?_))
  refine wp_loop_rounds 3 ?_
  rw [rounds_succ]
  go_upto_region 6 with fail
  go_upto_region 7 with (first | ((with_reducible refine gate_dst (N := 10) rfl ?_); refine box_event ?hg (N := 10) ?hd (cs := #[.int .u64 0, .int .u64 0]) (t := 27) ?hr ?_; (case hd => rfl); (case hg => rfl); (case hr => first | (go_simp; done) | (go_simp; rfl)); intro ga0 hgg wz101 hbox hb; have Ng3ga0 := Aside0.mk (show g3 ≠ ga0 by rw [hgg]; exact Nat.ne_of_lt (blk_lt Bg3_100.out)); have Ng4ga0 := Aside0.mk (show g4 ≠ ga0 by rw [hgg]; exact Nat.ne_of_lt (blk_lt Bg4_100.out)); have Ng7ga0 := Aside0.mk (show g7 ≠ ga0 by rw [hgg]; exact Nat.ne_of_lt (blk_lt Bg7_100.out)); have Lga0 := Aside0.mk (show w.heap.size ≤ ga0 by rw [hgg]; exact below_size HB_100.out); have HRn := Aside0.mk (Kd.R_below (r_in HR_100.out (show _ ≤ ga0 by rw [hgg]; exact Nat.le_refl _)) hb); have Bg3_101 := Aside0.mk (blk_below Bg3_100.out hb); clear Bg3_100; have Bg4_101 := Aside0.mk (blk_below Bg4_100.out hb); clear Bg4_100; have Bg7_101 := Aside0.mk (blk_below Bg7_100.out hb); clear Bg7_100; have Bga0_101 := Aside0.mk hbox; have HB_101 := Aside0.mk (below_step HB_100.out hb); clear HB_100 HR_100 hbox hb hgg; have HR_101 := HRn; clear HRn) | ((with_reducible refine gate_store (t := 27) (p := 10) rfl ?_); refine store_event rfl 27 _ _ rfl ga0 _ rfl rfl _ _ Bga0_101.out (by kernel_rfl) rfl rfl ?_; intro wz102 hst hu; have HR_102 := Aside0.mk (Kd.R_step HR_101.out (fun k hk hl => hu.block k hl (One.not (fun h => hk (.inr (.inr (.inr h))))))); have Bg3_102 := Aside0.mk (Upd.blk hu Bg3_101.out (One.not Ng3ga0.out)); clear Bg3_101; have Bg4_102 := Aside0.mk (Upd.blk hu Bg4_101.out (One.not Ng4ga0.out)); clear Bg4_101; have Bg7_102 := Aside0.mk (Upd.blk hu Bg7_101.out (One.not Ng7ga0.out)); clear Bg7_101; have HB_102 := Aside0.mk (below_upd HB_101.out hu (below_size HB_101.out) (fun k hk => by cases hk; exact Lga0.out)); have Bga0_102 := Aside0.mk hst; clear HB_101 HR_101 Bga0_101 hst hu))
  go_upto_region 8 with (first | ((with_reducible refine gate_dst (N := 27) rfl ?_); refine load1_event rfl _ _ rfl ga0 0 rfl _ _ _ _ Bga0_102.out rfl Try.underlying22 rfl ?_) | (go_at_call 37; refine (put_any g7 sh 8 (by decide) (([] : List Int) ++ digits np 2) (by simp [digits_len]) v100 w _ HB_102.out Lg7.out Bg7_102.out (Nof g3 g4 g7 ga0) (.inr (.inr (.inl rfl))) (nof_lt (blk_lt Bg3_102.out) (blk_lt Bg4_102.out) (blk_lt Bg7_102.out) (blk_lt Bga0_102.out)) HR_102.out).mono ?_; rintro e wz103 ⟨rfl, v103, hc, hr, hb, hk⟩; have Bg3_103 := Aside0.mk ((hk.2 g3 (.inl rfl) Ng3g7.out).trans Bg3_102.out); clear Bg3_102; have Bg4_103 := Aside0.mk ((hk.2 g4 (.inr (.inl rfl)) Ng4g7.out).trans Bg4_102.out); clear Bg4_102; have Bga0_103 := Aside0.mk ((hk.2 ga0 (.inr (.inr (.inr rfl))) (Ne.symm Ng7ga0.out)).trans Bga0_102.out); clear Bga0_102; have Bg7_103 := Aside0.mk hc; have HR_103 := Aside0.mk hr; have HB_103 := Aside0.mk hb; clear hc hr hb hk Bg7_102 HR_102 HB_102))
  go_wp2_with (first | ((with_reducible refine gate_dst (N := 31) rfl ?_); refine load1_event rfl _ _ rfl ga0 1 rfl _ _ _ _ Bga0_103.out rfl Try.underlying22 rfl ?_) | (go_at_call 37; refine (put_any g7 sl 8 (by decide) ((([] : List Int) ++ digits np 2) ++ digits sh 8) (by simp [digits_len]) v103 w _ HB_103.out Lg7.out Bg7_103.out (Nof g3 g4 g7 ga0) (.inr (.inr (.inl rfl))) (nof_lt (blk_lt Bg3_103.out) (blk_lt Bg4_103.out) (blk_lt Bg7_103.out) (blk_lt Bga0_103.out)) HR_103.out).mono ?_; rintro e wz104 ⟨rfl, v104, hc, hr, hb, hk⟩; have Bg3_104 := Aside0.mk ((hk.2 g3 (.inl rfl) Ng3g7.out).trans Bg3_103.out); clear Bg3_103; have Bg4_104 := Aside0.mk ((hk.2 g4 (.inr (.inl rfl)) Ng4g7.out).trans Bg4_103.out); clear Bg4_103; have Bga0_104 := Aside0.mk ((hk.2 ga0 (.inr (.inr (.inr rfl))) (Ne.symm Ng7ga0.out)).trans Bga0_103.out); clear Bga0_103; have Bg7_104 := Aside0.mk hc; have HR_104 := Aside0.mk hr; have HB_104 := Aside0.mk hb; clear hc hr hb hk Bg7_103 HR_103 HB_103))
  have HRo := Aside0.mk (r_out HR_104.out)
  clear HR_104 Bga0_104
  have HRo0 := HRo
  clear HRo
  rw [rounds_succ]
  go_upto_region 6 with fail
  go_upto_region 7 with (first | ((with_reducible refine gate_dst (N := 10) rfl ?_); refine box_event ?hg (N := 10) ?hd (cs := #[.int .u64 0, .int .u64 0]) (t := 27) ?hr ?_; (case hd => rfl); (case hg => rfl); (case hr => first | (go_simp; done) | (go_simp; rfl)); intro ga1 hgg wz105 hbox hb; have Ng3ga1 := Aside0.mk (show g3 ≠ ga1 by rw [hgg]; exact Nat.ne_of_lt (blk_lt Bg3_104.out)); have Ng4ga1 := Aside0.mk (show g4 ≠ ga1 by rw [hgg]; exact Nat.ne_of_lt (blk_lt Bg4_104.out)); have Ng7ga1 := Aside0.mk (show g7 ≠ ga1 by rw [hgg]; exact Nat.ne_of_lt (blk_lt Bg7_104.out)); have Lga1 := Aside0.mk (show w.heap.size ≤ ga1 by rw [hgg]; exact below_size HB_104.out); have HRn := Aside0.mk (Kd.R_below (r_in HRo0.out (show _ ≤ ga1 by rw [hgg]; exact Nat.le_refl _)) hb); have Bg3_105 := Aside0.mk (blk_below Bg3_104.out hb); clear Bg3_104; have Bg4_105 := Aside0.mk (blk_below Bg4_104.out hb); clear Bg4_104; have Bg7_105 := Aside0.mk (blk_below Bg7_104.out hb); clear Bg7_104; have Bga1_105 := Aside0.mk hbox; have HB_105 := Aside0.mk (below_step HB_104.out hb); clear HB_104 HRo0 hbox hb hgg; have HR_105 := HRn; clear HRn) | ((with_reducible refine gate_store (t := 27) (p := 10) rfl ?_); refine store_event rfl 27 _ _ rfl ga1 _ rfl rfl _ _ Bga1_105.out (by kernel_rfl) rfl rfl ?_; intro wz106 hst hu; have HR_106 := Aside0.mk (Kd.R_step HR_105.out (fun k hk hl => hu.block k hl (One.not (fun h => hk (.inr (.inr (.inr h))))))); have Bg3_106 := Aside0.mk (Upd.blk hu Bg3_105.out (One.not Ng3ga1.out)); clear Bg3_105; have Bg4_106 := Aside0.mk (Upd.blk hu Bg4_105.out (One.not Ng4ga1.out)); clear Bg4_105; have Bg7_106 := Aside0.mk (Upd.blk hu Bg7_105.out (One.not Ng7ga1.out)); clear Bg7_105; have HB_106 := Aside0.mk (below_upd HB_105.out hu (below_size HB_105.out) (fun k hk => by cases hk; exact Lga1.out)); have Bga1_106 := Aside0.mk hst; clear HB_105 HR_105 Bga1_105 hst hu))
  go_upto_region 8 with (first | ((with_reducible refine gate_dst (N := 27) rfl ?_); refine load1_event rfl _ _ rfl ga1 0 rfl _ _ _ _ Bga1_106.out rfl Try.underlying22 rfl ?_) | (go_at_call 37; refine (put_any g7 dh 8 (by decide) (((([] : List Int) ++ digits np 2) ++ digits sh 8) ++ digits sl 8) (by simp [digits_len]) v104 w _ HB_106.out Lg7.out Bg7_106.out (Nof g3 g4 g7 ga1) (.inr (.inr (.inl rfl))) (nof_lt (blk_lt Bg3_106.out) (blk_lt Bg4_106.out) (blk_lt Bg7_106.out) (blk_lt Bga1_106.out)) HR_106.out).mono ?_; rintro e wz107 ⟨rfl, v107, hc, hr, hb, hk⟩; have Bg3_107 := Aside0.mk ((hk.2 g3 (.inl rfl) Ng3g7.out).trans Bg3_106.out); clear Bg3_106; have Bg4_107 := Aside0.mk ((hk.2 g4 (.inr (.inl rfl)) Ng4g7.out).trans Bg4_106.out); clear Bg4_106; have Bga1_107 := Aside0.mk ((hk.2 ga1 (.inr (.inr (.inr rfl))) (Ne.symm Ng7ga1.out)).trans Bga1_106.out); clear Bga1_106; have Bg7_107 := Aside0.mk hc; have HR_107 := Aside0.mk hr; have HB_107 := Aside0.mk hb; clear hc hr hb hk Bg7_106 HR_106 HB_106))
  go_wp2_with (first | ((with_reducible refine gate_dst (N := 31) rfl ?_); refine load1_event rfl _ _ rfl ga1 1 rfl _ _ _ _ Bga1_107.out rfl Try.underlying22 rfl ?_) | (go_at_call 37; refine (put_any g7 dl 8 (by decide) ((((([] : List Int) ++ digits np 2) ++ digits sh 8) ++ digits sl 8) ++ digits dh 8) (by simp [digits_len]) v107 w _ HB_107.out Lg7.out Bg7_107.out (Nof g3 g4 g7 ga1) (.inr (.inr (.inl rfl))) (nof_lt (blk_lt Bg3_107.out) (blk_lt Bg4_107.out) (blk_lt Bg7_107.out) (blk_lt Bga1_107.out)) HR_107.out).mono ?_; rintro e wz108 ⟨rfl, v108, hc, hr, hb, hk⟩; have Bg3_108 := Aside0.mk ((hk.2 g3 (.inl rfl) Ng3g7.out).trans Bg3_107.out); clear Bg3_107; have Bg4_108 := Aside0.mk ((hk.2 g4 (.inr (.inl rfl)) Ng4g7.out).trans Bg4_107.out); clear Bg4_107; have Bga1_108 := Aside0.mk ((hk.2 ga1 (.inr (.inr (.inr rfl))) (Ne.symm Ng7ga1.out)).trans Bga1_107.out); clear Bga1_107; have Bg7_108 := Aside0.mk hc; have HR_108 := Aside0.mk hr; have HB_108 := Aside0.mk hb; clear hc hr hb hk Bg7_107 HR_107 HB_107))
  have HRo := Aside0.mk (r_out HR_108.out)
  clear HR_108 Bga1_108
  have HRo1 := HRo
  clear HRo
  rw [rounds_succ]
  go_upto_region 10 with fail
  go_upto_region 11 with (first | ((with_reducible refine gate_dst (N := 36) rfl ?_); refine load1_event rfl _ _ rfl g4 5 rfl _ _ _ _ Bg4_108.out rfl Try.underlying3 rfl ?_) | (go_at_call 37; refine (put_any g7 ns 2 (by decide) (((((([] : List Int) ++ digits np 2) ++ digits sh 8) ++ digits sl 8) ++ digits dh 8) ++ digits dl 8) (by simp [digits_len]) v108 w _ HB_108.out Lg7.out Bg7_108.out (Nof g3 g4 g7 g7) (.inr (.inr (.inl rfl))) (nof_lt (blk_lt Bg3_108.out) (blk_lt Bg4_108.out) (blk_lt Bg7_108.out) (blk_lt Bg7_108.out)) HRo1.out).mono ?_; rintro e wz109 ⟨rfl, v109, hc, hr, hb, hk⟩; have Bg3_109 := Aside0.mk ((hk.2 g3 (.inl rfl) Ng3g7.out).trans Bg3_108.out); clear Bg3_108; have Bg4_109 := Aside0.mk ((hk.2 g4 (.inr (.inl rfl)) Ng4g7.out).trans Bg4_108.out); clear Bg4_108; have Bg7_109 := Aside0.mk hc; have HR_109 := Aside0.mk hr; have HB_109 := Aside0.mk hb; clear hc hr hb hk Bg7_108 HRo1 HB_108))
  go_upto_region 12 with (first | ((with_reducible refine gate_dst (N := 41) rfl ?_); refine load1_event rfl _ _ rfl g4 6 rfl _ _ _ _ Bg4_109.out rfl Try.underlying3 rfl ?_) | (go_at_call 37; refine (put_any g7 nd 2 (by decide) ((((((([] : List Int) ++ digits np 2) ++ digits sh 8) ++ digits sl 8) ++ digits dh 8) ++ digits dl 8) ++ digits ns 2) (by simp [digits_len]) v109 w _ HB_109.out Lg7.out Bg7_109.out (Nof g3 g4 g7 g7) (.inr (.inr (.inl rfl))) (nof_lt (blk_lt Bg3_109.out) (blk_lt Bg4_109.out) (blk_lt Bg7_109.out) (blk_lt Bg7_109.out)) HR_109.out).mono ?_; rintro e wz110 ⟨rfl, v110, hc, hr, hb, hk⟩; have Bg3_110 := Aside0.mk ((hk.2 g3 (.inl rfl) Ng3g7.out).trans Bg3_109.out); clear Bg3_109; have Bg4_110 := Aside0.mk ((hk.2 g4 (.inr (.inl rfl)) Ng4g7.out).trans Bg4_109.out); clear Bg4_109; have Bg7_110 := Aside0.mk hc; have HR_110 := Aside0.mk hr; have HB_110 := Aside0.mk hb; clear hc hr hb hk Bg7_109 HR_109 HB_109))
  go_upto_region 13 with (first | (go_at_call 37; refine (put_any g7 nw 8 (by decide) (((((((([] : List Int) ++ digits np 2) ++ digits sh 8) ++ digits sl 8) ++ digits dh 8) ++ digits dl 8) ++ digits ns 2) ++ digits nd 2) (by simp [digits_len]) v110 w _ HB_110.out Lg7.out Bg7_110.out (Nof g3 g4 g7 g7) (.inr (.inr (.inl rfl))) (nof_lt (blk_lt Bg3_110.out) (blk_lt Bg4_110.out) (blk_lt Bg7_110.out) (blk_lt Bg7_110.out)) HR_110.out).mono ?_; rintro e wz111 ⟨rfl, v111, hc, hr, hb, hk⟩; have Bg3_111 := Aside0.mk ((hk.2 g3 (.inl rfl) Ng3g7.out).trans Bg3_110.out); clear Bg3_110; have Bg4_111 := Aside0.mk ((hk.2 g4 (.inr (.inl rfl)) Ng4g7.out).trans Bg4_110.out); clear Bg4_110; have Bg7_111 := Aside0.mk hc; have HR_111 := Aside0.mk hr; have HB_111 := Aside0.mk hb; clear hc hr hb hk Bg7_110 HR_110 HB_110))
  obtain ⟨A9, c9, hv9, hc9, hr9⟩ := Kd.R_reads HR_111.out
  have hlen : ((((((((([] : List Int) ++ digits np 2) ++ digits sh 8) ++ digits sl 8) ++ digits dh 8) ++ digits dl 8) ++ digits ns 2) ++ digits nd 2) ++ digits nw 8).length = 46 := by simp [digits_len]
  have HRD : Aside0 (ReadsInt wz111 .u8 A9 ((((((((([] : List Int) ++ digits np 2) ++ digits sh 8) ++ digits sl 8) ++ digits dh 8) ++ digits dl 8) ++ digits ns 2) ++ digits nd 2) ++ digits nw 8).length ((((((((([] : List Int) ++ digits np 2) ++ digits sh 8) ++ digits sl 8) ++ digits dh 8) ++ digits dl 8) ++ digits ns 2) ++ digits nd 2) ++ digits nw 8)) := ⟨reads_of hr9⟩
  have HC9 := Aside0.mk hc9
  have HKB : Aside0 (((((((((([] : List Int) ++ digits np 2) ++ digits sh 8) ++ digits sl 8) ++ digits dh 8) ++ digits dl 8) ++ digits ns 2) ++ digits nd 2) ++ digits nw 8) = keyBytes p sh sl dh dl sp dp wn) := ⟨by unfold keyBytes; rw [hnp, hns, hnd, hnw]⟩
  subst hv9
  have HLN := Aside0.mk hlen
  clear hc9 hr9 hlen
  go_wp2_with (first | ((with_reducible refine gate_dst (N := 48) rfl ?_); refine load_event rfl 24 _ rfl g3 rfl _ _ _ Bg3_111.out Try.underlying24 rfl (by kernel_rfl) ?_) | ((with_reducible refine gate_dst (N := 49) rfl ?_); refine load1_event rfl _ _ rfl g7 0 rfl _ _ _ _ Bg7_111.out rfl Try.underlying25 rfl ?_) | (go_at_call 11; refine (hash_any sa sb A9 c9 ((((((((([] : List Int) ++ digits np 2) ++ digits sh 8) ++ digits sl 8) ++ digits dh 8) ++ digits dl 8) ++ digits ns 2) ++ digits nd 2) ++ digits nw 8) _ HRD.out HC9.out (by rw [HLN.out]; decide)).mono ?_; rintro e wx4 ⟨rfl, hb⟩; have HB_4 := Aside0.mk (below_step HB_111.out hb); clear HB_111; have Bg3_4 := Aside0.mk (blk_below Bg3_111.out hb); clear Bg3_111; have Bg4_4 := Aside0.mk (blk_below Bg4_111.out hb); clear Bg4_111; have Bg7_4 := Aside0.mk (blk_below Bg7_111.out hb); clear Bg7_111; clear hb))
  go_ret
  exact ⟨by unfold ck; rw [← HKB.out]; first | rfl | (congr 2; rw [IntKind.wrap_u32]), HB_4.out⟩
end Go.Proofs.Ytainkpgplmkiaaa.CookCookie
