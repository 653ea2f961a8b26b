/- The walk of CookieHash: the hash of any bytes, and the cookie of any key, is the document's; bytes stay: the call returns true and leaves all memory that was there as it was. No condition. -/
import Derived.Test.YtainkpgplmkiaaaRefCook
import Derived.Test.YtainkpgplmkiaaaMArgs
namespace Go.Proofs.Ytainkpgplmkiaaa.CookieHashWalk
open Go Go.RowKit Go.Deep Go.Proofs.YtainkpgplmkiaaaW.PrintWords Go.Proofs.YtainkpgplmkiaaaW.PrintLast Go.Proofs.YtainkpgplmkiaaaW.PrintMore Go.Proofs.Ytainkpgplmkiaaa.MWorld Go.Proofs.Ytainkpgplmkiaaa.MArgs Go.Proofs.Ytainkpgplmkiaaa.Ev Go.Proofs.Ytainkpgplmkiaaa.Rg Go.Proofs.Ytainkpgplmkiaaa.Cook Go.Proofs.Ytainkpgplmkiaaa.HashDef Go.Proofs.Ytainkpgplmkiaaa.CookLow Go.Proofs.Ytainkpgplmkiaaa.CookHash Go.Proofs.Ytainkpgplmkiaaa.CookPut Go.Proofs.Ytainkpgplmkiaaa.CookCookie Go.Proofs.Ytainkpgplmkiaaa.RefCook
set_option linter.unusedVariables false
set_option linter.unusedSimpArgs false
section
variable {o : Oper} {a : Act} {W : World}
theorem rg_index {x y : Operand} (ho : o.op = .indexAddr 25 x y) {ad : Addr} {n c k : Nat} (hx : a.eval x = .slice (some ad) n c) (hy : a.eval y = .int .i64 (k : Int)) (hk : k < n) :
    (execOp a.eval o).run Try.prog W = .ok (.value (.pointer (some (ad.add k)))) W := by
  have h1 : (k : Int) < (n : Int) := by omega
  simp only [execOp, ho, hx, hy]
  go_simp
theorem rg_loadcell {ty : TypeId} {x : Operand} (ho : o.op = .load ty x) {p : Addr} (hx : a.eval x = .pointer (some p)) {v : Value} {d : TypeDesc}
    (hc : W.cell? p = some v) (hd : (match d with | .struct _ | .array _ _ => true | _ => false) = false) (hu : Try.prog.underlying ty = some d) : (execOp a.eval o).run Try.prog W = .ok (.value v) W := by
  simp only [execOp, ho, hx, Sem.run_bind, Sem.run_pure, run_load_one (P := Try.prog) W p ty d v hc hu (by cases d <;> exact hd), Result.andThen_ok]
end
theorem hash_w (sa sb : Int) (A : Option Addr) (c : Nat) (l : List Int) (h : Int) (hh : hsh sa sb l = h) (w : World) (hr : ReadsInt w .u8 A l.length l) (hc : l.length ≤ c) (hl : l.length < 1099511627776) : Calls Try.prog 11 #[.agg #[.int .u64 sa, .int .u64 sb], .slice A l.length c] w fun e w' => e = .returned (.int .u64 h) ∧ Below w.heap.size w w' := by
  subst hh; exact hash_any sa sb A c l w hr hc hl
theorem rhash_w (sa sb : Int) (A : Option Addr) (c : Nat) (l : List Int) (h : Int) (hh : hsh sa sb l = h) (w : World) (hr : ReadsInt w .u8 A l.length l) (hc : l.length ≤ c) (hl : l.length < 1099511627776) : Calls Try.prog 12 #[.agg #[.int .u64 sa, .int .u64 sb], .slice A l.length c] w fun e w' => e = .returned (.int .u64 h) ∧ Below w.heap.size w w' := by
  subst hh; exact rhash_any sa sb A c l w hr hc hl
theorem cookie_w (sa sb p sh sl dh dl sp dp wn h : Int) (hh : ck sa sb p sh sl dh dl sp dp wn = h) (w : World) : Calls Try.prog 13 #[.agg #[.int .u64 sa, .int .u64 sb], .agg #[.int .i64 p, .int .u64 sh, .int .u64 sl, .int .u64 dh, .int .u64 dl, .int .i64 sp, .int .i64 dp], .int .i64 wn] w fun e w' => e = .returned (.int .u32 h) ∧ Below w.heap.size w w' := by
  subst hh; exact cookie_any sa sb p sh sl dh dl sp dp wn w
theorem rcookie_w (sa sb p sh sl dh dl sp dp wn h : Int) (hh : ck sa sb p sh sl dh dl sp dp wn = h) (w : World) : Calls Try.prog 14 #[.agg #[.int .u64 sa, .int .u64 sb], .agg #[.int .i64 p, .int .u64 sh, .int .u64 sl, .int .u64 dh, .int .u64 dl, .int .i64 sp, .int .i64 dp], .int .i64 wn] w fun e w' => e = .returned (.int .u32 h) ∧ Below w.heap.size w w' := by
  subst hh; exact rcookie_any sa sb p sh sl dh dl sp dp wn w
theorem window_any (now : Int) (w : World) : Calls Try.prog 15 #[.int .i64 now] w fun e w' => e = .returned (.int .i64 (now / 16)) ∧ Below w.heap.size w w' := by
  go_enter Try.func15, Try.ntmps15
  go_wp2
  go_ret
  exact ⟨rfl, Below.refl _ _⟩
theorem rwindow_any (now : Int) (w : World) : Calls Try.prog 16 #[.int .i64 now] w fun e w' => e = .returned (.int .i64 (now / 16)) ∧ Below w.heap.size w w' := by
  go_enter Try.func16, Try.ntmps16
  go_wp2
  go_ret
  exact ⟨rfl, Below.refl _ _⟩
set_option maxRecDepth 100000 in
set_option maxHeartbeats 16000000 in
theorem walk (sa sb : Int) (A : Option Addr) (c : Nat) (l : List Int) (p sh sl dh dl sp dp wn now : Int) (w : World) (hl : IntsIn .u8 1 w A c l) :
    Calls Try.prog 3 #[.agg #[.int .u64 sa, .int .u64 sb], .slice A l.length c, .agg #[.int .i64 p, .int .u64 sh, .int .u64 sl, .int .u64 dh, .int .u64 dl, .int .i64 sp, .int .i64 dp], .int .i64 wn, .int .i64 now] w fun e w' => e = .returned (.bool true) ∧ Below w.heap.size w w' := by
  have HL := Aside0.mk hl
  clear hl
  by_cases hbig : l.length ≤ 65536
  case neg =>
    have hb1 : (l.length : Int) > 65536 := by omega
    go_enter Try.func3, Try.ntmps3
    go_wp2
    go_ret
    exact ⟨rfl, below_alloc (below_alloc (Below.refl _ _) _) _⟩
  have hb1 : decide ((65536 : Int) < l.length) = false := decide_eq_false (by omega)
  have HS := Aside0.mk hbig
  clear hbig
  go_enter Try.func3, Try.ntmps3
  go_upto_region 3 with (first | ((with_reducible refine gate_dst (N := 5) rfl ?_); refine box_event ?hg (N := 5) ?hd (cs := #[.int .u64 sa, .int .u64 sb]) (t := 24) ?hr ?_; (case hd => rfl); (case hg => rfl); (case hr => first | (go_simp; done) | (go_simp; rfl)); intro g5 hgg wx1 hbox hb; have Lg5 := Aside0.mk (show w.heap.size ≤ g5 by rw [hgg]; exact Nat.le_refl _); have HB_1 := Aside0.mk (hb); have Bg5_1 := Aside0.mk hbox; clear hbox hb hgg) | ((with_reducible refine gate_dst (N := 7) rfl ?_); refine box_event ?hg (N := 7) ?hd (cs := #[.int .i64 p, .int .u64 sh, .int .u64 sl, .int .u64 dh, .int .u64 dl, .int .i64 sp, .int .i64 dp]) (t := 29) ?hr ?_; (case hd => rfl); (case hg => rfl); (case hr => first | (go_simp; done) | (go_simp; rfl)); intro g7 hgg wx2 hbox hb; have Ng5g7 := Aside0.mk (show g5 ≠ g7 by rw [hgg]; exact Nat.ne_of_lt (blk_lt Bg5_1.out)); have Lg7 := Aside0.mk (show w.heap.size ≤ g7 by rw [hgg]; exact below_size HB_1.out); have HB_2 := Aside0.mk (below_step HB_1.out hb); clear HB_1; have Bg5_2 := Aside0.mk (blk_below Bg5_1.out hb); clear Bg5_1; have Bg7_2 := Aside0.mk hbox; clear hbox hb hgg))
  go_upto_region 4 with (first | ((with_reducible refine gate_dst (N := 16) rfl ?_); refine Kd.R_lit (Kd.int .u8) (w0 := w) w.heap.size 5 ?hg (N := 16) ?hd (xs := ([] : List Int)) (inner := []) (ok := fun k => ¬ (Nof g5 g7 g5 g5) k) (okp := fun _ => False) ?hr ?hp (fun _ hk => hk.elim) ?hf HB_2.out (below_size HB_2.out) (by simp) ?_; (case hd => rfl); (case hg => rfl); (case hr => first | (go_simp; done) | (go_simp; rfl)); (case hp => exact (Reps.none _ _)); (case hf => exact (fun h => absurd ((nof_lt (blk_lt Bg5_2.out) (blk_lt Bg7_2.out) (blk_lt Bg5_2.out) (blk_lt Bg5_2.out)) _ h) (Nat.lt_irrefl _))); intro v100 wz100 ho hb hg hnew; have HR_100 := Aside0.mk ho; have Bg5_100 := Aside0.mk ((hg.block g5 (blk_lt Bg5_2.out) (by simp)).trans Bg5_2.out); clear Bg5_2; have Bg7_100 := Aside0.mk ((hg.block g7 (blk_lt Bg7_2.out) (by simp)).trans Bg7_2.out); clear Bg7_2; have HB_100 := Aside0.mk hb; clear ho hb hg hnew HB_2))
  go_upto_region 5 with (first | ((with_reducible refine gate_builtin (b := .append) (xs := #[.tmp 17, .tmp 18]) rfl ?_); refine Kd.R_append_rows (Kd.int .u8) (w0 := w) w.heap.size rfl (.tmp 17) (.tmp 18) 25 5 (.int .u8 0) 1 rfl Try.underlying25 inf5 rfl (by decide) (by omega) v100 ([] : List Int) l _ _ _ (fun k => ¬ (Nof g5 g7 g5 g5) k) (fun _ => False) rfl rfl HR_100.out (Kd.C_below (Kd.C_of_reads (h1 := fun _ => rfl) HL.out.reads) HB_100.out) (fun _ _ h => h) (fun _ h => h.elim) (fun k hk h2 => absurd (Nat.lt_of_lt_of_le ((nof_lt (blk_lt Bg5_100.out) (blk_lt Bg7_100.out) (blk_lt Bg5_100.out) (blk_lt Bg5_100.out)) k h2) hk) (Nat.lt_irrefl _)) HB_100.out (below_size HB_100.out) (by have := HS.out; simp; omega) ?_; intro v101 wz101 ho hb hg hat; have HR_101 := Aside0.mk ho; have Bg5_101 := Aside0.mk ((hg.block g5 (blk_lt Bg5_100.out) (fun h => HR_100.out.1 _ h.symm (.inl rfl))).trans Bg5_100.out); clear Bg5_100; have Bg7_101 := Aside0.mk ((hg.block g7 (blk_lt Bg7_100.out) (fun h => HR_100.out.1 _ h.symm (.inr (.inl rfl)))).trans Bg7_100.out); clear Bg7_100; have HB_101 := Aside0.mk hb; clear ho hb hg hat HB_100 HR_100))
  go_upto_region 6 with (first | ((with_reducible refine gate_builtin (b := .append) (xs := #[.tmp 20, .tmp 21]) rfl ?_); at_builtin; refine Kd.R_append (Kd.int .u8) (w0 := w) w.heap.size rfl (.tmp 20) (.tmp 21) 25 5 (.int .u8 0) 1 rfl Try.underlying25 inf5 rfl (by decide) (by omega) v101 ([] ++ l) 77 [.int .u8 77] (fun k => ¬ (Nof g5 g7 g5 g5) k) (fun _ => False) rfl rfl ?aP (fun _ hk => hk.elim) ?aF ?aO ?aB ?aS ?aL ?_; (case aP => exact rfl); (case aF => exact (fun k hk h2 => absurd (Nat.lt_of_lt_of_le ((nof_lt (blk_lt Bg5_101.out) (blk_lt Bg7_101.out) (blk_lt Bg5_101.out) (blk_lt Bg5_101.out)) k h2) hk) (Nat.lt_irrefl _))); (case aO => exact HR_101.out); (case aB => exact HB_101.out); (case aS => exact below_size HB_101.out); (case aL => have := HS.out; simp; omega); intro v102 wz102 ho hb hg hat; have HR_102 := Aside0.mk ho; have Bg5_102 := Aside0.mk ((hg.block g5 (blk_lt Bg5_101.out) (fun h => HR_101.out.1 _ h.symm (.inl rfl))).trans Bg5_101.out); clear Bg5_101; have Bg7_102 := Aside0.mk ((hg.block g7 (blk_lt Bg7_101.out) (fun h => HR_101.out.1 _ h.symm (.inr (.inl rfl)))).trans Bg7_101.out); clear Bg7_101; have HB_102 := Aside0.mk hb; clear ho hb hg hat HB_101 HR_101))
  obtain ⟨A2, c2, hv2, hc2, hr2⟩ := Kd.R_reads HR_102.out
  subst hv2
  have hrd := reads_of hr2
  simp only [List.nil_append] at hrd hc2
  have hln : (l ++ [77]).length = l.length + 1 := by simp
  obtain ⟨i8, hi8, hz8⟩ := inf8
  have htk := print_take_int (k := .u8) (P := Try.prog) 25 5 Try.underlying25 hi8 hz8 A2 c2 (l ++ [77]) (l.length : Int) (by omega) (by rw [hln]; omega) hc2
  obtain ⟨ad2, rfl, hcell⟩ := hrd.at_ (l.length : Int) (by omega) (by rw [hln]; omega)
  have h77 : rd (l ++ [77]) (l.length : Int) = 77 := by unfold rd; simp
  rw [h77] at hcell
  have hs1 := htk.1
  have hrt := htk.2.1 _ hrd
  simp only [Int.toNat_natCast, List.take_left'] at hcell hs1 hrt
  obtain ⟨n1, hn1⟩ : ∃ n, (l ++ [77]).length = n := ⟨_, rfl⟩
  have hn2 : (([] : List Int) ++ l ++ [77]).length = n1 := by rw [← hn1]; simp
  rw [hn2]
  rw [hn1] at hs1
  have HN1 : Aside0 (n1 = l.length + 1) := ⟨by rw [← hn1, hln]⟩
  have HRT := Aside0.mk hrt
  have HCE := Aside0.mk hcell
  have HC2 : Aside0 (l.length + 1 ≤ c2) := ⟨by rw [← hln]; exact hc2⟩
  clear hrd hc2 hr2 hln htk hrt hcell h77 hi8 hz8 hn1 hn2 HR_102
  go_upto_region 7 with (first | ((with_reducible refine gate_dst (N := 23) rfl ?_); refine load_event rfl 24 _ rfl g5 rfl _ _ _ Bg5_102.out Try.underlying24 rfl (by kernel_rfl) ?_) | ((with_reducible refine gate_dst (N := 12) rfl ?_); refine box_event ?hg (N := 12) ?hd (cs := #[.int .u64 0, .int .u64 0]) (t := 30) ?hr ?_; (case hd => rfl); (case hg => rfl); (case hr => first | (go_simp; done) | (go_simp; rfl)); intro g12 hgg wx3 hbox hb; have Ng5g12 := Aside0.mk (show g5 ≠ g12 by rw [hgg]; exact Nat.ne_of_lt (blk_lt Bg5_102.out)); have Ng7g12 := Aside0.mk (show g7 ≠ g12 by rw [hgg]; exact Nat.ne_of_lt (blk_lt Bg7_102.out)); have Lg12 := Aside0.mk (show wz102.heap.size ≤ g12 by rw [hgg]; exact Nat.le_refl _); have HB_3 := Aside0.mk (hb); have Bg5_3 := Aside0.mk (blk_below Bg5_102.out hb); clear Bg5_102; have Bg7_3 := Aside0.mk (blk_below Bg7_102.out hb); clear Bg7_102; have Bg12_3 := Aside0.mk hbox; clear hbox hb hgg) | ((with_reducible refine gate_store (t := 30) (p := 12) rfl ?_); refine store_event rfl 30 _ _ rfl g12 _ rfl rfl _ _ Bg12_3.out (by kernel_rfl) rfl rfl ?_; intro wx4 hst hu; have HB_4 := Aside0.mk (below_upd HB_3.out hu (below_size HB_3.out) (fun k hk => by cases hk; exact Lg12.out)); clear HB_3; have Bg5_4 := Aside0.mk (Upd.blk hu Bg5_3.out (One.not Ng5g12.out)); clear Bg5_3; have Bg7_4 := Aside0.mk (Upd.blk hu Bg7_3.out (One.not Ng7g12.out)); clear Bg7_3; have Bg12_4 := Aside0.mk hst; clear hst hu Bg12_3))
  have HBX := Aside0.mk (below_step HB_102.out HB_4.out)
  obtain ⟨hv, hhv⟩ : ∃ h : Int, hsh sa sb l = h := ⟨_, rfl⟩
  obtain ⟨kv, hkv⟩ : ∃ h : Int, ck sa sb p sh sl dh dl sp dp wn = h := ⟨_, rfl⟩
  have HHV := Aside0.mk hhv
  have HKV := Aside0.mk hkv
  clear hhv hkv
  refine wp_region_rg (by kernel_rfl) (fun x y => Below x.heap.size x y) (fun (i : Nat) (v : Value) (w1 : World) => match i with | 0 => v = (.agg #[.int .u64 sa, .int .u64 sb]) | 1 => v = (.slice (some ad2) n1 c2) | 2 => v = (.slice A l.length c) | 3 => v = (.int .i64 l.length) | 4 => v = (.slice (some ad2) l.length c2) | 5 => v = (.int .u64 hv) | 6 => v = (.agg #[.int .u64 sa, .int .u64 sb]) | 7 => v = (.slice A l.length c) | 8 => v = (.int .u64 hv) | 9 => v = (.bool true) | 10 => v = (.bool true) | 11 => v = (.slice (some ad2) n1 c2) | 12 => v = (.slice A l.length c) | 13 => v = (.int .i64 l.length) | 14 => v = (.pointer (some (ad2.add l.length))) | 15 => v = (.int .u8 77) | 16 => v = (.bool true) | 17 => v = (.bool true) | 18 => v = (.bool true) | 19 => v = (.agg #[.int .u64 sa, .int .u64 sb]) | 20 => v = (.agg #[.int .i64 p, .int .u64 sh, .int .u64 sl, .int .u64 dh, .int .u64 dl, .int .i64 sp, .int .i64 dp]) | 21 => v = (.int .i64 wn) | 22 => v = (.int .u32 kv) | 23 => v = (.agg #[.int .u64 sa, .int .u64 sb]) | 24 => v = (.agg #[.int .i64 p, .int .u64 sh, .int .u64 sl, .int .u64 dh, .int .u64 dl, .int .i64 sp, .int .i64 dp]) | 25 => v = (.int .i64 wn) | 26 => v = (.int .u32 kv) | 27 => v = (.bool true) | 28 => v = (.bool true) | 29 => v = (.bool true) | 30 => v = (.int .i64 now) | 31 => v = (.int .i64 (now / 16)) | 32 => v = (.int .i64 now) | 33 => v = (.int .i64 (now / 16)) | 34 => v = (.bool true) | 35 => v = (.bool true) | 36 => v = (.bool true) | _ => True) (by kernel_rfl) (by kernel_rfl) below_tr (Below.refl _ _).drew ?hJst1 (obl_list ?hObl1) ?hEnd1
  case hJst1 =>
    intro i v wx wy hi hs0 hs1 hJi
    match i, hi with
    | 0, _ => exact hJi
    | 1, _ => exact hJi
    | 2, _ => exact hJi
    | 3, _ => exact hJi
    | 4, _ => exact hJi
    | 5, _ => exact hJi
    | 6, _ => exact hJi
    | 7, _ => exact hJi
    | 8, _ => exact hJi
    | 9, _ => exact hJi
    | 10, _ => exact hJi
    | 11, _ => exact hJi
    | 12, _ => exact hJi
    | 13, _ => exact hJi
    | 14, _ => exact hJi
    | 15, _ => exact hJi
    | 16, _ => exact hJi
    | 17, _ => exact hJi
    | 18, _ => exact hJi
    | 19, _ => exact hJi
    | 20, _ => exact hJi
    | 21, _ => exact hJi
    | 22, _ => exact hJi
    | 23, _ => exact hJi
    | 24, _ => exact hJi
    | 25, _ => exact hJi
    | 26, _ => exact hJi
    | 27, _ => exact hJi
    | 28, _ => exact hJi
    | 29, _ => exact hJi
    | 30, _ => exact hJi
    | 31, _ => exact hJi
    | 32, _ => exact hJi
    | 33, _ => exact hJi
    | 34, _ => exact hJi
    | 35, _ => exact hJi
    | 36, _ => exact hJi
    | _ + 37, hi => exact absurd hi (by simp)
  case hObl1 =>
    refine ⟨?_, ?_, ?_, ?_, ?_, ?_, ?_, ?_, ?_, ?_, ?_, ?_, ?_, ?_, ?_, ?_, ?_, ?_, ?_, ?_, ?_, ?_, ?_, ?_, ?_, ?_, ?_, ?_, ?_, ?_, ?_, ?_, ?_, ?_, ?_, ?_, ?_,  trivial⟩
    · intro listed vals a wq K hD hst hj haft hun hK
      have h5 := hD.out 5 rfl rfl
      replace hst : Below _ _ wq := hst
      clear hD hj haft hun
      have e5 := eval_of h5
      exact step_now (v := .agg #[.int .u64 sa, .int .u64 sb]) (w' := wq) (wanted_free rfl) (rg_loadall rfl e5 (blk_below Bg5_4.out hst) Try.underlying24 rfl (by kernel_rfl)) (hK _ _ (Below.refl _ _) rfl)
    · intro listed vals a wq K hD hst hj haft hun hK
      have h11 := hD.out 11 rfl rfl
      clear hD hj haft hun
      have e11 := eval_of h11
      refine step_now (v := .slice (some ad2) n1 c2) (w' := wq) (wanted_free rfl) ?_ (hK _ _ (Below.refl _ _) rfl)
      clear hK
      first | (go_simp; done) | (go_simp; rfl)
    · intro listed vals a wq K hD hst hj haft hun hK
      have h1 := hD.out 1 rfl rfl
      clear hD hj haft hun
      have e1 := eval_of h1
      refine step_now (v := .slice A l.length c) (w' := wq) (wanted_free rfl) ?_ (hK _ _ (Below.refl _ _) rfl)
      clear hK
      first | (go_simp; done) | (go_simp; rfl)
    · intro listed vals a wq K hD hst hj haft hun hK
      obtain ⟨v26, h26, j26⟩ := hD.dep hj haft 2 26 rfl rfl
      replace j26 : v26 = (.slice A l.length c) := j26
      subst j26
      clear hD hj haft hun
      have e26 := eval_of h26
      refine step_now (v := .int .i64 l.length) (w' := wq) (wanted_free rfl) ?_ (hK _ _ (Below.refl _ _) rfl)
      clear hK
      first | (go_simp; done) | (go_simp; rfl) | (go_simp; (try simp only [IntKind.wrap_u32]); omega)
    · intro listed vals a wq K hD hst hj haft hun hK
      obtain ⟨v25, h25, j25⟩ := hD.dep hj haft 1 25 rfl rfl
      replace j25 : v25 = (.slice (some ad2) n1 c2) := j25
      subst j25
      obtain ⟨v27, h27, j27⟩ := hD.dep hj haft 3 27 rfl rfl
      replace j27 : v27 = (.int .i64 l.length) := j27
      subst j27
      clear hD hj haft hun
      have e25 := eval_of h25
      have e27 := eval_of h27
      refine step_now (v := .slice (some ad2) l.length c2) (w' := wq) (wanted_free rfl) ?_ (hK _ _ (Below.refl _ _) rfl)
      clear hK
      first | (go_simp; done) | (go_simp; rfl)
    · intro listed vals a wq K hD hst hj haft hun hK
      obtain ⟨v24, h24, j24⟩ := hD.dep hj haft 0 24 rfl rfl
      replace j24 : v24 = (.agg #[.int .u64 sa, .int .u64 sb]) := j24
      subst j24
      obtain ⟨v28, h28, j28⟩ := hD.dep hj haft 4 28 rfl rfl
      replace j28 : v28 = (.slice (some ad2) l.length c2) := j28
      subst j28
      replace hst : Below _ _ wq := hst
      clear hD hj haft hun
      have e24 := eval_of h24
      have e28 := eval_of h28
      refine step_call (f := 11) (args := #[.agg #[.int .u64 sa, .int .u64 sb], .slice (some ad2) l.length c2]) (wanted_free rfl) ?_ (hash_w sa sb (some ad2) c2 l hv HHV.out wq (HRT.out.below (below_step HB_4.out hst)) (by have := HC2.out; omega) (by have := HS.out; omega)) ?_
      · clear hK; first | (go_simp; done) | (go_simp; rfl)
      · rintro e w' ⟨he, hbq⟩; exact ⟨_, he, hK _ _ hbq rfl⟩
    · intro listed vals a wq K hD hst hj haft hun hK
      have h12 := hD.out 12 rfl rfl
      replace hst : Below _ _ wq := hst
      clear hD hj haft hun
      have e12 := eval_of h12
      exact step_now (v := .agg #[.int .u64 sa, .int .u64 sb]) (w' := wq) (wanted_free rfl) (rg_loadall rfl e12 (blk_below Bg12_4.out hst) Try.underlying30 rfl (by kernel_rfl)) (hK _ _ (Below.refl _ _) rfl)
    · intro listed vals a wq K hD hst hj haft hun hK
      have h1 := hD.out 1 rfl rfl
      clear hD hj haft hun
      have e1 := eval_of h1
      refine step_now (v := .slice A l.length c) (w' := wq) (wanted_free rfl) ?_ (hK _ _ (Below.refl _ _) rfl)
      clear hK
      first | (go_simp; done) | (go_simp; rfl)
    · intro listed vals a wq K hD hst hj haft hun hK
      obtain ⟨v30, h30, j30⟩ := hD.dep hj haft 6 30 rfl rfl
      replace j30 : v30 = (.agg #[.int .u64 sa, .int .u64 sb]) := j30
      subst j30
      obtain ⟨v31, h31, j31⟩ := hD.dep hj haft 7 31 rfl rfl
      replace j31 : v31 = (.slice A l.length c) := j31
      subst j31
      replace hst : Below _ _ wq := hst
      clear hD hj haft hun
      have e30 := eval_of h30
      have e31 := eval_of h31
      refine step_call (f := 12) (args := #[.agg #[.int .u64 sa, .int .u64 sb], .slice A l.length c]) (wanted_free rfl) ?_ (rhash_w sa sb A c l hv HHV.out wq (HL.out.reads.below (below_step HBX.out hst)) HL.out.room (by have := HS.out; omega)) ?_
      · clear hK; first | (go_simp; done) | (go_simp; rfl)
      · rintro e w' ⟨he, hbq⟩; exact ⟨_, he, hK _ _ hbq rfl⟩
    · intro listed vals a wq K hD hst hj haft hun hK
      obtain ⟨v29, h29, j29⟩ := hD.dep hj haft 5 29 rfl rfl
      replace j29 : v29 = (.int .u64 hv) := j29
      subst j29
      obtain ⟨v32, h32, j32⟩ := hD.dep hj haft 8 32 rfl rfl
      replace j32 : v32 = (.int .u64 hv) := j32
      subst j32
      clear hD hj haft hun
      have e29 := eval_of h29
      have e32 := eval_of h32
      refine step_now (v := .bool true) (w' := wq) (wanted_free rfl) ?_ (hK _ _ (Below.refl _ _) rfl)
      clear hK
      first | (go_simp; done) | (go_simp; rfl)
    · intro listed vals a wq K hD hst hj haft hun hK
      obtain ⟨v33, h33, j33⟩ := hD.dep hj haft 9 33 rfl rfl
      replace j33 : v33 = (.bool true) := j33
      subst j33
      clear hD hj haft hun
      have e33 := eval_of h33
      refine step_now (v := .bool true) (w' := wq) (wanted_free rfl) ?_ (hK _ _ (Below.refl _ _) rfl)
      clear hK
      first | (go_simp; done) | (go_simp; rfl)
    · intro listed vals a wq K hD hst hj haft hun hK
      obtain ⟨v34, h34, j34⟩ := hD.dep hj haft 10 34 rfl rfl
      replace j34 : v34 = (.bool true) := j34
      subst j34
      have h11 := hD.out 11 rfl rfl
      clear hD hj haft hun
      have e11 := eval_of h11
      refine step_now (v := .slice (some ad2) n1 c2) (w' := wq) (wanted_on (t := 34) (u := true) rfl rfl rfl h34) ?_ (hK _ _ (Below.refl _ _) rfl)
      clear hK
      first | (go_simp; done) | (go_simp; rfl)
    · intro listed vals a wq K hD hst hj haft hun hK
      obtain ⟨v34, h34, j34⟩ := hD.dep hj haft 10 34 rfl rfl
      replace j34 : v34 = (.bool true) := j34
      subst j34
      have h1 := hD.out 1 rfl rfl
      clear hD hj haft hun
      have e1 := eval_of h1
      refine step_now (v := .slice A l.length c) (w' := wq) (wanted_on (t := 34) (u := true) rfl rfl rfl h34) ?_ (hK _ _ (Below.refl _ _) rfl)
      clear hK
      first | (go_simp; done) | (go_simp; rfl)
    · intro listed vals a wq K hD hst hj haft hun hK
      obtain ⟨v36, h36, j36⟩ := hD.dep hj haft 12 36 rfl rfl
      replace j36 : v36 = (.slice A l.length c) := j36
      subst j36
      obtain ⟨v34, h34, j34⟩ := hD.dep hj haft 10 34 rfl rfl
      replace j34 : v34 = (.bool true) := j34
      subst j34
      clear hD hj haft hun
      have e36 := eval_of h36
      refine step_now (v := .int .i64 l.length) (w' := wq) (wanted_on (t := 34) (u := true) rfl rfl rfl h34) ?_ (hK _ _ (Below.refl _ _) rfl)
      clear hK
      first | (go_simp; done) | (go_simp; rfl) | (go_simp; (try simp only [IntKind.wrap_u32]); omega)
    · intro listed vals a wq K hD hst hj haft hun hK
      obtain ⟨v35, h35, j35⟩ := hD.dep hj haft 11 35 rfl rfl
      replace j35 : v35 = (.slice (some ad2) n1 c2) := j35
      subst j35
      obtain ⟨v37, h37, j37⟩ := hD.dep hj haft 13 37 rfl rfl
      replace j37 : v37 = (.int .i64 l.length) := j37
      subst j37
      obtain ⟨v34, h34, j34⟩ := hD.dep hj haft 10 34 rfl rfl
      replace j34 : v34 = (.bool true) := j34
      subst j34
      clear hD hj haft hun
      have e35 := eval_of h35
      have e37 := eval_of h37
      exact step_now (w' := wq) (wanted_on (t := 34) (u := true) rfl rfl rfl h34) (rg_index rfl e35 e37 (by have := HN1.out; omega)) (hK _ _ (Below.refl _ _) rfl)
    · intro listed vals a wq K hD hst hj haft hun hK
      obtain ⟨v38, h38, j38⟩ := hD.dep hj haft 14 38 rfl rfl
      replace j38 : v38 = (.pointer (some (ad2.add l.length))) := j38
      subst j38
      obtain ⟨v34, h34, j34⟩ := hD.dep hj haft 10 34 rfl rfl
      replace j34 : v34 = (.bool true) := j34
      subst j34
      replace hst : Below _ _ wq := hst
      clear hD hj haft hun
      have e38 := eval_of h38
      exact step_now (w' := wq) (wanted_on (t := 34) (u := true) rfl rfl rfl h34) (rg_loadcell rfl e38 (pw_cell_below (below_step HB_4.out hst) HCE.out) (by exact rfl) Try.underlying5) (hK _ _ (Below.refl _ _) rfl)
    · intro listed vals a wq K hD hst hj haft hun hK
      obtain ⟨v39, h39, j39⟩ := hD.dep hj haft 15 39 rfl rfl
      replace j39 : v39 = (.int .u8 77) := j39
      subst j39
      obtain ⟨v34, h34, j34⟩ := hD.dep hj haft 10 34 rfl rfl
      replace j34 : v34 = (.bool true) := j34
      subst j34
      clear hD hj haft hun
      have e39 := eval_of h39
      refine step_now (v := .bool true) (w' := wq) (wanted_on (t := 34) (u := true) rfl rfl rfl h34) ?_ (hK _ _ (Below.refl _ _) rfl)
      clear hK
      first | (go_simp; done) | (go_simp; rfl)
    · intro listed vals a wq K hD hst hj haft hun hK
      obtain ⟨v34, h34, j34⟩ := hD.dep hj haft 10 34 rfl rfl
      replace j34 : v34 = (.bool true) := j34
      subst j34
      obtain ⟨v40, h40, j40⟩ := hD.dep hj haft 16 40 rfl rfl
      replace j40 : v40 = (.bool true) := j40
      subst j40
      clear hD hj haft hun
      have e34 := eval_of h34
      have e40 := eval_of h40
      refine step_now (v := .bool true) (w' := wq) (wanted_free rfl) ?_ (hK _ _ (Below.refl _ _) rfl)
      clear hK
      first | (go_simp; done) | (go_simp; rfl)
    · intro listed vals a wq K hD hst hj haft hun hK
      obtain ⟨v41, h41, j41⟩ := hD.dep hj haft 17 41 rfl rfl
      replace j41 : v41 = (.bool true) := j41
      subst j41
      clear hD hj haft hun
      have e41 := eval_of h41
      refine step_now (v := .bool true) (w' := wq) (wanted_free rfl) ?_ (hK _ _ (Below.refl _ _) rfl)
      clear hK
      first | (go_simp; done) | (go_simp; rfl)
    · intro listed vals a wq K hD hst hj haft hun hK
      obtain ⟨v42, h42, j42⟩ := hD.dep hj haft 18 42 rfl rfl
      replace j42 : v42 = (.bool true) := j42
      subst j42
      have h5 := hD.out 5 rfl rfl
      replace hst : Below _ _ wq := hst
      clear hD hj haft hun
      have e5 := eval_of h5
      exact step_now (v := .agg #[.int .u64 sa, .int .u64 sb]) (w' := wq) (wanted_on (t := 42) (u := true) rfl rfl rfl h42) (rg_loadall rfl e5 (blk_below Bg5_4.out hst) Try.underlying24 rfl (by kernel_rfl)) (hK _ _ (Below.refl _ _) rfl)
    · intro listed vals a wq K hD hst hj haft hun hK
      obtain ⟨v42, h42, j42⟩ := hD.dep hj haft 18 42 rfl rfl
      replace j42 : v42 = (.bool true) := j42
      subst j42
      have h7 := hD.out 7 rfl rfl
      replace hst : Below _ _ wq := hst
      clear hD hj haft hun
      have e7 := eval_of h7
      exact step_now (v := .agg #[.int .i64 p, .int .u64 sh, .int .u64 sl, .int .u64 dh, .int .u64 dl, .int .i64 sp, .int .i64 dp]) (w' := wq) (wanted_on (t := 42) (u := true) rfl rfl rfl h42) (rg_loadall rfl e7 (blk_below Bg7_4.out hst) Try.underlying29 rfl (by kernel_rfl)) (hK _ _ (Below.refl _ _) rfl)
    · intro listed vals a wq K hD hst hj haft hun hK
      obtain ⟨v42, h42, j42⟩ := hD.dep hj haft 18 42 rfl rfl
      replace j42 : v42 = (.bool true) := j42
      subst j42
      have h3 := hD.out 3 rfl rfl
      clear hD hj haft hun
      have e3 := eval_of h3
      refine step_now (v := .int .i64 wn) (w' := wq) (wanted_on (t := 42) (u := true) rfl rfl rfl h42) ?_ (hK _ _ (Below.refl _ _) rfl)
      clear hK
      first | (go_simp; done) | (go_simp; rfl) | (go_simp; (try simp only [IntKind.wrap_u32]); omega)
    · intro listed vals a wq K hD hst hj haft hun hK
      obtain ⟨v43, h43, j43⟩ := hD.dep hj haft 19 43 rfl rfl
      replace j43 : v43 = (.agg #[.int .u64 sa, .int .u64 sb]) := j43
      subst j43
      obtain ⟨v44, h44, j44⟩ := hD.dep hj haft 20 44 rfl rfl
      replace j44 : v44 = (.agg #[.int .i64 p, .int .u64 sh, .int .u64 sl, .int .u64 dh, .int .u64 dl, .int .i64 sp, .int .i64 dp]) := j44
      subst j44
      obtain ⟨v45, h45, j45⟩ := hD.dep hj haft 21 45 rfl rfl
      replace j45 : v45 = (.int .i64 wn) := j45
      subst j45
      obtain ⟨v42, h42, j42⟩ := hD.dep hj haft 18 42 rfl rfl
      replace j42 : v42 = (.bool true) := j42
      subst j42
      clear hD hj haft hun
      have e43 := eval_of h43
      have e44 := eval_of h44
      have e45 := eval_of h45
      refine step_call (f := 13) (args := #[.agg #[.int .u64 sa, .int .u64 sb], .agg #[.int .i64 p, .int .u64 sh, .int .u64 sl, .int .u64 dh, .int .u64 dl, .int .i64 sp, .int .i64 dp], .int .i64 wn]) (wanted_on (t := 42) (u := true) rfl rfl rfl h42) ?_ (cookie_w sa sb p sh sl dh dl sp dp wn kv HKV.out wq) ?_
      · clear hK; first | (go_simp; done) | (go_simp; rfl)
      · rintro e w' ⟨he, hbq⟩; exact ⟨_, he, hK _ _ hbq rfl⟩
    · intro listed vals a wq K hD hst hj haft hun hK
      obtain ⟨v42, h42, j42⟩ := hD.dep hj haft 18 42 rfl rfl
      replace j42 : v42 = (.bool true) := j42
      subst j42
      have h12 := hD.out 12 rfl rfl
      replace hst : Below _ _ wq := hst
      clear hD hj haft hun
      have e12 := eval_of h12
      exact step_now (v := .agg #[.int .u64 sa, .int .u64 sb]) (w' := wq) (wanted_on (t := 42) (u := true) rfl rfl rfl h42) (rg_loadall rfl e12 (blk_below Bg12_4.out hst) Try.underlying30 rfl (by kernel_rfl)) (hK _ _ (Below.refl _ _) rfl)
    · intro listed vals a wq K hD hst hj haft hun hK
      obtain ⟨v42, h42, j42⟩ := hD.dep hj haft 18 42 rfl rfl
      replace j42 : v42 = (.bool true) := j42
      subst j42
      have h7 := hD.out 7 rfl rfl
      replace hst : Below _ _ wq := hst
      clear hD hj haft hun
      have e7 := eval_of h7
      exact step_now (v := .agg #[.int .i64 p, .int .u64 sh, .int .u64 sl, .int .u64 dh, .int .u64 dl, .int .i64 sp, .int .i64 dp]) (w' := wq) (wanted_on (t := 42) (u := true) rfl rfl rfl h42) (rg_loadall rfl e7 (blk_below Bg7_4.out hst) Try.underlying29 rfl (by kernel_rfl)) (hK _ _ (Below.refl _ _) rfl)
    · intro listed vals a wq K hD hst hj haft hun hK
      obtain ⟨v42, h42, j42⟩ := hD.dep hj haft 18 42 rfl rfl
      replace j42 : v42 = (.bool true) := j42
      subst j42
      have h3 := hD.out 3 rfl rfl
      clear hD hj haft hun
      have e3 := eval_of h3
      refine step_now (v := .int .i64 wn) (w' := wq) (wanted_on (t := 42) (u := true) rfl rfl rfl h42) ?_ (hK _ _ (Below.refl _ _) rfl)
      clear hK
      first | (go_simp; done) | (go_simp; rfl) | (go_simp; (try simp only [IntKind.wrap_u32]); omega)
    · intro listed vals a wq K hD hst hj haft hun hK
      obtain ⟨v47, h47, j47⟩ := hD.dep hj haft 23 47 rfl rfl
      replace j47 : v47 = (.agg #[.int .u64 sa, .int .u64 sb]) := j47
      subst j47
      obtain ⟨v48, h48, j48⟩ := hD.dep hj haft 24 48 rfl rfl
      replace j48 : v48 = (.agg #[.int .i64 p, .int .u64 sh, .int .u64 sl, .int .u64 dh, .int .u64 dl, .int .i64 sp, .int .i64 dp]) := j48
      subst j48
      obtain ⟨v49, h49, j49⟩ := hD.dep hj haft 25 49 rfl rfl
      replace j49 : v49 = (.int .i64 wn) := j49
      subst j49
      obtain ⟨v42, h42, j42⟩ := hD.dep hj haft 18 42 rfl rfl
      replace j42 : v42 = (.bool true) := j42
      subst j42
      clear hD hj haft hun
      have e47 := eval_of h47
      have e48 := eval_of h48
      have e49 := eval_of h49
      refine step_call (f := 14) (args := #[.agg #[.int .u64 sa, .int .u64 sb], .agg #[.int .i64 p, .int .u64 sh, .int .u64 sl, .int .u64 dh, .int .u64 dl, .int .i64 sp, .int .i64 dp], .int .i64 wn]) (wanted_on (t := 42) (u := true) rfl rfl rfl h42) ?_ (rcookie_w sa sb p sh sl dh dl sp dp wn kv HKV.out wq) ?_
      · clear hK; first | (go_simp; done) | (go_simp; rfl)
      · rintro e w' ⟨he, hbq⟩; exact ⟨_, he, hK _ _ hbq rfl⟩
    · intro listed vals a wq K hD hst hj haft hun hK
      obtain ⟨v46, h46, j46⟩ := hD.dep hj haft 22 46 rfl rfl
      replace j46 : v46 = (.int .u32 kv) := j46
      subst j46
      obtain ⟨v50, h50, j50⟩ := hD.dep hj haft 26 50 rfl rfl
      replace j50 : v50 = (.int .u32 kv) := j50
      subst j50
      obtain ⟨v42, h42, j42⟩ := hD.dep hj haft 18 42 rfl rfl
      replace j42 : v42 = (.bool true) := j42
      subst j42
      clear hD hj haft hun
      have e46 := eval_of h46
      have e50 := eval_of h50
      refine step_now (v := .bool true) (w' := wq) (wanted_on (t := 42) (u := true) rfl rfl rfl h42) ?_ (hK _ _ (Below.refl _ _) rfl)
      clear hK
      first | (go_simp; done) | (go_simp; rfl)
    · intro listed vals a wq K hD hst hj haft hun hK
      obtain ⟨v42, h42, j42⟩ := hD.dep hj haft 18 42 rfl rfl
      replace j42 : v42 = (.bool true) := j42
      subst j42
      obtain ⟨v51, h51, j51⟩ := hD.dep hj haft 27 51 rfl rfl
      replace j51 : v51 = (.bool true) := j51
      subst j51
      clear hD hj haft hun
      have e42 := eval_of h42
      have e51 := eval_of h51
      refine step_now (v := .bool true) (w' := wq) (wanted_free rfl) ?_ (hK _ _ (Below.refl _ _) rfl)
      clear hK
      first | (go_simp; done) | (go_simp; rfl)
    · intro listed vals a wq K hD hst hj haft hun hK
      obtain ⟨v52, h52, j52⟩ := hD.dep hj haft 28 52 rfl rfl
      replace j52 : v52 = (.bool true) := j52
      subst j52
      clear hD hj haft hun
      have e52 := eval_of h52
      refine step_now (v := .bool true) (w' := wq) (wanted_free rfl) ?_ (hK _ _ (Below.refl _ _) rfl)
      clear hK
      first | (go_simp; done) | (go_simp; rfl)
    · intro listed vals a wq K hD hst hj haft hun hK
      obtain ⟨v53, h53, j53⟩ := hD.dep hj haft 29 53 rfl rfl
      replace j53 : v53 = (.bool true) := j53
      subst j53
      have h4 := hD.out 4 rfl rfl
      clear hD hj haft hun
      have e4 := eval_of h4
      refine step_now (v := .int .i64 now) (w' := wq) (wanted_on (t := 53) (u := true) rfl rfl rfl h53) ?_ (hK _ _ (Below.refl _ _) rfl)
      clear hK
      first | (go_simp; done) | (go_simp; rfl) | (go_simp; (try simp only [IntKind.wrap_u32]); omega)
    · intro listed vals a wq K hD hst hj haft hun hK
      obtain ⟨v54, h54, j54⟩ := hD.dep hj haft 30 54 rfl rfl
      replace j54 : v54 = (.int .i64 now) := j54
      subst j54
      obtain ⟨v53, h53, j53⟩ := hD.dep hj haft 29 53 rfl rfl
      replace j53 : v53 = (.bool true) := j53
      subst j53
      clear hD hj haft hun
      have e54 := eval_of h54
      refine step_call (f := 15) (args := #[.int .i64 now]) (wanted_on (t := 53) (u := true) rfl rfl rfl h53) ?_ (window_any now wq) ?_
      · clear hK; first | (go_simp; done) | (go_simp; rfl)
      · rintro e w' ⟨he, hbq⟩; exact ⟨_, he, hK _ _ hbq rfl⟩
    · intro listed vals a wq K hD hst hj haft hun hK
      obtain ⟨v53, h53, j53⟩ := hD.dep hj haft 29 53 rfl rfl
      replace j53 : v53 = (.bool true) := j53
      subst j53
      have h4 := hD.out 4 rfl rfl
      clear hD hj haft hun
      have e4 := eval_of h4
      refine step_now (v := .int .i64 now) (w' := wq) (wanted_on (t := 53) (u := true) rfl rfl rfl h53) ?_ (hK _ _ (Below.refl _ _) rfl)
      clear hK
      first | (go_simp; done) | (go_simp; rfl) | (go_simp; (try simp only [IntKind.wrap_u32]); omega)
    · intro listed vals a wq K hD hst hj haft hun hK
      obtain ⟨v56, h56, j56⟩ := hD.dep hj haft 32 56 rfl rfl
      replace j56 : v56 = (.int .i64 now) := j56
      subst j56
      obtain ⟨v53, h53, j53⟩ := hD.dep hj haft 29 53 rfl rfl
      replace j53 : v53 = (.bool true) := j53
      subst j53
      clear hD hj haft hun
      have e56 := eval_of h56
      refine step_call (f := 16) (args := #[.int .i64 now]) (wanted_on (t := 53) (u := true) rfl rfl rfl h53) ?_ (rwindow_any now wq) ?_
      · clear hK; first | (go_simp; done) | (go_simp; rfl)
      · rintro e w' ⟨he, hbq⟩; exact ⟨_, he, hK _ _ hbq rfl⟩
    · intro listed vals a wq K hD hst hj haft hun hK
      obtain ⟨v55, h55, j55⟩ := hD.dep hj haft 31 55 rfl rfl
      replace j55 : v55 = (.int .i64 (now / 16)) := j55
      subst j55
      obtain ⟨v57, h57, j57⟩ := hD.dep hj haft 33 57 rfl rfl
      replace j57 : v57 = (.int .i64 (now / 16)) := j57
      subst j57
      obtain ⟨v53, h53, j53⟩ := hD.dep hj haft 29 53 rfl rfl
      replace j53 : v53 = (.bool true) := j53
      subst j53
      clear hD hj haft hun
      have e55 := eval_of h55
      have e57 := eval_of h57
      refine step_now (v := .bool true) (w' := wq) (wanted_on (t := 53) (u := true) rfl rfl rfl h53) ?_ (hK _ _ (Below.refl _ _) rfl)
      clear hK
      first | (go_simp; done) | (go_simp; rfl)
    · intro listed vals a wq K hD hst hj haft hun hK
      obtain ⟨v53, h53, j53⟩ := hD.dep hj haft 29 53 rfl rfl
      replace j53 : v53 = (.bool true) := j53
      subst j53
      obtain ⟨v58, h58, j58⟩ := hD.dep hj haft 34 58 rfl rfl
      replace j58 : v58 = (.bool true) := j58
      subst j58
      clear hD hj haft hun
      have e53 := eval_of h53
      have e58 := eval_of h58
      refine step_now (v := .bool true) (w' := wq) (wanted_free rfl) ?_ (hK _ _ (Below.refl _ _) rfl)
      clear hK
      first | (go_simp; done) | (go_simp; rfl)
    · intro listed vals a wq K hD hst hj haft hun hK
      obtain ⟨v59, h59, j59⟩ := hD.dep hj haft 35 59 rfl rfl
      replace j59 : v59 = (.bool true) := j59
      subst j59
      clear hD hj haft hun
      have e59 := eval_of h59
      refine step_now (v := .bool true) (w' := wq) (wanted_free rfl) ?_ (hK _ _ (Below.refl _ _) rfl)
      clear hK
      first | (go_simp; done) | (go_simp; rfl)
  intro vals wend hst hj
  have j0 : vals 0 = (.agg #[.int .u64 sa, .int .u64 sb]) := hj 0 (by decide)
  have j1 : vals 1 = (.slice (some ad2) n1 c2) := hj 1 (by decide)
  have j2 : vals 2 = (.slice A l.length c) := hj 2 (by decide)
  have j3 : vals 3 = (.int .i64 l.length) := hj 3 (by decide)
  have j4 : vals 4 = (.slice (some ad2) l.length c2) := hj 4 (by decide)
  have j5 : vals 5 = (.int .u64 hv) := hj 5 (by decide)
  have j6 : vals 6 = (.agg #[.int .u64 sa, .int .u64 sb]) := hj 6 (by decide)
  have j7 : vals 7 = (.slice A l.length c) := hj 7 (by decide)
  have j8 : vals 8 = (.int .u64 hv) := hj 8 (by decide)
  have j9 : vals 9 = (.bool true) := hj 9 (by decide)
  have j10 : vals 10 = (.bool true) := hj 10 (by decide)
  have j11 : vals 11 = (.slice (some ad2) n1 c2) := hj 11 (by decide)
  have j12 : vals 12 = (.slice A l.length c) := hj 12 (by decide)
  have j13 : vals 13 = (.int .i64 l.length) := hj 13 (by decide)
  have j14 : vals 14 = (.pointer (some (ad2.add l.length))) := hj 14 (by decide)
  have j15 : vals 15 = (.int .u8 77) := hj 15 (by decide)
  have j16 : vals 16 = (.bool true) := hj 16 (by decide)
  have j17 : vals 17 = (.bool true) := hj 17 (by decide)
  have j18 : vals 18 = (.bool true) := hj 18 (by decide)
  have j19 : vals 19 = (.agg #[.int .u64 sa, .int .u64 sb]) := hj 19 (by decide)
  have j20 : vals 20 = (.agg #[.int .i64 p, .int .u64 sh, .int .u64 sl, .int .u64 dh, .int .u64 dl, .int .i64 sp, .int .i64 dp]) := hj 20 (by decide)
  have j21 : vals 21 = (.int .i64 wn) := hj 21 (by decide)
  have j22 : vals 22 = (.int .u32 kv) := hj 22 (by decide)
  have j23 : vals 23 = (.agg #[.int .u64 sa, .int .u64 sb]) := hj 23 (by decide)
  have j24 : vals 24 = (.agg #[.int .i64 p, .int .u64 sh, .int .u64 sl, .int .u64 dh, .int .u64 dl, .int .i64 sp, .int .i64 dp]) := hj 24 (by decide)
  have j25 : vals 25 = (.int .i64 wn) := hj 25 (by decide)
  have j26 : vals 26 = (.int .u32 kv) := hj 26 (by decide)
  have j27 : vals 27 = (.bool true) := hj 27 (by decide)
  have j28 : vals 28 = (.bool true) := hj 28 (by decide)
  have j29 : vals 29 = (.bool true) := hj 29 (by decide)
  have j30 : vals 30 = (.int .i64 now) := hj 30 (by decide)
  have j31 : vals 31 = (.int .i64 (now / 16)) := hj 31 (by decide)
  have j32 : vals 32 = (.int .i64 now) := hj 32 (by decide)
  have j33 : vals 33 = (.int .i64 (now / 16)) := hj 33 (by decide)
  have j34 : vals 34 = (.bool true) := hj 34 (by decide)
  have j35 : vals 35 = (.bool true) := hj 35 (by decide)
  have j36 : vals 36 = (.bool true) := hj 36 (by decide)
  replace hst : Below _ _ wend := hst
  clear hj
  rw [putAll_list]
  simp only [putL, Act.put, List.setIfInBounds_toArray, List.set_cons_zero, List.set_cons_succ, j0, j1, j2, j3, j4, j5, j6, j7, j8, j9, j10, j11, j12, j13, j14, j15, j16, j17, j18, j19, j20, j21, j22, j23, j24, j25, j26, j27, j28, j29, j30, j31, j32, j33, j34, j35, j36]
  clear j0 j1 j2 j3 j4 j5 j6 j7 j8 j9 j10 j11 j12 j13 j14 j15 j16 j17 j18 j19 j20 j21 j22 j23 j24 j25 j26 j27 j28 j29 j30 j31 j32 j33 j34 j35 j36
  have HBF := Aside0.mk (below_step HBX.out hst)
  clear hst
  go_wp2
  go_ret
  exact ⟨rfl, HBF.out⟩
theorem walk_row (sa sb : Int) (A : Option Addr) (c : Nat) (l : List Int) (p sh sl dh dl sp dp wn now : Int) (w : World) (_ : True) (hl : IntsIn .u8 1 w A c l) (_ : True) (_ : (Lit.int .i64 wn).wf = true) (_ : (Lit.int .i64 now).wf = true) :
    Calls Try.prog 3 #[.agg #[.int .u64 sa, .int .u64 sb], .slice A l.length c, .agg #[.int .i64 p, .int .u64 sh, .int .u64 sl, .int .u64 dh, .int .u64 dl, .int .i64 sp, .int .i64 dp], .int .i64 wn, .int .i64 now] w fun e w' => e = .returned (.bool true) ∧ Below w.heap.size w w' := walk sa sb A c l p sh sl dh dl sp dp wn now w hl
end Go.Proofs.Ytainkpgplmkiaaa.CookieHashWalk
