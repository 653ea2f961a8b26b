/- A region that draws its order, by what each operation yields: if each operation, once those that it waits for are done, yields what is said of it, and no operation undoes what is said of another, then behind the region all of it holds, whatever the order. No condition. -/
import Derived.Orders
import Derived.Tactics
import Derived.Below
import Derived.Deep.Draws
import Derived.Test.YtainkpgplmkiaaaWWords
import Derived.Test.YtainkpgplmkiaaaWInvWords
namespace Go.Proofs.Ytainkpgplmkiaaa.Rg
open Go Go.RowKit Go.Proofs.YtainkpgplmkiaaaW.PrintWords

section
variable {P : Program} {ops : Array Oper} {Q : Exit → Act → World → Prop}

def dstOf (ops : Array Oper) (i : Nat) : Option Tmp := (ops[i]?).bind (·.dst)
/-- Each operation that names a slot names one of its own, within the frame. -/
def apartB (ops : Array Oper) (n : Nat) : Bool :=
  (List.range ops.size).all fun i => match dstOf ops i with
    | none => true
    | some d => decide (d < n) && (List.range ops.size).all fun j => j == i || dstOf ops j != some d
theorem apart_lt {n i d : Nat} (h : apartB ops n = true) (hd : dstOf ops i = some d) : d < n := by
  have hi : i < ops.size := by
    rcases Nat.lt_or_ge i ops.size with h1 | h1
    · exact h1
    · simp [dstOf, Array.getElem?_eq_none h1] at hd
  have := List.all_eq_true.1 h i (List.mem_range.2 hi)
  rw [hd] at this
  simp only [Bool.and_eq_true, decide_eq_true_eq] at this
  exact this.1
theorem apart_ne {n i j d : Nat} (h : apartB ops n = true) (hd : dstOf ops i = some d) (hj : dstOf ops j = some d) : j = i := by
  have hi : i < ops.size := by
    rcases Nat.lt_or_ge i ops.size with h1 | h1
    · exact h1
    · simp [dstOf, Array.getElem?_eq_none h1] at hd
  have hjs : j < ops.size := by
    rcases Nat.lt_or_ge j ops.size with h1 | h1
    · exact h1
    · simp [dstOf, Array.getElem?_eq_none h1] at hj
  have := List.all_eq_true.1 h i (List.mem_range.2 hi)
  rw [hd] at this
  simp only [Bool.and_eq_true] at this
  have := List.all_eq_true.1 this.2 j (List.mem_range.2 hjs)
  simp only [Bool.or_eq_true, beq_iff_eq, bne_iff_ne, ne_eq] at this
  rcases this with h1 | h1
  · exact h1
  · exact absurd hj h1

/-- What is known of the frame once the operations 'listed' are done: each one's slot holds its value; all other slots hold what they held. -/
structure Done (ops : Array Oper) (a0 : Act) (listed : Array Bool) (vals : Nat → Value) (a : Act) : Prop where
  defers : a.defers = a0.defers
  size : a.tmps.size = a0.tmps.size
  got : ∀ i d, listed.getD i false = true → dstOf ops i = some d → a.tmps[d]? = some (vals i)
  rest : ∀ s, (∀ i, listed.getD i false = true → dstOf ops i ≠ some s) → a.tmps[s]? = a0.tmps[s]?

/-- One step: behind it the operation's slot holds v, and St and J are told. -/
def StepTo (P : Program) (Q : Exit → Act → World → Prop) (ops : Array Oper) (o : Oper) (a : Act) (w : World) (K : Act → World → Prop) : Prop :=
  if Region.wanted o (yielded ops a.tmps) = true then Oper.wp P o a w K Q else K (a.put o.dst undef) w

/-- What is said of one operation, kept closed. -/
def JAt (J : Nat → Value → World → Prop) (j : Nat) (v : Value) (w : World) : Prop := J j v w
/-- The obligation of one operation. -/
def Obl (P : Program) (Q : Exit → Act → World → Prop) (ops : Array Oper) (a0 : Act) (St : World → World → Prop) (J : Nat → Value → World → Prop) (w0 : World) (i : Nat) (o : Oper) : Prop :=
  ∀ (listed : Array Bool) (vals : Nat → Value) (a : Act) (w : World) (K : Act → World → Prop), Done ops a0 listed vals a → St w0 w → (∀ j, listed.getD j false = true → JAt J j (vals j) w) →
    (∀ e ∈ o.after, Region.binds .any e = true → listed.getD e.on false = true) → listed.getD i true = false →
    (∀ v w', St w w' → J i v w' → K (a.put o.dst v) w') → StepTo P Q ops o a w K

def putAll (ops : Array Oper) (vals : Nat → Value) (a : Act) : Act := (List.range ops.size).foldl (fun a i => a.put (dstOf ops i) (vals i)) a

theorem foldl_put (ops : Array Oper) (vals : Nat → Value) {n : Nat} (h : apartB ops n = true) : ∀ (k : Nat) (a : Act), a.tmps.size = n →
    ((List.range k).foldl (fun a i => a.put (dstOf ops i) (vals i)) a).tmps.size = n ∧ ((List.range k).foldl (fun a i => a.put (dstOf ops i) (vals i)) a).defers = a.defers ∧
    (∀ i d, i < k → dstOf ops i = some d → ((List.range k).foldl (fun a i => a.put (dstOf ops i) (vals i)) a).tmps[d]? = some (vals i)) ∧
    (∀ s, (∀ i, i < k → dstOf ops i ≠ some s) → ((List.range k).foldl (fun a i => a.put (dstOf ops i) (vals i)) a).tmps[s]? = a.tmps[s]?) := by
  intro k
  induction k with
  | zero => intro a ha; exact ⟨ha, rfl, fun i d hi => by omega, fun s _ => rfl⟩
  | succ k ih =>
    intro a ha
    obtain ⟨h1, h2, h3, h4⟩ := ih a ha
    rw [List.range_succ, List.foldl_append, List.foldl_cons, List.foldl_nil]
    generalize (List.range k).foldl (fun a i => a.put (dstOf ops i) (vals i)) a = b at *
    cases hk : dstOf ops k with
    | none =>
      refine ⟨h1, h2, fun i d hi hd => ?_, fun s hs => h4 s (fun i hi => hs i (by omega))⟩
      rcases Nat.lt_or_eq_of_le (Nat.lt_succ_iff.1 hi) with hlt | rfl
      · exact h3 i d hlt hd
      · rw [hk] at hd; cases hd
    | some d0 =>
      refine ⟨by simpa [Act.put] using h1, h2, fun i d hi hd => ?_, fun s hs => ?_⟩
      · show (b.tmps.setIfInBounds d0 (vals k))[d]? = _
        rw [Array.getElem?_setIfInBounds]
        by_cases e : d0 = d
        · subst e
          obtain rfl : i = k := (apart_ne h hd hk).symm
          rw [if_pos rfl, if_pos (by rw [h1]; exact apart_lt h hk)]
        · rw [if_neg e]
          rcases Nat.lt_or_eq_of_le (Nat.lt_succ_iff.1 hi) with hlt | rfl
          · exact h3 i d hlt hd
          · rw [hk] at hd; cases hd; exact absurd rfl e
      · show (b.tmps.setIfInBounds d0 (vals k))[s]? = _
        rw [Array.getElem?_setIfInBounds, if_neg (fun e => hs k (by omega) (by rw [hk, e]))]
        exact h4 s (fun i hi => hs i (by omega))

theorem act_ext {a b : Act} (h1 : a.tmps = b.tmps) (h2 : a.defers = b.defers) : a = b := by
  cases a; cases b; simp at h1 h2; subst h1 h2; rfl

theorem done_all {a0 a : Act} {listed : Array Bool} {vals : Nat → Value} (hap : apartB ops a0.tmps.size = true) (hl : ∀ i, i < ops.size → listed.getD i false = true) (h : Done ops a0 listed vals a) : a = putAll ops vals a0 := by
  obtain ⟨h1, h2, h3, h4⟩ := foldl_put ops vals hap ops.size a0 rfl
  refine act_ext (Array.ext_getElem? fun s => ?_) (h.defers.trans h2.symm)
  by_cases hs : ∃ i, i < ops.size ∧ dstOf ops i = some s
  · obtain ⟨i, hi, hd⟩ := hs
    exact (h.got i s (hl i hi) hd).trans (h3 i s hi hd).symm
  · have hn : ∀ i, dstOf ops i ≠ some s := fun i hd => hs ⟨i, by
      rcases Nat.lt_or_ge i ops.size with h1 | h1
      · exact h1
      · simp [dstOf, Array.getElem?_eq_none h1] at hd, hd⟩
    exact (h.rest s (fun i _ => hn i)).trans (h4 s (fun i _ => hn i)).symm

theorem done_step {a0 a : Act} {listed : Array Bool} {vals : Nat → Value} (hap : apartB ops a0.tmps.size = true) {i : Nat} {o : Oper} (ho : ops[i]? = some o) (h : Done ops a0 listed vals a) (hi : listed.getD i true = false) (v : Value) :
    Done ops a0 (listed.setIfInBounds i true) (fun j => if j = i then v else vals j) (a.put o.dst v) := by
  have hd : dstOf ops i = o.dst := by simp [dstOf, ho]
  have hlt : i < listed.size := by
    rcases Nat.lt_or_ge i listed.size with h1 | h1
    · exact h1
    · simp [Array.getElem?_eq_none h1] at hi
  have hls : ∀ j, (listed.setIfInBounds i true).getD j false = if j = i then true else listed.getD j false := by
    intro j
    rw [Array.getD_eq_getD_getElem?, Array.getElem?_setIfInBounds, Array.getD_eq_getD_getElem?]
    by_cases e : i = j
    · subst e; rw [if_pos rfl, if_pos hlt, if_pos rfl]; rfl
    · rw [if_neg e, if_neg (fun x => e x.symm)]
  cases hod : o.dst with
  | none =>
    refine ⟨h.defers, h.size, fun j d hj hdj => ?_, fun s hs => h.rest s (fun j hj => hs j (by rw [hls]; split <;> simp_all))⟩
    show a.tmps[d]? = _
    rw [hls] at hj
    by_cases e : j = i
    · subst e; rw [hd, hod] at hdj; cases hdj
    · rw [if_neg e] at hj
      rw [h.got j d hj hdj]; simp [e]
  | some d0 =>
    have hd0 : dstOf ops i = some d0 := by rw [hd, hod]
    have hsz : d0 < a.tmps.size := by rw [h.size]; exact apart_lt hap hd0
    refine ⟨h.defers, by simpa [Act.put] using h.size, fun j d hj hdj => ?_, fun s hs => ?_⟩
    · show (a.tmps.setIfInBounds d0 v)[d]? = _
      rw [Array.getElem?_setIfInBounds]
      rw [hls] at hj
      by_cases e : j = i
      · subst e
        rw [hd0] at hdj
        cases hdj
        rw [if_pos rfl, if_pos hsz]; simp
      · rw [if_neg e] at hj
        rw [if_neg (fun x => e (apart_ne hap hd0 (by rw [x]; exact hdj))), h.got j d hj hdj]
        simp [e]
    · show (a.tmps.setIfInBounds d0 v)[s]? = _
      rw [Array.getElem?_setIfInBounds, if_neg (fun x => hs i (by rw [hls, if_pos rfl]) (by rw [hd0, x]))]
      exact h.rest s (fun j hj => hs j (by rw [hls]; split <;> simp_all))

/-- Each operation waits for earlier ones alone. -/
def backB (ops : Array Oper) : Bool := (List.range ops.size).all fun i => match ops[i]? with
  | none => true
  | some o => o.after.all fun e => !Region.binds .any e || decide (e.on < i)
theorem ready_least (hb : backB ops = true) (listed : Array Bool) (hs : listed.size = ops.size) : ∀ (i : Nat), i < ops.size → listed.getD i true = false → ∃ j, j ∈ Region.ready .any ops listed := by
  intro i
  induction i using Nat.strongRecOn with
  | ind i ih =>
    intro hi hl
    by_cases hex : ∃ j, j < i ∧ listed.getD j true = false
    · obtain ⟨j, hj, hjl⟩ := hex
      exact ih j hj (by omega) hjl
    · refine ⟨i, ?_⟩
      have hop : ops[i]? = some ops[i] := Array.getElem?_eq_getElem hi
      refine List.mem_filter.2 ⟨List.mem_range.2 hi, ?_⟩
      rw [hl, hop]
      simp only [Bool.not_false, Bool.true_and, Option.map_some, Option.getD_some, Array.all_eq_true']
      intro e he
      have h1 := List.all_eq_true.1 hb i (List.mem_range.2 hi)
      rw [hop] at h1
      simp only [Array.all_eq_true'] at h1
      have h2 := h1 e he
      simp only [Bool.or_eq_true, Bool.not_eq_true', decide_eq_true_eq] at h2 ⊢
      rcases h2 with h2 | h2
      · exact .inl h2
      · refine .inr ?_
        have h3 : listed.getD e.on true ≠ false := fun h => hex ⟨e.on, h2, h⟩
        have hlt : e.on < listed.size := by omega
        rw [Array.getD_eq_getD_getElem?, Array.getElem?_eq_getElem hlt] at h3 ⊢
        simpa using h3
def left (n : Nat) (listed : Array Bool) : Nat := (List.range n).countP (fun i => !listed.getD i true)
theorem left_zero {n : Nat} {listed : Array Bool} (h : left n listed = 0) (i : Nat) (hi : i < n) : listed.getD i true = true := by
  have := (List.countP_eq_zero.1 h) i (List.mem_range.2 hi)
  simpa using this
theorem getD_tf {listed : Array Bool} {i n : Nat} (hs : listed.size = n) (hi : i < n) : listed.getD i true = listed.getD i false := by
  rw [Array.getD_eq_getD_getElem?, Array.getD_eq_getD_getElem?, Array.getElem?_eq_getElem (by omega)]; rfl
theorem left_step {n : Nat} {listed : Array Bool} (hs : listed.size = n) {i : Nat} (hi : i < n) (hl : listed.getD i true = false) : left n (listed.setIfInBounds i true) < left n listed := by
  unfold left
  have hget : ∀ j, j < n → (listed.setIfInBounds i true).getD j true = if j = i then true else listed.getD j true := by
    intro j hj
    rw [Array.getD_eq_getD_getElem?, Array.getElem?_setIfInBounds, Array.getD_eq_getD_getElem?]
    by_cases e : i = j
    · subst e; rw [if_pos rfl, if_pos (by omega), if_pos rfl]; rfl
    · rw [if_neg e, if_neg (fun x => e x.symm)]
  have main : ∀ l : List Nat, (∀ j ∈ l, j < n) → l.Nodup → l.countP (fun j => !(listed.setIfInBounds i true).getD j true) + (if i ∈ l then 1 else 0) = l.countP (fun j => !listed.getD j true) := by
    intro l
    induction l with
    | nil => intro _ _; rfl
    | cons x t ih =>
      intro hm hnd
      have := ih (fun j hj => hm j (List.mem_cons_of_mem _ hj)) (List.nodup_cons.1 hnd).2
      rw [List.countP_cons, List.countP_cons, hget x (hm x List.mem_cons_self)]
      by_cases e : x = i
      · subst e
        have hnt : x ∉ t := (List.nodup_cons.1 hnd).1
        rw [if_neg hnt] at this
        rw [if_pos List.mem_cons_self, if_pos rfl, hl]
        simp only [Bool.not_true, Bool.not_false, Bool.false_eq_true, if_true, if_false]
        omega
      · have hm' : (i ∈ x :: t) ↔ i ∈ t := ⟨fun h => (List.mem_cons.1 h).resolve_left (fun h => e h.symm), List.mem_cons_of_mem _⟩
        rw [if_neg e]
        by_cases hit : i ∈ t
        · rw [if_pos hit] at this
          rw [if_pos (hm'.2 hit)]; omega
        · rw [if_neg hit] at this
          rw [if_neg (fun h => hit (hm'.1 h))]; omega
  have := main (List.range n) (fun j hj => List.mem_range.1 hj) List.nodup_range
  rw [if_pos (List.mem_range.2 hi)] at this
  omega

/-- **The law.** -/
theorem wp_region_rg {id : Nat} {a0 : Act} {w0 : World} (hm : P.follows .mixedOrders = true) (St : World → World → Prop) (J : Nat → Value → World → Prop)
    (hap : apartB ops a0.tmps.size = true) (hbk : backB ops = true) (ht : ∀ a b c, St a b → St b c → St a c) (hdraw : St w0 w0.drew)
    (hJ : ∀ i v w w', i < ops.size → St w0 w → St w w' → J i v w → J i v w')
    (hobl : ∀ i o, ops[i]? = some o → Obl P Q ops a0 St J w0 i o)
    (hend : ∀ vals w', St w0 w' → (∀ i, i < ops.size → J i (vals i) w') → Q .normal (putAll ops vals a0) w') :
    (Code.region id ops true).wp P Q a0 w0 := by
  refine wp_region_any hm ?_
  have fin : ∀ (listed : Array Bool) (vals : Nat → Value) (a : Act) (w : World), Done ops a0 listed vals a → listed.size = ops.size → St w0 w → (∀ j, listed.getD j false = true → J j (vals j) w) →
      Region.ready .any ops listed = [] → Q .normal a w := by
    intro listed vals a w hD hs hst hj hrd
    have hall : ∀ i, i < ops.size → listed.getD i false = true := by
      intro i hi
      rw [← getD_tf hs hi]
      rcases h : listed.getD i true with _ | _
      · obtain ⟨j, hjm⟩ := ready_least hbk listed hs i hi h
        rw [hrd] at hjm; cases hjm
      · rfl
    rw [done_all hap hall hD]
    exact hend vals w hst (fun i hi => hj i (hall i hi))
  have main : ∀ (fuel : Nat) (listed : Array Bool) (vals : Nat → Value) (a : Act) (w : World), Done ops a0 listed vals a → listed.size = ops.size → St w0 w → (∀ j, listed.getD j false = true → J j (vals j) w) →
      left ops.size listed ≤ fuel → wpAny P .any ops Q fuel listed a w := by
    intro fuel
    induction fuel with
    | zero =>
      intro listed vals a w hD hs hst hj hf
      have hr0 : Region.ready .any ops listed = [] := by
        refine List.filter_eq_nil_iff.2 fun i hi => ?_
        rw [left_zero (Nat.le_zero.1 hf) i (List.mem_range.1 hi)]; simp
      exact ⟨hr0, fin listed vals a w hD hs hst hj hr0⟩
    | succ fuel ih =>
      intro listed vals a w hD hs hst hj hf
      refine ⟨fin listed vals a w hD hs hst hj, fun i hi => ?_⟩
      obtain ⟨hir, hc⟩ := List.mem_filter.1 hi
      have hin := List.mem_range.1 hir
      have hop : ops[i]? = some ops[i] := Array.getElem?_eq_getElem hin
      rw [hop] at hc
      simp only [Option.map_some, Option.getD_some, Bool.and_eq_true, Bool.not_eq_true', Array.all_eq_true'] at hc
      obtain ⟨hun, haft⟩ := hc
      have hunf : listed.getD i false = false := by rw [← getD_tf hs hin]; exact hun
      have hstep := hobl i _ hop listed vals a w (wpAny P .any ops Q fuel (listed.setIfInBounds i true)) hD hst hj (fun e he hb => by
        have := haft e he
        rw [hb] at this
        simpa using this) hun (fun v w' hsw hjv => by
        refine ih (listed.setIfInBounds i true) (fun j => if j = i then v else vals j) _ w' (done_step hap hop hD hun v) (by simpa using hs) (ht _ _ _ hst hsw) (fun j hjl => ?_) ?_
        · by_cases e : j = i
          · subst e; rw [if_pos rfl]; exact hjv
          · rw [if_neg e]
            have hjf : listed.getD j false = true := by
              rw [Array.getD_eq_getD_getElem?, Array.getElem?_setIfInBounds, if_neg (fun x => e x.symm)] at hjl
              rw [Array.getD_eq_getD_getElem?]; exact hjl
            have hjs : j < ops.size := by
              rcases Nat.lt_or_ge j ops.size with h1 | h1
              · exact h1
              · rw [Array.getD_eq_getD_getElem?, Array.getElem?_eq_none (by omega)] at hjf; cases hjf
            exact hJ j _ _ _ hjs hst hsw (hj j hjf)
        · have := left_step hs hin hun
          omega)
      unfold wpOp
      simp only [hop]
      unfold StepTo at hstep
      split
      · rename_i hw
        rw [if_pos hw] at hstep
        exact .inl hstep
      · rename_i hw
        rw [if_neg hw] at hstep
        exact hstep
  have h0 : left ops.size (Array.replicate ops.size false) ≤ ops.size := by
    unfold left
    exact Nat.le_trans List.countP_le_length (by simp)
  have hno : ∀ j, (Array.replicate ops.size false).getD j false = true → False := by
    intro j hj
    rw [Array.getD_eq_getD_getElem?, Array.getElem?_replicate] at hj
    split at hj <;> simp at hj
  exact main ops.size (Array.replicate ops.size false) (fun _ => undef) a0 w0.drew ⟨rfl, rfl, fun i d h => (hno i h).elim, fun s _ => rfl⟩ (by simp) hdraw (fun j hj => (hno j hj).elim) h0

/-! ### In use -/
variable {a0 a : Act} {w0 w : World} {J : Nat → Value → World → Prop} {St : World → World → Prop} {listed : Array Bool} {vals : Nat → Value} {o : Oper} {K : Act → World → Prop}
/-- The obligations, one behind the other. -/
def OblL (P : Program) (Q : Exit → Act → World → Prop) (ops : Array Oper) (a0 : Act) (St : World → World → Prop) (J : Nat → Value → World → Prop) (w0 : World) : List Oper → Nat → Prop
  | [], _ => True
  | o :: t, k => Obl P Q ops a0 St J w0 k o ∧ OblL P Q ops a0 St J w0 t (k + 1)
theorem obl_at : ∀ (l : List Oper) (k : Nat), OblL P Q ops a0 St J w0 l k → ∀ i o, l[i]? = some o → Obl P Q ops a0 St J w0 (k + i) o
  | [], _, _, i, o, h => by simp at h
  | x :: t, k, h, i, o, ho => by
    cases i with
    | zero => simp at ho; subst ho; exact h.1
    | succ i => rw [show k + (i + 1) = (k + 1) + i from by omega]; exact obl_at t (k + 1) h.2 i o (by simpa using ho)
theorem obl_list {l : List Oper} (h : OblL P Q l.toArray a0 St J w0 l 0) : ∀ i o, l.toArray[i]? = some o → Obl P Q l.toArray a0 St J w0 i o := fun i o ho => by
  have := obl_at l 0 h i o (by simpa using ho)
  rwa [Nat.zero_add] at this
/-- What was waited for. -/
theorem Done.dep (hD : Done ops a0 listed vals a) (hj : ∀ j, listed.getD j false = true → JAt J j (vals j) w) (ha : ∀ e ∈ o.after, Region.binds .any e = true → listed.getD e.on false = true)
    (j d : Nat) (he : (o.after.toList.any fun e => Region.binds .any e && e.on == j) = true) (hd : dstOf ops j = some d) : ∃ v, a.tmps[d]? = some v ∧ JAt J j v w := by
  obtain ⟨e, hm, hb⟩ := List.any_eq_true.1 he
  simp only [Bool.and_eq_true, beq_iff_eq] at hb
  have hl := ha e (Array.mem_toList_iff.1 hm) hb.1
  rw [hb.2] at hl
  exact ⟨_, hD.got j d hl hd, hj j hl⟩
def outB (ops : Array Oper) (s : Nat) : Bool := (List.range ops.size).all fun i => dstOf ops i != some s
/-- What the region does not write. -/
theorem Done.out (hD : Done ops a0 listed vals a) (s : Nat) {v : Value} (h : outB ops s = true) (h0 : a0.tmps[s]? = some v) : a.tmps[s]? = some v := by
  refine (hD.rest s fun i _ hd => ?_).trans h0
  have hi : i < ops.size := by
    rcases Nat.lt_or_ge i ops.size with h1 | h1
    · exact h1
    · simp [dstOf, Array.getElem?_eq_none h1] at hd
  have := List.all_eq_true.1 h i (List.mem_range.2 hi)
  rw [hd] at this
  simp at this
theorem step_now {v : Value} {w' : World} (hw : Region.wanted o (yielded ops a.tmps) = true) (hr : (execOp a.eval o).run P w = .ok (.value v) w') (hk : K (a.put o.dst v) w') : StepTo P Q ops o a w K := by
  unfold StepTo
  rw [if_pos hw]
  unfold Oper.wp
  rw [hr]
  exact hk
theorem step_skip {w' : World} (hw : Region.wanted o (yielded ops a.tmps) = true) (hr : (execOp a.eval o).run P w = .ok .skip w') (hk : K (a.put o.dst undef) w') : StepTo P Q ops o a w K := by
  unfold StepTo
  rw [if_pos hw]
  unfold Oper.wp
  rw [hr]
  exact hk
theorem step_off (hw : Region.wanted o (yielded ops a.tmps) = false) (hk : K (a.put o.dst undef) w) : StepTo P Q ops o a w K := by
  unfold StepTo
  rw [if_neg (by rw [hw]; decide)]
  exact hk
theorem step_call {f : FuncId} {args : Array Value} {Qc : Ending → World → Prop} (hw : Region.wanted o (yielded ops a.tmps) = true) (hr : (execOp a.eval o).run P w = .ok (.enter f args) w)
    (hc : Calls P f args w Qc) (hq : ∀ e w', Qc e w' → ∃ v, e = .returned v ∧ K (a.put o.dst v) w') : StepTo P Q ops o a w K := by
  unfold StepTo
  rw [if_pos hw]
  unfold Oper.wp
  rw [hr]
  refine Calls.mono hc fun e w' h => ?_
  obtain ⟨v, rfl, hk⟩ := hq e w' h
  exact hk
theorem wanted_free (h : o.guard = none) {y : Nat → Option Bool} : Region.wanted o y = true := by unfold Region.wanted; rw [h]
theorem below_tr (x y z : World) (h : Below x.heap.size x y) (k : Below y.heap.size y z) : Below x.heap.size x z := below_step h k
/-- The frame behind the region, put by put. -/
def putL (vals : Nat → Value) : List Oper → Nat → Act → Act
  | [], _, a => a
  | o :: t, k, a => putL vals t (k + 1) (a.put o.dst (vals k))
theorem putL_eq (vals : Nat → Value) : ∀ (l pre : List Oper) (a : Act), putL vals l pre.length a = (List.range' pre.length l.length).foldl (fun a i => a.put (dstOf (pre ++ l).toArray i) (vals i)) a
  | [], pre, a => rfl
  | o :: t, pre, a => by
    have h := putL_eq vals t (pre ++ [o]) (a.put o.dst (vals pre.length))
    rw [show (pre ++ [o]).length = pre.length + 1 by simp, List.append_assoc, List.singleton_append] at h
    rw [putL, h, List.length_cons, List.range'_succ, List.foldl_cons]
    have hd : dstOf (pre ++ o :: t).toArray pre.length = o.dst := by simp [dstOf]
    rw [hd]
theorem putAll_list (l : List Oper) (vals : Nat → Value) (a : Act) : putAll l.toArray vals a = putL vals l 0 a := by
  have := putL_eq vals l [] a
  unfold putAll
  rw [show ([] : List Oper).length = 0 from rfl, List.nil_append] at this
  rw [this, List.range_eq_range']
  rfl

/-! ### A region whose last operations wait for all that stand ahead of them -/
def waitsB (ops : Array Oper) (i j : Nat) : Bool := match ops[i]? with
  | none => true
  | some o => o.after.toList.any fun e => Region.binds .any e && e.on == j
def tailB (ops : Array Oper) (k : Nat) : Bool := (List.range ops.size).all fun i => Nat.blt i k || (List.range i).all fun j => !(Nat.blt j k || j + 1 == i) || waitsB ops i j
theorem tail_waits {k i j : Nat} {listed : Array Bool} (h : tailB ops k = true) (hi : i < ops.size) (hk : k ≤ i) (hj : j < i) (hjk : j < k ∨ j + 1 = i) (hr : i ∈ Region.ready .any ops listed) : listed.getD j false = true := by
  have h1 := List.all_eq_true.1 h i (List.mem_range.2 hi)
  simp only [Bool.or_eq_true] at h1
  rcases h1 with h1 | h1
  · have := Nat.le_of_ble_eq_true h1
    omega
  · have h2 := List.all_eq_true.1 h1 j (List.mem_range.2 hj)
    have hb : (Nat.blt j k || j + 1 == i) = true := by
      rcases hjk with h | h
      · rw [show Nat.blt j k = true from Nat.ble_eq_true_of_le h]; rfl
      · rw [show (j + 1 == i) = true from beq_iff_eq.2 h, Bool.or_true]
    rw [hb, Bool.not_true, Bool.false_or] at h2
    have hop : ops[i]? = some ops[i] := Array.getElem?_eq_getElem hi
    unfold waitsB at h2
    rw [hop] at h2
    obtain ⟨e, hm, he⟩ := List.any_eq_true.1 h2
    simp only [Bool.and_eq_true, beq_iff_eq] at he
    obtain ⟨_, hc⟩ := List.mem_filter.1 hr
    rw [hop] at hc
    simp only [Option.map_some, Option.getD_some, Bool.and_eq_true, Array.all_eq_true'] at hc
    have := hc.2 e (Array.mem_toList_iff.1 hm)
    rw [he.1, he.2] at this
    simpa using this
theorem tail_any {k : Nat} (hbk : backB ops = true) (ht : tailB ops k = true) : ∀ (d m fuel : Nat) (listed : Array Bool) (a : Act) (w : World), m + d = ops.size → k ≤ m → d ≤ fuel → listed.size = ops.size → (∀ i, i < ops.size → listed.getD i false = decide (i < m)) →
    wpOps P ops Q (List.range' m d) a w → wpAny P .any ops Q fuel listed a w := by
  intro d
  induction d with
  | zero =>
    intro m fuel listed a w hmd hkm hf hs hl h
    have hr0 : Region.ready .any ops listed = [] := by
      refine List.filter_eq_nil_iff.2 fun i hi => ?_
      have hi' := List.mem_range.1 hi
      rw [getD_tf hs hi', hl i hi', decide_eq_true (by omega)]; simp
    cases fuel with
    | zero => exact ⟨hr0, h⟩
    | succ f => exact ⟨fun _ => h, fun i hi => by rw [hr0] at hi; cases hi⟩
  | succ d ih =>
    intro m fuel listed a w hmd hkm hf hs hl h
    obtain ⟨f, rfl⟩ : ∃ f, fuel = f + 1 := ⟨fuel - 1, by omega⟩
    have hm : m < ops.size := by omega
    refine ⟨fun h0 => ?_, fun i hi => ?_⟩
    · obtain ⟨j, hj⟩ := ready_least hbk listed hs m hm (by rw [getD_tf hs hm, hl m hm]; simp)
      rw [h0] at hj; cases hj
    · have him : i < ops.size := List.mem_range.1 (List.mem_filter.1 hi).1
      have hun : listed.getD i false = false := by
        have := (List.mem_filter.1 hi).2
        simp only [Bool.and_eq_true, Bool.not_eq_true'] at this
        rw [← getD_tf hs him]; exact this.1
      have hmi : m ≤ i := by
        rw [hl i him] at hun
        simpa using hun
      obtain rfl : i = m := by
        rcases Nat.lt_or_eq_of_le hmi with hlt | e
        · have := tail_waits ht him (j := i - 1) (by omega) (by omega) (.inr (by omega)) hi
          rw [hl (i - 1) (by omega), decide_eq_true_eq] at this
          omega
        · exact e.symm
      rw [List.range'_succ, wpOps_cons] at h
      refine wpOp_mono (fun a' w' h' => ih (i + 1) f _ a' w' (by omega) (by omega) (by omega) (by simpa using hs) (fun j hj => ?_) h') h
      rw [Array.getD_eq_getD_getElem?, Array.getElem?_setIfInBounds]
      by_cases e : i = j
      · subst e; rw [if_pos rfl, if_pos (by omega)]; simp
      · rw [if_neg e, ← Array.getD_eq_getD_getElem?, hl j hj]
        rw [decide_eq_decide]; omega

/-- The law, where the last operations come one behind the other. -/
theorem wp_region_rg_tail {id : Nat} {a0 : Act} {w0 : World} (k : Nat) (hm : P.follows .mixedOrders = true) (St : World → World → Prop) (J : Nat → Value → World → Prop)
    (hap : apartB ops a0.tmps.size = true) (hbk : backB ops = true) (htl : tailB ops k = true) (hkn : k ≤ ops.size) (ht : ∀ a b c, St a b → St b c → St a c) (hdraw : St w0 w0.drew)
    (hJ : ∀ i v w w', i < k → St w0 w → St w w' → J i v w → J i v w')
    (hobl : ∀ i o, i < k → ops[i]? = some o → Obl P Q ops a0 St J w0 i o)
    (hend : ∀ (vals : Nat → Value) (a : Act) (w' : World) (listed : Array Bool), St w0 w' → (∀ i, i < k → J i (vals i) w') → Done ops a0 listed vals a → (∀ i, i < ops.size → listed.getD i false = decide (i < k)) → wpOps P ops Q (List.range' k (ops.size - k)) a w') :
    (Code.region id ops true).wp P Q a0 w0 := by
  refine wp_region_any hm ?_
  have main : ∀ (fuel : Nat) (listed : Array Bool) (vals : Nat → Value) (a : Act) (w : World), Done ops a0 listed vals a → listed.size = ops.size → St w0 w → (∀ j, listed.getD j false = true → J j (vals j) w) →
      (∀ j, listed.getD j false = true → j < k) → left ops.size listed ≤ fuel → wpAny P .any ops Q fuel listed a w := by
    intro fuel
    induction fuel with
    | zero =>
      intro listed vals a w hD hs hst hj hlk hf
      have hall : ∀ i, i < ops.size → listed.getD i false = true := fun i hi => by
        rw [← getD_tf hs hi]; exact left_zero (Nat.le_zero.1 hf) i hi
      have hk : ops.size ≤ k := by
        rcases Nat.lt_or_ge k ops.size with h1 | h1
        · have := hlk k (hall k h1); omega
        · exact h1
      have hlist : ∀ i, i < ops.size → listed.getD i false = decide (i < k) := fun i hi => by rw [hall i hi, decide_eq_true (by omega)]
      have := hend vals a w listed hst (fun i hi => hj i (hall i (by omega))) hD hlist
      exact tail_any hbk htl (ops.size - k) k 0 listed a w (by omega) (Nat.le_refl _) (by omega) hs hlist this
    | succ fuel ih =>
      intro listed vals a w hD hs hst hj hlk hf
      by_cases hall : ∀ i, i < k → listed.getD i false = true
      · have hlist : ∀ i, i < ops.size → listed.getD i false = decide (i < k) := fun i hi => by
          by_cases h : i < k
          · rw [hall i h, decide_eq_true h]
          · rw [decide_eq_false h]
            rcases hh : listed.getD i false with _ | _
            · rfl
            · exact absurd (hlk i hh) h
        have hle : ops.size - k ≤ fuel + 1 := by
          have h1 : (List.range' k (ops.size - k)).countP (fun i => !listed.getD i true) = ops.size - k := by
            refine Eq.trans (List.countP_eq_length.2 fun i hi => ?_) (by simp)
            obtain ⟨h2, h3⟩ := List.mem_range'_1.1 hi
            rw [getD_tf hs (by omega), hlist i (by omega), decide_eq_false (by omega)]; rfl
          have h2 : left ops.size listed = (List.range' 0 k).countP (fun i => !listed.getD i true) + (List.range' k (ops.size - k)).countP (fun i => !listed.getD i true) := by
            unfold left
            rw [List.range_eq_range', ← List.countP_append]
            congr 1
            have := List.range'_append_1 (s := 0) (m := k) (n := ops.size - k)
            rw [Nat.zero_add] at this
            rw [this]; congr 1; omega
          omega
        exact tail_any hbk htl (ops.size - k) k (fuel + 1) listed a w (by omega) (Nat.le_refl _) hle hs hlist (hend vals a w listed hst (fun i hi => hj i (hall i hi)) hD hlist)
      · have hpick : ∀ i, i ∈ Region.ready .any ops listed → i < k := by
          intro i hi
          rcases Nat.lt_or_ge i k with h1 | h1
          · exact h1
          · exact absurd (fun j hj => tail_waits htl (List.mem_range.1 (List.mem_filter.1 hi).1) h1 (by omega) (.inl hj) hi) hall
        refine ⟨fun h0 => ?_, fun i hi => ?_⟩
        · exfalso
          apply hall
          intro i hi
          rw [← getD_tf hs (by omega)]
          rcases h : listed.getD i true with _ | _
          · obtain ⟨j, hjm⟩ := ready_least hbk listed hs i (by omega) h
            rw [h0] at hjm; cases hjm
          · rfl
        · have hik := hpick i hi
          obtain ⟨hir, hc⟩ := List.mem_filter.1 hi
          have hin := List.mem_range.1 hir
          have hop : ops[i]? = some ops[i] := Array.getElem?_eq_getElem hin
          rw [hop] at hc
          simp only [Option.map_some, Option.getD_some, Bool.and_eq_true, Bool.not_eq_true', Array.all_eq_true'] at hc
          obtain ⟨hun, haft⟩ := hc
          have hstep := hobl i _ hik hop listed vals a w (wpAny P .any ops Q fuel (listed.setIfInBounds i true)) hD hst hj (fun e he hb => by
            have := haft e he
            rw [hb] at this
            simpa using this) hun (fun v w' hsw hjv => by
            have hget : ∀ j, (listed.setIfInBounds i true).getD j false = true → j ≠ i → listed.getD j false = true := by
              intro j hjl e
              rw [Array.getD_eq_getD_getElem?, Array.getElem?_setIfInBounds, if_neg (fun x => e x.symm)] at hjl
              rw [Array.getD_eq_getD_getElem?]; exact hjl
            refine ih (listed.setIfInBounds i true) (fun j => if j = i then v else vals j) _ w' (done_step hap hop hD hun v) (by simpa using hs) (ht _ _ _ hst hsw) (fun j hjl => ?_) (fun j hjl => ?_) ?_
            · by_cases e : j = i
              · subst e; rw [if_pos rfl]; exact hjv
              · rw [if_neg e]
                have hjf := hget j hjl e
                exact hJ j _ _ _ (hlk j hjf) hst hsw (hj j hjf)
            · by_cases e : j = i
              · subst e; exact hik
              · exact hlk j (hget j hjl e)
            · have := left_step hs hin hun
              omega)
          unfold wpOp
          simp only [hop]
          unfold StepTo at hstep
          split
          · rename_i hw
            rw [if_pos hw] at hstep
            exact .inl hstep
          · rename_i hw
            rw [if_neg hw] at hstep
            exact hstep
  have h0 : left ops.size (Array.replicate ops.size false) ≤ ops.size := by
    unfold left
    exact Nat.le_trans List.countP_le_length (by simp)
  have hno : ∀ j, (Array.replicate ops.size false).getD j false = true → False := by
    intro j hj
    rw [Array.getD_eq_getD_getElem?, Array.getElem?_replicate] at hj
    split at hj <;> simp at hj
  exact main ops.size (Array.replicate ops.size false) (fun _ => undef) a0 w0.drew ⟨rfl, rfl, fun i d h => (hno i h).elim, fun s _ => rfl⟩ (by simp) hdraw (fun j hj => (hno j hj).elim) (fun j hj => (hno j hj).elim) h0

/-- The frame behind the first ones: put by put. -/
theorem done_some {a0 a : Act} {listed : Array Bool} {vals : Nat → Value} {k : Nat} (hap : apartB ops a0.tmps.size = true) (hk : k ≤ ops.size) (hl : ∀ i, i < ops.size → listed.getD i false = decide (i < k)) (h : Done ops a0 listed vals a) :
    a = (List.range k).foldl (fun a i => a.put (dstOf ops i) (vals i)) a0 := by
  obtain ⟨h1, h2, h3, h4⟩ := foldl_put ops vals hap k a0 rfl
  refine act_ext (Array.ext_getElem? fun s => ?_) (h.defers.trans h2.symm)
  by_cases hs : ∃ i, i < k ∧ dstOf ops i = some s
  · obtain ⟨i, hi, hd⟩ := hs
    exact (h.got i s (by rw [hl i (by omega), decide_eq_true hi]) hd).trans (h3 i s hi hd).symm
  · refine (h.rest s (fun i hli hd => hs ⟨i, ?_, hd⟩)).trans (h4 s (fun i hi hd => hs ⟨i, hi, hd⟩)).symm
    have hi : i < ops.size := by
      rcases Nat.lt_or_ge i ops.size with h1 | h1
      · exact h1
      · simp [dstOf, Array.getElem?_eq_none h1] at hd
    rw [hl i hi] at hli
    simpa using hli
theorem putL_take (l : List Oper) (vals : Nat → Value) (a : Act) (k : Nat) (hk : k ≤ l.length) : (List.range k).foldl (fun a i => a.put (dstOf l.toArray i) (vals i)) a = putL vals (l.take k) 0 a := by
  have := putL_eq vals (l.take k) [] a
  rw [show ([] : List Oper).length = 0 from rfl, List.nil_append, List.length_take, Nat.min_eq_left hk] at this
  rw [this, List.range_eq_range']
  have hc : ∀ (r : List Nat) (b : Act), (∀ i ∈ r, i < k) → r.foldl (fun a i => a.put (dstOf l.toArray i) (vals i)) b = r.foldl (fun a i => a.put (dstOf (l.take k).toArray i) (vals i)) b := by
    intro r
    induction r with
    | nil => intro b _; rfl
    | cons x t ih =>
      intro b hb
      rw [List.foldl_cons, List.foldl_cons]
      have hx : dstOf l.toArray x = dstOf (l.take k).toArray x := by
        have := hb x List.mem_cons_self
        simp [dstOf, this]
      rw [hx]
      exact ih _ (fun i hi => hb i (List.mem_cons_of_mem _ hi))
  exact hc _ _ (fun i hi => by obtain ⟨_, h⟩ := List.mem_range'_1.1 hi; omega)
/-- In use: the first k operations by what they yield, the others walked. -/
theorem wp_region_rg_list {id : Nat} {a0 : Act} {w0 : World} {l : List Oper} (k : Nat) (hm : P.follows .mixedOrders = true) (St : World → World → Prop) (J : Nat → Value → World → Prop)
    (hap : apartB l.toArray a0.tmps.size = true) (hbk : backB l.toArray = true) (htl : tailB l.toArray k = true) (hkn : Nat.ble k l.length = true) (ht : ∀ a b c, St a b → St b c → St a c) (hdraw : St w0 w0.drew)
    (hJ : ∀ i v w w', i < k → St w0 w → St w w' → J i v w → J i v w')
    (hobl : OblL P Q l.toArray a0 St J w0 (l.take k) 0)
    (hend : ∀ (vals : Nat → Value) (w' : World), St w0 w' → (∀ i, i < k → J i (vals i) w') → wpList P l.toArray Q (l.drop k) (putL vals (l.take k) 0 a0) w') :
    (Code.region id l.toArray true).wp P Q a0 w0 := by
  have hkn' : k ≤ l.length := Nat.le_of_ble_eq_true hkn
  refine wp_region_rg_tail k hm St J hap hbk htl (by simpa using hkn') ht hdraw hJ (fun i o hi ho => ?_) (fun vals a w' listed hst hj hD hl => ?_)
  · have := obl_at (l.take k) 0 hobl i o (by rw [List.getElem?_take, if_pos hi]; simpa using ho)
    rwa [Nat.zero_add] at this
  · have ha := done_some hap (by simpa using hkn') hl hD
    rw [putL_take l vals a0 k hkn'] at ha
    subst ha
    have := hend vals w' hst hj
    have e := wpOps_eq_wpList (P := P) (Q := Q) (ops := l.toArray) (l.drop k) k (fun j => by simp [List.getElem?_drop])
    rw [List.length_drop] at e
    rw [show l.toArray.size - k = l.length - k by simp, e]
    exact this

/-! ### A region in the text's order, by the same obligations -/
theorem wp_region_rg_seq {id : Nat} {a0 : Act} {w0 : World} {l : List Oper} (St : World → World → Prop) (J : Nat → Value → World → Prop)
    (hap : apartB l.toArray a0.tmps.size = true) (hbk : backB l.toArray = true) (ht : ∀ a b c, St a b → St b c → St a c) (hrefl : St w0 w0)
    (hJ : ∀ i v w w', i < l.toArray.size → St w0 w → St w w' → J i v w → J i v w')
    (hobl : OblL P Q l.toArray a0 St J w0 l 0)
    (hend : ∀ vals w', St w0 w' → (∀ i, i < l.toArray.size → J i (vals i) w') → Q .normal (putAll l.toArray vals a0) w') :
    (Code.region id l.toArray false).wp P Q a0 w0 := by
  have hobl' := obl_list hobl
  refine wp_region ?_
  have main : ∀ (d m : Nat) (listed : Array Bool) (vals : Nat → Value) (a : Act) (w : World), m + d = l.toArray.size → listed.size = l.toArray.size → (∀ i, i < l.toArray.size → listed.getD i false = decide (i < m)) → Done l.toArray a0 listed vals a → St w0 w → (∀ j, listed.getD j false = true → J j (vals j) w) →
      wpOps P l.toArray Q (List.range' m d) a w := by
    intro d
    induction d with
    | zero =>
      intro m listed vals a w hmd hs hl hD hst hj
      have hall : ∀ i, i < l.toArray.size → listed.getD i false = true := fun i hi => by rw [hl i hi, decide_eq_true (by omega)]
      rw [done_all hap hall hD]
      exact hend vals w hst (fun i hi => hj i (hall i hi))
    | succ d ih =>
      intro m listed vals a w hmd hs hl hD hst hj
      have hm : m < l.toArray.size := by omega
      have hop : l.toArray[m]? = some l.toArray[m] := Array.getElem?_eq_getElem hm
      have hun : listed.getD m true = false := by rw [getD_tf hs hm, hl m hm]; simp
      rw [List.range'_succ, wpOps_cons]
      have hstep := hobl' m _ hop listed vals a w (wpOps P l.toArray Q (List.range' (m + 1) d)) hD hst hj (fun e he hb => by
        have h1 := List.all_eq_true.1 hbk m (List.mem_range.2 hm)
        rw [hop] at h1
        simp only [Array.all_eq_true'] at h1
        have h2 := h1 e he
        rw [hb, Bool.not_true, Bool.false_or, decide_eq_true_eq] at h2
        rw [hl e.on (by omega), decide_eq_true h2]) hun (fun v w' hsw hjv => by
        have hget : ∀ j, (listed.setIfInBounds m true).getD j false = if m = j then true else listed.getD j false := by
          intro j
          rw [Array.getD_eq_getD_getElem?, Array.getElem?_setIfInBounds, Array.getD_eq_getD_getElem?]
          by_cases e : m = j
          · subst e; rw [if_pos rfl, if_pos (by omega), if_pos rfl]; rfl
          · rw [if_neg e, if_neg e]
        refine ih (m + 1) (listed.setIfInBounds m true) (fun j => if j = m then v else vals j) _ w' (by omega) (by simpa using hs) (fun j hj' => ?_) (done_step hap hop hD hun v) (ht _ _ _ hst hsw) (fun j hjl => ?_)
        · rw [hget j]
          by_cases e : m = j
          · subst e; rw [if_pos rfl, decide_eq_true (by omega)]
          · rw [if_neg e, hl j hj', decide_eq_decide]; omega
        · rw [hget j] at hjl
          by_cases e : j = m
          · subst e; rw [if_pos rfl]; exact hjv
          · rw [if_neg e]
            rw [if_neg (fun x => e x.symm)] at hjl
            have hjs : j < l.toArray.size := by
              rcases Nat.lt_or_ge j l.toArray.size with h1 | h1
              · exact h1
              · rw [Array.getD_eq_getD_getElem?, Array.getElem?_eq_none (by omega)] at hjl; cases hjl
            exact hJ j _ _ _ hjs hst hsw (hj j hjl))
      unfold wpOp
      simp only [hop]
      unfold StepTo at hstep
      split
      · rename_i hw
        rw [if_pos hw] at hstep
        exact .inl hstep
      · rename_i hw
        rw [if_neg hw] at hstep
        exact hstep
  have hno : ∀ j, (Array.replicate l.toArray.size false).getD j false = true → False := by
    intro j hj
    rw [Array.getD_eq_getD_getElem?, Array.getElem?_replicate] at hj
    split at hj <;> simp at hj
  have := main l.toArray.size 0 (Array.replicate l.toArray.size false) (fun _ => undef) a0 w0 (by omega) (by simp) (fun i hi => by rw [Array.getD_eq_getD_getElem?, Array.getElem?_replicate, if_pos hi]; simp) ⟨rfl, rfl, fun i d h => (hno i h).elim, fun s _ => rfl⟩ hrefl (fun j hj => (hno j hj).elim)
  rw [List.range_eq_range']
  exact this

/-! ### With a word on the world that hangs on what is done -/
def Closed (ops : Array Oper) (listed : Array Bool) : Prop := ∀ j o', ops[j]? = some o' → listed.getD j false = true → ∀ e ∈ o'.after, Region.binds .any e = true → listed.getD e.on false = true
theorem closed_step {listed : Array Bool} {i : Nat} {o : Oper} (ho : ops[i]? = some o) (hc : Closed ops listed) (ha : ∀ e ∈ o.after, Region.binds .any e = true → listed.getD e.on false = true) (hi : i < listed.size) : Closed ops (listed.setIfInBounds i true) := by
  have hget : ∀ j, listed.getD j false = true → (listed.setIfInBounds i true).getD j false = true := by
    intro j hj
    rw [Array.getD_eq_getD_getElem?, Array.getElem?_setIfInBounds]
    by_cases e : i = j
    · subst e; rw [if_pos rfl, if_pos hi]; rfl
    · rw [if_neg e, ← Array.getD_eq_getD_getElem?]; exact hj
  intro j o' hj hl e he hb
  by_cases ei : j = i
  · subst ei
    have : o' = o := Option.some.inj (hj.symm.trans ho)
    subst this
    exact hget _ (ha e he hb)
  · rw [Array.getD_eq_getD_getElem?, Array.getElem?_setIfInBounds, if_neg (fun x => ei x.symm), ← Array.getD_eq_getD_getElem?] at hl
    exact hget _ (hc j o' hj hl e he hb)
/-- Not yet: what waits for an operation that is not done. -/
theorem not_yet {listed : Array Bool} {i j : Nat} (hc : Closed ops listed) (hw : waitsB ops j i = true) (hlt : Nat.blt j ops.size = true) (hi : listed.getD i true = false) : listed.getD j false = false := by
  have hj : j < ops.size := Nat.le_of_ble_eq_true hlt
  rcases h : listed.getD j false with _ | _
  · rfl
  · exfalso
    have hop : ops[j]? = some ops[j] := Array.getElem?_eq_getElem hj
    unfold waitsB at hw
    rw [hop] at hw
    obtain ⟨e, hm, he⟩ := List.any_eq_true.1 hw
    simp only [Bool.and_eq_true, beq_iff_eq] at he
    have := hc j _ hop h e (Array.mem_toList_iff.1 hm) he.1
    rw [he.2] at this
    rw [Array.getD_eq_getD_getElem?] at this hi
    cases hq : listed[i]? with
    | none => rw [hq] at this; cases this
    | some b => rw [hq] at this hi; simp at this hi; rw [this] at hi; cases hi
def OblV (P : Program) (Q : Exit → Act → World → Prop) (ops : Array Oper) (a0 : Act) (St : World → World → Prop) (V : (Nat → Bool) → World → Prop) (J : Nat → Value → World → Prop) (w0 : World) (i : Nat) (o : Oper) : Prop :=
  ∀ (listed : Array Bool) (vals : Nat → Value) (a : Act) (w : World) (K : Act → World → Prop), Done ops a0 listed vals a → St w0 w → V (fun j => listed.getD j false) w → Closed ops listed → (∀ j, listed.getD j false = true → JAt J j (vals j) w) →
    (∀ e ∈ o.after, Region.binds .any e = true → listed.getD e.on false = true) → listed.getD i true = false →
    (∀ v w', St w w' → V (fun j => if j = i then true else listed.getD j false) w' → J i v w' → K (a.put o.dst v) w') → StepTo P Q ops o a w K
def OblVL (P : Program) (Q : Exit → Act → World → Prop) (ops : Array Oper) (a0 : Act) (St : World → World → Prop) (V : (Nat → Bool) → World → Prop) (J : Nat → Value → World → Prop) (w0 : World) : List Oper → Nat → Prop
  | [], _ => True
  | o :: t, k => OblV P Q ops a0 St V J w0 k o ∧ OblVL P Q ops a0 St V J w0 t (k + 1)
theorem oblv_at {V : (Nat → Bool) → World → Prop} : ∀ (l : List Oper) (k : Nat), OblVL P Q ops a0 St V J w0 l k → ∀ i o, l[i]? = some o → OblV P Q ops a0 St V J w0 (k + i) o
  | [], _, _, i, o, h => by simp at h
  | x :: t, k, h, i, o, ho => by
    cases i with
    | zero => simp at ho; subst ho; exact h.1
    | succ i => rw [show k + (i + 1) = (k + 1) + i from by omega]; exact oblv_at t (k + 1) h.2 i o (by simpa using ho)

theorem wp_region_rgv {id : Nat} {a0 : Act} {w0 : World} {l : List Oper} (k : Nat) (hm : P.follows .mixedOrders = true) (St : World → World → Prop) (V : (Nat → Bool) → World → Prop) (J : Nat → Value → World → Prop)
    (hap : apartB l.toArray a0.tmps.size = true) (hbk : backB l.toArray = true) (htl : tailB l.toArray k = true) (hkb : Nat.ble k l.length = true) (ht : ∀ a b c, St a b → St b c → St a c) (hdraw : St w0 w0.drew) (hV : V (fun _ => false) w0.drew)
    (hJ : ∀ i v w w', i < k → St w0 w → St w w' → J i v w → J i v w')
    (hoblL : OblVL P Q l.toArray a0 St V J w0 (l.take k) 0)
    (hend : ∀ (vals : Nat → Value) (w' : World) (d : Nat → Bool), St w0 w' → (∀ j, j < k → d j = true) → V d w' → (∀ i, i < k → J i (vals i) w') → wpList P l.toArray Q (l.drop k) (putL vals (l.take k) 0 a0) w') :
    (Code.region id l.toArray true).wp P Q a0 w0 := by
  have hkn' : k ≤ l.length := Nat.le_of_ble_eq_true hkb
  have hkn : k ≤ l.toArray.size := by simpa using hkn'
  have hobl : ∀ i o, i < k → l.toArray[i]? = some o → OblV P Q l.toArray a0 St V J w0 i o := fun i o hi ho => by
    have := oblv_at (l.take k) 0 hoblL i o (by rw [List.getElem?_take, if_pos hi]; simpa using ho)
    rwa [Nat.zero_add] at this
  have hfin : ∀ (vals : Nat → Value) (a : Act) (w' : World) (listed : Array Bool), St w0 w' → V (fun j => listed.getD j false) w' → (∀ i, i < k → J i (vals i) w') → Done l.toArray a0 listed vals a → (∀ i, i < l.toArray.size → listed.getD i false = decide (i < k)) → wpOps P l.toArray Q (List.range' k (l.toArray.size - k)) a w' := by
    intro vals a w' listed hst hv hj hD hl
    have ha := done_some hap hkn hl hD
    rw [putL_take l vals a0 k hkn'] at ha
    subst ha
    have := hend vals w' _ hst (fun j hj' => by rw [hl j (by omega), decide_eq_true hj']) hv hj
    have e := wpOps_eq_wpList (P := P) (Q := Q) (ops := l.toArray) (l.drop k) k (fun j => by simp [List.getElem?_drop])
    rw [List.length_drop] at e
    rw [show l.toArray.size - k = l.length - k by simp, e]
    exact this
  refine wp_region_any hm ?_
  generalize l.toArray = ops at *
  have main : ∀ (fuel : Nat) (listed : Array Bool) (vals : Nat → Value) (a : Act) (w : World), Done ops a0 listed vals a → listed.size = ops.size → St w0 w → V (fun j => listed.getD j false) w → Closed ops listed → (∀ j, listed.getD j false = true → J j (vals j) w) →
      (∀ j, listed.getD j false = true → j < k) → left ops.size listed ≤ fuel → wpAny P .any ops Q fuel listed a w := by
    intro fuel
    induction fuel with
    | zero =>
      intro listed vals a w hD hs hst hv hcl hj hlk hf
      have hall : ∀ i, i < ops.size → listed.getD i false = true := fun i hi => by
        rw [← getD_tf hs hi]; exact left_zero (Nat.le_zero.1 hf) i hi
      have hk : ops.size ≤ k := by
        rcases Nat.lt_or_ge k ops.size with h1 | h1
        · have := hlk k (hall k h1); omega
        · exact h1
      have hlist : ∀ i, i < ops.size → listed.getD i false = decide (i < k) := fun i hi => by rw [hall i hi, decide_eq_true (by omega)]
      exact tail_any hbk htl (ops.size - k) k 0 listed a w (by omega) (Nat.le_refl _) (by omega) hs hlist (hfin vals a w listed hst hv (fun i hi => hj i (hall i (by omega))) hD hlist)
    | succ fuel ih =>
      intro listed vals a w hD hs hst hv hcl hj hlk hf
      by_cases hall : ∀ i, i < k → listed.getD i false = true
      · have hlist : ∀ i, i < ops.size → listed.getD i false = decide (i < k) := fun i hi => by
          by_cases h : i < k
          · rw [hall i h, decide_eq_true h]
          · rw [decide_eq_false h]
            rcases hh : listed.getD i false with _ | _
            · rfl
            · exact absurd (hlk i hh) h
        have hle : ops.size - k ≤ fuel + 1 := by
          have h1 : (List.range' k (ops.size - k)).countP (fun i => !listed.getD i true) = ops.size - k := by
            refine Eq.trans (List.countP_eq_length.2 fun i hi => ?_) (by simp)
            obtain ⟨h2, h3⟩ := List.mem_range'_1.1 hi
            rw [getD_tf hs (by omega), hlist i (by omega), decide_eq_false (by omega)]; rfl
          have h2 : left ops.size listed = (List.range' 0 k).countP (fun i => !listed.getD i true) + (List.range' k (ops.size - k)).countP (fun i => !listed.getD i true) := by
            unfold left
            rw [List.range_eq_range', ← List.countP_append]
            congr 1
            have := List.range'_append_1 (s := 0) (m := k) (n := ops.size - k)
            rw [Nat.zero_add] at this
            rw [this]; congr 1; omega
          omega
        exact tail_any hbk htl (ops.size - k) k (fuel + 1) listed a w (by omega) (Nat.le_refl _) hle hs hlist (hfin vals a w listed hst hv (fun i hi => hj i (hall i hi)) hD hlist)
      · have hpick : ∀ i, i ∈ Region.ready .any ops listed → i < k := by
          intro i hi
          rcases Nat.lt_or_ge i k with h1 | h1
          · exact h1
          · exact absurd (fun j hj => tail_waits htl (List.mem_range.1 (List.mem_filter.1 hi).1) h1 (by omega) (.inl hj) hi) hall
        refine ⟨fun h0 => ?_, fun i hi => ?_⟩
        · exfalso
          apply hall
          intro i hi
          rw [← getD_tf hs (by omega)]
          rcases h : listed.getD i true with _ | _
          · obtain ⟨j, hjm⟩ := ready_least hbk listed hs i (by omega) h
            rw [h0] at hjm; cases hjm
          · rfl
        · have hik := hpick i hi
          obtain ⟨hir, hc⟩ := List.mem_filter.1 hi
          have hin := List.mem_range.1 hir
          have hop : ops[i]? = some ops[i] := Array.getElem?_eq_getElem hin
          rw [hop] at hc
          simp only [Option.map_some, Option.getD_some, Bool.and_eq_true, Bool.not_eq_true', Array.all_eq_true'] at hc
          obtain ⟨hun, haft⟩ := hc
          have haft' : ∀ e ∈ ops[i].after, Region.binds .any e = true → listed.getD e.on false = true := fun e he hb => by
            have := haft e he
            rw [hb] at this
            simpa using this
          have hstep := hobl i _ hik hop listed vals a w (wpAny P .any ops Q fuel (listed.setIfInBounds i true)) hD hst hv hcl hj haft' hun (fun v w' hsw hvw hjv => by
            have hset : (fun j => (listed.setIfInBounds i true).getD j false) = fun j => if j = i then true else listed.getD j false := by
              funext j
              rw [Array.getD_eq_getD_getElem?, Array.getElem?_setIfInBounds]
              by_cases e : i = j
              · subst e; rw [if_pos rfl, if_pos (by omega), if_pos rfl]; rfl
              · rw [if_neg e, if_neg (fun x => e x.symm), Array.getD_eq_getD_getElem?]
            have hget : ∀ j, (listed.setIfInBounds i true).getD j false = true → j ≠ i → listed.getD j false = true := by
              intro j hjl e
              have := congrFun hset j
              simp only [if_neg e] at this
              rw [← this]; exact hjl
            refine ih (listed.setIfInBounds i true) (fun j => if j = i then v else vals j) _ w' (done_step hap hop hD hun v) (by simpa using hs) (ht _ _ _ hst hsw) (by rw [hset]; exact hvw) (closed_step hop hcl haft' (by omega)) (fun j hjl => ?_) (fun j hjl => ?_) ?_
            · by_cases e : j = i
              · subst e; rw [if_pos rfl]; exact hjv
              · rw [if_neg e]
                have hjf := hget j hjl e
                exact hJ j _ _ _ (hlk j hjf) hst hsw (hj j hjf)
            · by_cases e : j = i
              · subst e; exact hik
              · exact hlk j (hget j hjl e)
            · have := left_step hs hin hun
              omega)
          unfold wpOp
          simp only [hop]
          unfold StepTo at hstep
          split
          · rename_i hw
            rw [if_pos hw] at hstep
            exact .inl hstep
          · rename_i hw
            rw [if_neg hw] at hstep
            exact hstep
  have h0 : left ops.size (Array.replicate ops.size false) ≤ ops.size := by
    unfold left
    exact Nat.le_trans List.countP_le_length (by simp)
  have hno' : ∀ j, (Array.replicate ops.size false).getD j false = false := by
    intro j
    rw [Array.getD_eq_getD_getElem?, Array.getElem?_replicate]
    split <;> rfl
  have hno : ∀ j, (Array.replicate ops.size false).getD j false = true → False := fun j hj => by rw [hno' j] at hj; cases hj
  refine main ops.size (Array.replicate ops.size false) (fun _ => undef) a0 w0.drew ⟨rfl, rfl, fun i d h => (hno i h).elim, fun s _ => rfl⟩ (by simp) hdraw ?_ (fun j o' _ h => (hno j h).elim) (fun j hj => (hno j hj).elim) (fun j hj => (hno j hj).elim) h0
  rw [show (fun j => (Array.replicate ops.size false).getD j false) = fun _ => false from funext hno']
  exact hV
end
end Go.Proofs.Ytainkpgplmkiaaa.Rg
