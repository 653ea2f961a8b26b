/- A region that draws its order, with a word on the world that hangs on which operations are done and on what they have yielded: memory made and written amid the others. Own work. -/
import Derived.Test.YtainkpgplmkiaaaRg
namespace Go.Proofs.Ytainkpgplmkiaaa.Rgw
open Go Go.RowKit Go.Proofs.YtainkpgplmkiaaaW.PrintWords Go.Proofs.Ytainkpgplmkiaaa.Rg
section
variable {P : Program} {ops : Array Oper} {Q : Exit → Act → World → Prop}
variable {a0 a : Act} {w0 w : World} {J : Nat → Value → World → Prop} {St : World → World → Prop} {listed : Array Bool} {vals : Nat → Value} {o : Oper} {K : Act → World → Prop}

def OblW (P : Program) (Q : Exit → Act → World → Prop) (ops : Array Oper) (a0 : Act) (St : World → World → Prop) (V : (Nat → Bool) → (Nat → Value) → World → Prop) (J : Nat → Value → World → Prop) (w0 : World) (i : Nat) (o : Oper) : Prop :=
  ∀ (listed : Array Bool) (vals : Nat → Value) (a : Act) (w : World) (K : Act → World → Prop), Done ops a0 listed vals a → St w0 w → V (fun j => listed.getD j false) vals w → Closed ops listed → (∀ j, listed.getD j false = true → JAt J j (vals j) w) →
    (∀ e ∈ o.after, Region.binds .any e = true → listed.getD e.on false = true) → listed.getD i true = false →
    (∀ v w', St w w' → V (fun j => if j = i then true else listed.getD j false) (fun j => if j = i then v else vals j) w' → J i v w' → K (a.put o.dst v) w') → StepTo P Q ops o a w K
def OblWL (P : Program) (Q : Exit → Act → World → Prop) (ops : Array Oper) (a0 : Act) (St : World → World → Prop) (V : (Nat → Bool) → (Nat → Value) → World → Prop) (J : Nat → Value → World → Prop) (w0 : World) : List Oper → Nat → Prop
  | [], _ => True
  | o :: t, k => OblW P Q ops a0 St V J w0 k o ∧ OblWL P Q ops a0 St V J w0 t (k + 1)
theorem oblw_at {V : (Nat → Bool) → (Nat → Value) → World → Prop} : ∀ (l : List Oper) (k : Nat), OblWL P Q ops a0 St V J w0 l k → ∀ i o, l[i]? = some o → OblW P Q ops a0 St V J w0 (k + i) o
  | [], _, _, i, o, h => by simp at h
  | x :: t, k, h, i, o, ho => by
    cases i with
    | zero => simp at ho; subst ho; exact h.1
    | succ i => rw [show k + (i + 1) = (k + 1) + i from by omega]; exact oblw_at t (k + 1) h.2 i o (by simpa using ho)

theorem wp_region_rgw {id : Nat} {a0 : Act} {w0 : World} {l : List Oper} (k : Nat) (hm : P.follows .mixedOrders = true) (St : World → World → Prop) (V : (Nat → Bool) → (Nat → Value) → World → Prop) (J : Nat → Value → World → Prop)
    (hap : apartB l.toArray a0.tmps.size = true) (hbk : backB l.toArray = true) (htl : tailB l.toArray k = true) (hkb : Nat.ble k l.length = true) (ht : ∀ a b c, St a b → St b c → St a c) (hdraw : St w0 w0.drew) (hV : V (fun _ => false) (fun _ => undef) w0.drew)
    (hJ : ∀ i v w w', i < k → St w0 w → St w w' → J i v w → J i v w')
    (hoblL : OblWL P Q l.toArray a0 St V J w0 (l.take k) 0)
    (hend : ∀ (vals : Nat → Value) (w' : World) (d : Nat → Bool), St w0 w' → (∀ j, j < k → d j = true) → V d vals w' → (∀ i, i < k → J i (vals i) w') → wpList P l.toArray Q (l.drop k) (putL vals (l.take k) 0 a0) w') :
    (Code.region id l.toArray true).wp P Q a0 w0 := by
  have hkn' : k ≤ l.length := Nat.le_of_ble_eq_true hkb
  have hkn : k ≤ l.toArray.size := by simpa using hkn'
  have hobl : ∀ i o, i < k → l.toArray[i]? = some o → OblW P Q l.toArray a0 St V J w0 i o := fun i o hi ho => by
    have := oblw_at (l.take k) 0 hoblL i o (by rw [List.getElem?_take, if_pos hi]; simpa using ho)
    rwa [Nat.zero_add] at this
  have hfin : ∀ (vals : Nat → Value) (a : Act) (w' : World) (listed : Array Bool), St w0 w' → V (fun j => listed.getD j false) vals w' → (∀ i, i < k → J i (vals i) w') → Done l.toArray a0 listed vals a → (∀ i, i < l.toArray.size → listed.getD i false = decide (i < k)) → wpOps P l.toArray Q (List.range' k (l.toArray.size - k)) a w' := by
    intro vals a w' listed hst hv hj hD hl
    have ha := done_some hap hkn hl hD
    rw [putL_take l vals a0 k hkn'] at ha
    subst ha
    have := hend vals w' _ hst (fun j hj' => by rw [hl j (by omega), decide_eq_true hj']) hv hj
    have e := wpOps_eq_wpList (P := P) (Q := Q) (ops := l.toArray) (l.drop k) k (fun j => by simp [List.getElem?_drop])
    rw [List.length_drop] at e
    rw [show l.toArray.size - k = l.length - k by simp, e]
    exact this
  refine wp_region_any hm ?_
  generalize l.toArray = ops at *
  have main : ∀ (fuel : Nat) (listed : Array Bool) (vals : Nat → Value) (a : Act) (w : World), Done ops a0 listed vals a → listed.size = ops.size → St w0 w → V (fun j => listed.getD j false) vals w → Closed ops listed → (∀ j, listed.getD j false = true → J j (vals j) w) →
      (∀ j, listed.getD j false = true → j < k) → left ops.size listed ≤ fuel → wpAny P .any ops Q fuel listed a w := by
    intro fuel
    induction fuel with
    | zero =>
      intro listed vals a w hD hs hst hv hcl hj hlk hf
      have hall : ∀ i, i < ops.size → listed.getD i false = true := fun i hi => by
        rw [← getD_tf hs hi]; exact left_zero (Nat.le_zero.1 hf) i hi
      have hk : ops.size ≤ k := by
        rcases Nat.lt_or_ge k ops.size with h1 | h1
        · have := hlk k (hall k h1); omega
        · exact h1
      have hlist : ∀ i, i < ops.size → listed.getD i false = decide (i < k) := fun i hi => by rw [hall i hi, decide_eq_true (by omega)]
      exact tail_any hbk htl (ops.size - k) k 0 listed a w (by omega) (Nat.le_refl _) (by omega) hs hlist (hfin vals a w listed hst hv (fun i hi => hj i (hall i (by omega))) hD hlist)
    | succ fuel ih =>
      intro listed vals a w hD hs hst hv hcl hj hlk hf
      by_cases hall : ∀ i, i < k → listed.getD i false = true
      · have hlist : ∀ i, i < ops.size → listed.getD i false = decide (i < k) := fun i hi => by
          by_cases h : i < k
          · rw [hall i h, decide_eq_true h]
          · rw [decide_eq_false h]
            rcases hh : listed.getD i false with _ | _
            · rfl
            · exact absurd (hlk i hh) h
        have hle : ops.size - k ≤ fuel + 1 := by
          have h1 : (List.range' k (ops.size - k)).countP (fun i => !listed.getD i true) = ops.size - k := by
            refine Eq.trans (List.countP_eq_length.2 fun i hi => ?_) (by simp)
            obtain ⟨h2, h3⟩ := List.mem_range'_1.1 hi
            rw [getD_tf hs (by omega), hlist i (by omega), decide_eq_false (by omega)]; rfl
          have h2 : left ops.size listed = (List.range' 0 k).countP (fun i => !listed.getD i true) + (List.range' k (ops.size - k)).countP (fun i => !listed.getD i true) := by
            unfold left
            rw [List.range_eq_range', ← List.countP_append]
            congr 1
            have := List.range'_append_1 (s := 0) (m := k) (n := ops.size - k)
            rw [Nat.zero_add] at this
            rw [this]; congr 1; omega
          omega
        exact tail_any hbk htl (ops.size - k) k (fuel + 1) listed a w (by omega) (Nat.le_refl _) hle hs hlist (hfin vals a w listed hst hv (fun i hi => hj i (hall i hi)) hD hlist)
      · have hpick : ∀ i, i ∈ Region.ready .any ops listed → i < k := by
          intro i hi
          rcases Nat.lt_or_ge i k with h1 | h1
          · exact h1
          · exact absurd (fun j hj => tail_waits htl (List.mem_range.1 (List.mem_filter.1 hi).1) h1 (by omega) (.inl hj) hi) hall
        refine ⟨fun h0 => ?_, fun i hi => ?_⟩
        · exfalso
          apply hall
          intro i hi
          rw [← getD_tf hs (by omega)]
          rcases h : listed.getD i true with _ | _
          · obtain ⟨j, hjm⟩ := ready_least hbk listed hs i (by omega) h
            rw [h0] at hjm; cases hjm
          · rfl
        · have hik := hpick i hi
          obtain ⟨hir, hc⟩ := List.mem_filter.1 hi
          have hin := List.mem_range.1 hir
          have hop : ops[i]? = some ops[i] := Array.getElem?_eq_getElem hin
          rw [hop] at hc
          simp only [Option.map_some, Option.getD_some, Bool.and_eq_true, Bool.not_eq_true', Array.all_eq_true'] at hc
          obtain ⟨hun, haft⟩ := hc
          have haft' : ∀ e ∈ ops[i].after, Region.binds .any e = true → listed.getD e.on false = true := fun e he hb => by
            have := haft e he
            rw [hb] at this
            simpa using this
          have hstep := hobl i _ hik hop listed vals a w (wpAny P .any ops Q fuel (listed.setIfInBounds i true)) hD hst hv hcl hj haft' hun (fun v w' hsw hvw hjv => by
            have hset : (fun j => (listed.setIfInBounds i true).getD j false) = fun j => if j = i then true else listed.getD j false := by
              funext j
              rw [Array.getD_eq_getD_getElem?, Array.getElem?_setIfInBounds]
              by_cases e : i = j
              · subst e; rw [if_pos rfl, if_pos (by omega), if_pos rfl]; rfl
              · rw [if_neg e, if_neg (fun x => e x.symm), Array.getD_eq_getD_getElem?]
            have hget : ∀ j, (listed.setIfInBounds i true).getD j false = true → j ≠ i → listed.getD j false = true := by
              intro j hjl e
              have := congrFun hset j
              simp only [if_neg e] at this
              rw [← this]; exact hjl
            refine ih (listed.setIfInBounds i true) (fun j => if j = i then v else vals j) _ w' (done_step hap hop hD hun v) (by simpa using hs) (ht _ _ _ hst hsw) (by rw [hset]; exact hvw) (closed_step hop hcl haft' (by omega)) (fun j hjl => ?_) (fun j hjl => ?_) ?_
            · by_cases e : j = i
              · subst e; rw [if_pos rfl]; exact hjv
              · rw [if_neg e]
                have hjf := hget j hjl e
                exact hJ j _ _ _ (hlk j hjf) hst hsw (hj j hjf)
            · by_cases e : j = i
              · subst e; exact hik
              · exact hlk j (hget j hjl e)
            · have := left_step hs hin hun
              omega)
          unfold wpOp
          simp only [hop]
          unfold StepTo at hstep
          split
          · rename_i hw
            rw [if_pos hw] at hstep
            exact .inl hstep
          · rename_i hw
            rw [if_neg hw] at hstep
            exact hstep
  have h0 : left ops.size (Array.replicate ops.size false) ≤ ops.size := by
    unfold left
    exact Nat.le_trans List.countP_le_length (by simp)
  have hno' : ∀ j, (Array.replicate ops.size false).getD j false = false := by
    intro j
    rw [Array.getD_eq_getD_getElem?, Array.getElem?_replicate]
    split <;> rfl
  have hno : ∀ j, (Array.replicate ops.size false).getD j false = true → False := fun j hj => by rw [hno' j] at hj; cases hj
  refine main ops.size (Array.replicate ops.size false) (fun _ => undef) a0 w0.drew ⟨rfl, rfl, fun i d h => (hno i h).elim, fun s _ => rfl⟩ (by simp) hdraw ?_ (fun j o' _ h => (hno j h).elim) (fun j hj => (hno j hj).elim) (fun j hj => (hno j hj).elim) h0
  rw [show (fun j => (Array.replicate ops.size false).getD j false) = fun _ => false from funext hno']
  exact hV
end
end Go.Proofs.Ytainkpgplmkiaaa.Rgw
