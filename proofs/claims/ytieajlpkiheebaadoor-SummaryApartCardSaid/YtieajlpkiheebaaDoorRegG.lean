/-
  A region that draws its order, its operations' values known; what is known of the world may speak of which operations have run. No program. By an AI agent.
-/
import Derived.Test.YtieajlpkiheebaaDoorRegion
namespace Go.Proofs.YtieajlpkiheebaaDoor
open Go.RowKit

section
variable {P : Program} {ops : Array Oper} {Q : Exit → Act → World → Prop} {a0 : Act}
/-- What is owed for operation i; f: which have run. -/
def GStep (P : Program) (ops : Array Oper) (Q : Exit → Act → World → Prop) (vals : List Value) (G : (Nat → Bool) → World → Prop) (a0 : Act) (i : Nat) : Prop :=
  ∀ (f : Nat → Bool) (a : Act) (w : World), f i = false → (∀ j d, isDep ops i j d = true → f j = true) → G f w → (∀ j d, isDep ops i j d = true → a.tmps.getD d undef = vals.getD j undef) → (∀ t, okSame ops i t = true → a.tmps.getD t undef = a0.tmps.getD t undef) →
    ∀ K : Act → World → Prop, (∀ v w', v = vals.getD i undef → G (fun j => decide (j = i) || f j) w' → K (a.put ((ops[i]?).bind (·.dst)) v) w') → wpOp P ops Q i K a w

structure GInv (ops : Array Oper) (vals : List Value) (G : (Nat → Bool) → World → Prop) (a0 : Act) (listed : Array Bool) (a : Act) (w : World) : Prop where
  g : G (fun j => listed.getD j false) w
  lsize : listed.size = ops.size
  defers : a.defers = a0.defers
  size : a.tmps.size = a0.tmps.size
  val : ∀ j d, listed.getD j false = true → (ops[j]?).bind (·.dst) = some d → a.tmps.getD d undef = vals.getD j undef
  same : ∀ t, (∀ j, listed.getD j false = true → (ops[j]?).bind (·.dst) ≠ some t) → a.tmps.getD t undef = a0.tmps.getD t undef
  closed : ∀ j o, listed.getD j false = true → ops[j]? = some o → ∀ e ∈ o.after, Region.binds .any e = true → listed.getD e.on false = true

theorem wpAny_flags {vals : List Value} {G : (Nat → Bool) → World → Prop} (hc : chkReg ops a0.tmps.size = true) (hstep : ∀ i, i < ops.size → GStep P ops Q vals G a0 i)
    (hend : ∀ w, G (fun j => decide (j < ops.size)) w → REnd Q (fun i v _ => v = vals.getD i undef) ops.toList 0 a0 w) : ∀ (fuel : Nat) (listed : Array Bool) (a : Act) (w : World), GInv ops vals G a0 listed a w → left listed ≤ fuel → wpAny P .any ops Q fuel listed a w := by
  have hfin : ∀ (listed : Array Bool) (a : Act) (w : World), GInv ops vals G a0 listed a w → Region.ready .any ops listed = [] → Q .normal a w := by
    intro listed a w hI hr
    have hall := ready_nil hc hr hI.lsize
    have hlt : ∀ j d, (ops[j]?).bind (·.dst) = some d → j < ops.size := by
      intro j d hd
      cases hj : ops[j]? with
      | none => rw [hj] at hd; cases hd
      | some _ => exact (Array.getElem?_eq_some_iff.1 hj).1
    have hf : (fun j => listed.getD j false) = fun j => decide (j < ops.size) := by
      funext j
      by_cases hj : j < ops.size
      · rw [hall j hj, decide_eq_true hj]
      · rw [Array.getD_eq_getD_getElem?, Array.getElem?_eq_none (by rw [hI.lsize]; omega), decide_eq_false hj]; rfl
    refine rend_of (V := fun i v _ => v = vals.getD i undef) hc hI.defers hI.size (fun j d hd => hI.val j d (hall j (hlt j d hd)) hd) ops.toList 0 a0 (fun j => by simp) rfl rfl (fun t ht => ?_) (hend w (by rw [← hf]; exact hI.g))
    exact (hI.same t (fun j _ => ht j (Nat.zero_le _))).symm
  intro fuel
  induction fuel with
  | zero =>
    intro listed a w hI hl
    have hr : Region.ready .any ops listed = [] := by
      cases hr : Region.ready .any ops listed with
      | nil => rfl
      | cons i rs =>
        exfalso
        obtain ⟨h1, h2, _⟩ := ready_mem (i := i) (by rw [hr]; exact List.mem_cons_self) hI.lsize
        have := left_set listed i (by rw [hI.lsize]; exact h1) h2
        omega
    exact ⟨hr, hfin listed a w hI hr⟩
  | succ fuel ih =>
    intro listed a w hI hl
    refine ⟨hfin listed a w hI, fun i hi => ?_⟩
    obtain ⟨h1, h2, h3⟩ := ready_mem hi hI.lsize
    have ho : ops[i]? = some ops[i] := Array.getElem?_eq_getElem h1
    have hil : i < listed.size := by rw [hI.lsize]; exact h1
    have hdep : ∀ j d, isDep ops i j d = true → listed.getD j false = true ∧ (ops[j]?).bind (·.dst) = some d := by
      intro j d hjd
      unfold isDep at hjd
      rw [ho] at hjd
      simp only [Option.map_some, Option.getD_some, Bool.and_eq_true, beq_iff_eq] at hjd
      obtain ⟨hany, hd⟩ := hjd
      obtain ⟨e, he, hon⟩ := Array.any_eq_true'.1 hany
      simp only [Bool.and_eq_true, beq_iff_eq] at hon
      exact ⟨by rw [← hon.1]; exact h3 _ ho e he hon.2, hd⟩
    refine hstep i h1 (fun j => listed.getD j false) a w h2 (fun j d hjd => (hdep j d hjd).1) hI.g (fun j d hjd => hI.val j d (hdep j d hjd).1 (hdep j d hjd).2) (fun t ht => ?_) _ ?_
    rotate_left 1
    · intro v w' hv hg'
      have hlow := left_set listed i hil h2
      have hf : (fun j => (listed.setIfInBounds i true).getD j false) = fun j => decide (j = i) || listed.getD j false := by
        funext j; exact getD_set _ _ _ hil
      refine ih _ _ _ ⟨by rw [hf]; exact hg', by rw [Array.size_setIfInBounds]; exact hI.lsize, (defers_put _ _ _).trans hI.defers, (size_put _ _ _).trans hI.size, fun j d hj hd => ?_, fun t ht => ?_, fun j o hj ho' e he hb => ?_⟩ (by omega)
      · rw [getD_set _ _ _ hil] at hj
        by_cases hji : j = i
        · subst hji
          rw [hd, tmps_put _ _ _ _ (by rw [hI.size]; exact (chk_dst hc hd).1), if_pos rfl]
          exact hv
        · have hj' : listed.getD j false = true := by simpa [hji] using hj
          have hold := hI.val j d hj' hd
          cases hdi : (ops[i]?).bind (·.dst) with
          | none => exact hold
          | some di =>
            rw [tmps_put _ _ _ _ (by rw [hI.size]; exact (chk_dst hc hdi).1), if_neg (fun e => hji ((chk_dst hc hdi).2 j (by rw [← e]; exact hd)))]
            exact hold
      · have hti : (ops[i]?).bind (·.dst) ≠ some t := ht i (by rw [getD_set _ _ _ hil]; simp)
        have hold := hI.same t (fun j hj => ht j (by rw [getD_set _ _ _ hil, hj]; simp))
        cases hdi : (ops[i]?).bind (·.dst) with
        | none => exact hold
        | some di =>
          rw [tmps_put _ _ _ _ (by rw [hI.size]; exact (chk_dst hc hdi).1), if_neg (fun e => hti (by rw [hdi, e]))]
          exact hold
      · rw [getD_set _ _ _ hil] at hj ⊢
        by_cases hji : j = i
        · subst hji
          rw [h3 o ho' e he hb]; simp
        · have hj' : listed.getD j false = true := by simpa [hji] using hj
          rw [hI.closed j o hj' ho' e he hb]; simp
    · refine hI.same t (fun j hj hd => ?_)
      unfold okSame at ht
      have hjl : j < ops.size := by
        cases hj' : ops[j]? with
        | none => rw [hj'] at hd; cases hd
        | some _ => exact (Array.getElem?_eq_some_iff.1 hj').1
      have hoj : ops[j]? = some ops[j] := Array.getElem?_eq_getElem hjl
      have hh := List.all_eq_true.1 ht j (List.mem_range.2 hjl)
      rw [hoj] at hh hd
      have hd' : ops[j].dst = some t := hd
      simp only [hd', bne_self_eq_false, Bool.false_or] at hh
      obtain ⟨e, he, hon⟩ := Array.any_eq_true'.1 hh
      simp only [Bool.and_eq_true, beq_iff_eq] at hon
      have := hI.closed j _ hj hoj e he hon.2
      rw [hon.1, h2] at this
      cases this

/-- THE REGION. -/
theorem wp_region_flags {id : Nat} {w : World} (n : Nat) (vals : List Value) (G : (Nat → Bool) → World → Prop) (hm : P.follows .mixedOrders = true) (hn : ops.size = n) (hc : chkReg ops a0.tmps.size = true) (hG : G (fun _ => false) w.drew)
    (hstep : AllFrom (GStep P ops Q vals G a0) 0 n) (hend : ∀ w, G (fun j => decide (j < n)) w → REnd Q (fun i v _ => v = vals.getD i undef) ops.toList 0 a0 w) : (Code.region id ops true).wp P Q a0 w := by
  subst hn
  have hfl : ∀ j, (Array.replicate ops.size false).getD j false = false := fun j => by
    rw [Array.getD_eq_getD_getElem?, Array.getElem?_replicate]; split <;> rfl
  have hf : (fun j => (Array.replicate ops.size false).getD j false) = fun _ => false := by funext j; exact hfl j
  refine wp_region_any hm (wpAny_flags hc (fun i hi => AllFrom.get ops.size 0 hstep i (Nat.zero_le _) (by omega)) hend ops.size _ a0 _ ⟨by rw [hf]; exact hG, by simp, rfl, rfl, fun j d hj => ?_, fun _ _ => rfl, fun j o hj => ?_⟩ ?_)
  · rw [hfl] at hj; cases hj
  · rw [hfl] at hj; cases hj
  · unfold left
    refine Nat.le_trans (List.length_filter_le _ _) ?_
    simp
end
end Go.Proofs.YtieajlpkiheebaaDoor
