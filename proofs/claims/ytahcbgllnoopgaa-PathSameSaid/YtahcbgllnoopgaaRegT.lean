/-
  A region that draws its order, whose last operations (an append, a store) each wait for all ahead of them: what draws is walked by what each operation yields, the rest in order. No program. By an AI agent.
-/
import Derived.Test.YtahcbgllnoopgaaRound
namespace Go.Proofs.Ytahcbgllnoopgaa
open Go.RowKit

/-- Each operation from m on waits for all before it. -/
def chkSeq (ops : Array Oper) (m : Nat) : Bool :=
  (List.range ops.size).all fun i => decide (i < m) || (List.range i).all fun j => (marked ops i).contains j

section
variable {P : Program} {ops : Array Oper} {Q : Exit → Act → World → Prop} {a0 : Act}

theorem rend_upto {Q' : Exit → Act → World → Prop} {V : Nat → Value → World → Prop} (hc : chkReg ops a0.tmps.size = true) {w : World} {a : Act} {m : Nat} (hm : m ≤ ops.size) (hdef : a.defers = a0.defers) (hsz : a.tmps.size = a0.tmps.size)
    (hval : ∀ j d, j < m → (ops[j]?).bind (·.dst) = some d → V j (a.tmps.getD d undef) w) :
    ∀ (l : List Oper) (k : Nat) (b : Act), (∀ j, l[j]? = if k + j < m then ops[k + j]? else none) → b.defers = a0.defers → b.tmps.size = a0.tmps.size →
      (∀ t, (∀ j, k ≤ j → j < m → (ops[j]?).bind (·.dst) ≠ some t) → b.tmps.getD t undef = a.tmps.getD t undef) → REnd Q' V l k b w → Q' .normal a w := by
  intro l
  induction l with
  | nil =>
    intro k b hl hb hbs hsame hend
    have hk : m ≤ k := by
      have := hl 0
      rw [Nat.add_zero] at this
      by_cases h : k < m
      · rw [if_pos h, Array.getElem?_eq_getElem (by omega)] at this
        simp at this
      · omega
    have : b = a := by
      have ht : b.tmps = a.tmps := by
        apply Array.ext (hbs.trans hsz.symm)
        intro i h1 h2
        have := hsame i (fun j hj hj2 => by omega)
        rw [Array.getD_eq_getD_getElem?, Array.getD_eq_getD_getElem?, Array.getElem?_eq_getElem h1, Array.getElem?_eq_getElem h2] at this
        simpa using this
      cases a; cases b
      simp only at ht hb hdef ⊢
      rw [ht, hb, hdef]
    rw [← this]; exact hend
  | cons o l ih =>
    intro k b hl hb hbs hsame hend
    have hkm : k < m := by
      have := hl 0
      rw [Nat.add_zero] at this
      by_cases h : k < m
      · exact h
      · rw [if_neg h] at this; simp at this
    have ho : ops[k]? = some o := by have := hl 0; rw [Nat.add_zero, if_pos hkm] at this; simpa using this.symm
    have hl' : ∀ j, l[j]? = if k + 1 + j < m then ops[k + 1 + j]? else none := fun j => by
      have := hl (j + 1)
      simp only [List.getElem?_cons_succ] at this
      rw [this, show k + (j + 1) = k + 1 + j by omega]
    unfold REnd at hend
    cases hd : o.dst with
    | none =>
      rw [hd] at hend
      refine ih (k + 1) b hl' hb hbs (fun t ht => hsame t (fun j hj hj2 => ?_)) hend
      by_cases hjk : j = k
      · subst hjk; rw [ho]; simp [hd]
      · exact ht j (by omega) hj2
    | some d =>
      rw [hd] at hend
      have hod : (ops[k]?).bind (·.dst) = some d := by rw [ho]; exact hd
      have hdn := chk_dst hc hod
      refine ih (k + 1) (b.put (some d) (a.tmps.getD d undef)) hl' ((defers_put _ _ _).trans hb) ((size_put _ _ _).trans hbs) (fun t ht => ?_) (hend _ (hval k d hkm hod))
      rw [tmps_put _ _ _ _ (by rw [hbs]; exact hdn.1)]
      split
      · rename_i h; rw [h]
      · rename_i h
        refine hsame t (fun j hj hj2 => ?_)
        by_cases hjk : j = k
        · subst hjk; rw [hod]; intro e; injection e with e; exact h e.symm
        · exact ht j (by omega) hj2

theorem seq_of {m i : Nat} (h : chkSeq ops m = true) (hi : i < ops.size) (hm : m ≤ i) : ∀ j, j < i → j ∈ marked ops i := by
  intro j hj
  have := List.all_eq_true.1 h i (List.mem_range.2 hi)
  rw [decide_eq_false (by omega), Bool.false_or] at this
  have := List.all_eq_true.1 this j (List.mem_range.2 hj)
  simpa using this

/-- The rest, in order. -/
theorem wpAny_rest {n0 m : Nat} (hc : chkReg ops n0 = true) (htl : chkSeq ops m = true) : ∀ (fuel k : Nat) (listed : Array Bool) (a : Act) (w : World), m ≤ k → k ≤ ops.size → listed.size = ops.size → (∀ j, listed.getD j false = decide (j < k)) → ops.size - k ≤ fuel →
    wpOps P ops Q (List.range' k (ops.size - k)) a w → wpAny P .any ops Q fuel listed a w := by
  have hone : ∀ (k : Nat) (listed : Array Bool), m ≤ k → listed.size = ops.size → (∀ j, listed.getD j false = decide (j < k)) → ∀ i ∈ Region.ready .any ops listed, i = k := by
    intro k listed hmk hs hl i hi
    obtain ⟨h1, h2, h3⟩ := ready_mem hi hs
    have hki : ¬ i < k := by rw [hl] at h2; exact of_decide_eq_false h2
    rcases Nat.lt_or_ge k i with h | h
    · exfalso
      have hcl : ∀ j o, listed.getD j false = true → ops[j]? = some o → ∀ e ∈ o.after, Region.binds .any e = true → listed.getD e.on false = true := fun j o hj ho e he hb => by
        rw [hl] at hj ⊢
        have := of_decide_eq_true hj
        have := chk_back hc ho e he hb
        exact decide_eq_true (by omega)
      rcases marked_ready hcl h3 k (seq_of htl h1 (by omega) k h) with e | e
      · omega
      · rw [hl] at e
        have := of_decide_eq_true e
        omega
    · omega
  have hnil : ∀ (listed : Array Bool), listed.size = ops.size → (∀ j, listed.getD j false = decide (j < ops.size)) → Region.ready .any ops listed = [] := by
    intro listed hs hl
    cases hr : Region.ready .any ops listed with
    | nil => rfl
    | cons i rs =>
      exfalso
      obtain ⟨h1, h2, _⟩ := ready_mem (i := i) (by rw [hr]; exact List.mem_cons_self) hs
      rw [hl, decide_eq_true h1] at h2
      cases h2
  intro fuel
  induction fuel with
  | zero =>
    intro k listed a w hmk hk hs hl hf h
    obtain rfl : k = ops.size := by omega
    rw [Nat.sub_self] at h
    exact ⟨hnil listed hs hl, h⟩
  | succ fuel ih =>
    intro k listed a w hmk hk hs hl hf h
    refine ⟨fun hr => ?_, fun i hi => ?_⟩
    · rcases Nat.lt_or_ge k ops.size with hlt | hge
      · have := ready_nil hc hr hs k hlt
        rw [hl] at this
        have := of_decide_eq_true this
        omega
      · obtain rfl : k = ops.size := by omega
        rw [Nat.sub_self] at h
        exact h
    · obtain rfl := hone k listed hmk hs hl i hi
      obtain ⟨h1, _, _⟩ := ready_mem hi hs
      rw [show ops.size - i = (ops.size - (i + 1)) + 1 by omega, List.range'_succ, wpOps_cons] at h
      refine wpOp_mono (fun a w hh => ih (i + 1) _ a w (by omega) (by omega) (by rw [Array.size_setIfInBounds]; exact hs) (fun j => ?_) (by omega) hh) h
      rw [getD_set _ _ _ (by rw [hs]; exact h1), hl]
      by_cases hj : j = i
      · subst hj; simp
      · rw [decide_eq_false hj, Bool.false_or]
        exact decide_eq_decide.2 (by omega)

/-- What is owed for operation i, ahead of the rest. -/
def TStep (P : Program) (ops : Array Oper) (Q : Exit → Act → World → Prop) (V : Nat → Value → World → Prop) (G : World → Prop) (a0 : Act) (i : Nat) : Prop :=
  ∀ (a : Act) (w : World), G w → (∀ j d, isDep ops i j d = true → V j (a.tmps.getD d undef) w) → (∀ t, okSame ops i t = true → a.tmps.getD t undef = a0.tmps.getD t undef) →
    ∀ K : Act → World → Prop, (∀ v w', V i v w' → G w' → Below w.heap.size w w' → K (a.put ((ops[i]?).bind (·.dst)) v) w') → wpOp P ops Q i K a w

structure TInv (ops : Array Oper) (V : Nat → Value → World → Prop) (G : World → Prop) (a0 : Act) (m : Nat) (listed : Array Bool) (a : Act) (w : World) : Prop where
  g : G w
  lsize : listed.size = ops.size
  defers : a.defers = a0.defers
  size : a.tmps.size = a0.tmps.size
  val : ∀ j d, listed.getD j false = true → (ops[j]?).bind (·.dst) = some d → V j (a.tmps.getD d undef) w
  same : ∀ t, (∀ j, listed.getD j false = true → (ops[j]?).bind (·.dst) ≠ some t) → a.tmps.getD t undef = a0.tmps.getD t undef
  closed : ∀ j o, listed.getD j false = true → ops[j]? = some o → ∀ e ∈ o.after, Region.binds .any e = true → listed.getD e.on false = true
  low : ∀ j, listed.getD j false = true → j < m

theorem wpAny_then {V : Nat → Value → World → Prop} {G : World → Prop} {m : Nat} (hmn : m < ops.size) (hc : chkReg ops a0.tmps.size = true) (htl : chkSeq ops m = true)
    (hst : ∀ i v w w', V i v w → Below w.heap.size w w' → V i v w') (hstep : ∀ i, i < m → TStep P ops Q V G a0 i)
    (hend : ∀ w, G w → REnd (fun _ a w => wpOps P ops Q (List.range' m (ops.size - m)) a w) V (ops.toList.take m) 0 a0 w) :
    ∀ (fuel : Nat) (listed : Array Bool) (a : Act) (w : World), TInv ops V G a0 m listed a w → left listed ≤ fuel → wpAny P .any ops Q fuel listed a w := by
  have hno : ∀ (listed : Array Bool) (a : Act) (w : World), TInv ops V G a0 m listed a w → Region.ready .any ops listed ≠ [] := by
    intro listed a w hI hr
    have := hI.low _ (ready_nil hc hr hI.lsize m hmn)
    omega
  intro fuel
  induction fuel with
  | zero =>
    intro listed a w hI hl
    exfalso
    cases hr : Region.ready .any ops listed with
    | nil => exact hno listed a w hI hr
    | cons i rs =>
      obtain ⟨h1, h2, _⟩ := ready_mem (i := i) (by rw [hr]; exact List.mem_cons_self) hI.lsize
      have := left_set listed i (by rw [hI.lsize]; exact h1) h2
      omega
  | succ fuel ih =>
    intro listed a w hI hl
    refine ⟨fun hr => absurd hr (hno listed a w hI), fun i hi => ?_⟩
    obtain ⟨h1, h2, h3⟩ := ready_mem hi hI.lsize
    have ho : ops[i]? = some ops[i] := Array.getElem?_eq_getElem h1
    have hil : i < listed.size := by rw [hI.lsize]; exact h1
    have hlow := left_set listed i hil h2
    by_cases him : i < m
    · have hdep : ∀ j d, isDep ops i j d = true → listed.getD j false = true ∧ (ops[j]?).bind (·.dst) = some d := by
        intro j d hjd
        unfold isDep at hjd
        rw [ho] at hjd
        simp only [Option.map_some, Option.getD_some, Bool.and_eq_true, beq_iff_eq] at hjd
        obtain ⟨hany, hd⟩ := hjd
        obtain ⟨e, he, hon⟩ := Array.any_eq_true'.1 hany
        simp only [Bool.and_eq_true, beq_iff_eq] at hon
        exact ⟨by rw [← hon.1]; exact h3 _ ho e he hon.2, hd⟩
      refine hstep i him a w hI.g (fun j d hjd => hI.val j d (hdep j d hjd).1 (hdep j d hjd).2) (fun t ht => ?_) _ ?_
      rotate_left 1
      · intro v w' hv hg' hb
        refine ih _ _ _ ⟨hg', by rw [Array.size_setIfInBounds]; exact hI.lsize, (defers_put _ _ _).trans hI.defers, (size_put _ _ _).trans hI.size, fun j d hj hd => ?_, fun t ht => ?_, fun j o hj ho' e he hb' => ?_, fun j hj => ?_⟩ (by omega)
        · rw [getD_set _ _ _ hil] at hj
          by_cases hji : j = i
          · subst hji
            rw [hd, tmps_put _ _ _ _ (by rw [hI.size]; exact (chk_dst hc hd).1), if_pos rfl]
            exact hv
          · have hj' : listed.getD j false = true := by simpa [hji] using hj
            have hold := hst _ _ _ _ (hI.val j d hj' hd) hb
            cases hdi : (ops[i]?).bind (·.dst) with
            | none => exact hold
            | some di =>
              rw [tmps_put _ _ _ _ (by rw [hI.size]; exact (chk_dst hc hdi).1), if_neg (fun e => hji ((chk_dst hc hdi).2 j (by rw [← e]; exact hd)))]
              exact hold
        · have hti : (ops[i]?).bind (·.dst) ≠ some t := ht i (by rw [getD_set _ _ _ hil]; simp)
          have hold := hI.same t (fun j hj => ht j (by rw [getD_set _ _ _ hil, hj]; simp))
          cases hdi : (ops[i]?).bind (·.dst) with
          | none => exact hold
          | some di =>
            rw [tmps_put _ _ _ _ (by rw [hI.size]; exact (chk_dst hc hdi).1), if_neg (fun e => hti (by rw [hdi, e]))]
            exact hold
        · rw [getD_set _ _ _ hil] at hj ⊢
          by_cases hji : j = i
          · subst hji
            rw [h3 o ho' e he hb']; simp
          · have hj' : listed.getD j false = true := by simpa [hji] using hj
            rw [hI.closed j o hj' ho' e he hb']; simp
        · rw [getD_set _ _ _ hil] at hj
          by_cases hji : j = i
          · omega
          · exact hI.low j (by simpa [hji] using hj)
      · refine hI.same t (fun j hj hd => ?_)
        unfold okSame at ht
        have hjl : j < ops.size := by
          cases hj' : ops[j]? with
          | none => rw [hj'] at hd; cases hd
          | some _ => exact (Array.getElem?_eq_some_iff.1 hj').1
        have hoj : ops[j]? = some ops[j] := Array.getElem?_eq_getElem hjl
        have hh := List.all_eq_true.1 ht j (List.mem_range.2 hjl)
        rw [hoj] at hh hd
        have hd' : ops[j].dst = some t := hd
        simp only [hd', bne_self_eq_false, Bool.false_or] at hh
        obtain ⟨e, he, hon⟩ := Array.any_eq_true'.1 hh
        simp only [Bool.and_eq_true, beq_iff_eq] at hon
        have := hI.closed j _ hj hoj e he hon.2
        rw [hon.1, h2] at this
        cases this
    · have hall : ∀ j, j < i → listed.getD j false = true := fun j hj => by
        rcases marked_ready hI.closed h3 j (seq_of htl h1 (by omega) j hj) with e | e
        · omega
        · exact e
      obtain rfl : i = m := by
        rcases Nat.lt_or_ge m i with h | h
        · have := hI.low m (hall m h); omega
        · omega
      have hlf : ∀ j, listed.getD j false = decide (j < i) := fun j => by
        by_cases hj : j < i
        · rw [hall j hj, decide_eq_true hj]
        · rw [decide_eq_false hj]
          cases hjl : listed.getD j false with
          | false => rfl
          | true => exact absurd (hI.low j hjl) hj
      have hfin : wpOps P ops Q (List.range' i (ops.size - i)) a w := by
        refine rend_upto (Q' := fun _ a w => wpOps P ops Q (List.range' i (ops.size - i)) a w) (V := V) (m := i) hc (by omega) hI.defers hI.size (fun j d hj hd => hI.val j d (hall j hj) hd) (ops.toList.take i) 0 a0 (fun j => ?_) rfl rfl (fun t ht => ?_) (hend w hI.g)
        · rw [List.getElem?_take, Nat.zero_add]
          simp
        · exact (hI.same t (fun j hj => ht j (Nat.zero_le _) (hI.low j hj))).symm
      have hany := wpAny_rest (P := P) (Q := Q) hc htl (fuel + 1) i listed a w (Nat.le_refl _) (by omega) hI.lsize hlf (by
        have : left listed = ops.size - i := by
          unfold left
          rw [hI.lsize]
          have hf : (List.range ops.size).filter (fun j => !listed.getD j false) = (List.range ops.size).filter (fun j => decide (i ≤ j)) := by
            refine List.filter_congr fun j _ => ?_
            rw [hlf]
            by_cases hj : j < i
            · rw [decide_eq_true hj, decide_eq_false (by omega)]; rfl
            · rw [decide_eq_false hj, decide_eq_true (by omega)]; rfl
          rw [hf]
          have : ∀ n, ((List.range n).filter (fun j => decide (i ≤ j))).length = n - i := by
            intro n
            induction n with
            | zero => simp
            | succ n ihn =>
              rw [List.range_succ, List.filter_append, List.length_append, ihn]
              by_cases hin : i ≤ n
              · rw [List.filter_cons, if_pos (by simpa using hin)]
                simp only [List.filter_nil, List.length_cons, List.length_nil]
                omega
              · rw [List.filter_cons, if_neg (by simpa using hin)]
                simp only [List.filter_nil, List.length_nil]
                omega
          exact this _
        omega) hfin
      exact hany.2 i hi

theorem any_then {w : World} (n m : Nat) (Vs : List (Value → World → Prop)) (G : World → Prop) (hn : ops.size = n) (hmn : m < n) (hc : chkReg ops a0.tmps.size = true) (htl : chkSeq ops m = true) (hG : G w.drew) (hst : AllStab Vs)
    (hstep : AllFrom (TStep P ops Q (fun i => Vs.getD i fun _ _ => True) G a0) 0 m)
    (hend : ∀ w, G w → REnd (fun _ a w => wpOps P ops Q (List.range' m (n - m)) a w) (fun i => Vs.getD i fun _ _ => True) (ops.toList.take m) 0 a0 w) :
    wpAny P .any ops Q ops.size (Array.replicate ops.size false) a0 { w with drawn := w.drawn + 1 } := by
  subst hn
  have hfl : ∀ j, (Array.replicate ops.size false).getD j false = false := fun j => by
    rw [Array.getD_eq_getD_getElem?, Array.getElem?_replicate]; split <;> rfl
  refine wpAny_then hmn hc htl (fun i v w w' h hb => AllStab.get Vs hst i v w w' h hb) (fun i hi => AllFrom.get m 0 hstep i (Nat.zero_le _) (by omega)) hend ops.size _ a0 _ ⟨hG, by simp, rfl, rfl, fun j d hj => ?_, fun _ _ => rfl, fun j o hj => ?_, fun j hj => ?_⟩ ?_
  · rw [hfl] at hj; cases hj
  · rw [hfl] at hj; cases hj
  · rw [hfl] at hj; cases hj
  · unfold left
    refine Nat.le_trans (List.length_filter_le _ _) ?_
    simp

/-- THE REGION: its first m operations by what they yield, memory only growing; the rest in order. -/
theorem wp_region_then {id : Nat} {w : World} (n m : Nat) (Vs : List (Value → World → Prop)) (G : World → Prop) (hm : P.follows .mixedOrders = true) (hn : ops.size = n) (hmn : m < n) (hc : chkReg ops a0.tmps.size = true) (htl : chkSeq ops m = true) (hG : G w.drew) (hst : AllStab Vs)
    (hstep : AllFrom (TStep P ops Q (fun i => Vs.getD i fun _ _ => True) G a0) 0 m)
    (hend : ∀ w, G w → REnd (fun _ a w => wpOps P ops Q (List.range' m (n - m)) a w) (fun i => Vs.getD i fun _ _ => True) (ops.toList.take m) 0 a0 w) : (Code.region id ops true).wp P Q a0 w :=
  wp_region_any hm (any_then n m Vs G hn hmn hc htl hG hst hstep hend)
theorem wpIn_region_then {n9 l9 : Nat} (hQ9 : ¬ LetsOut Q) (hd9 : ops.all noDefer = true) {id : Nat} {w : World} (n m : Nat) (Vs : List (Value → World → Prop)) (G : World → Prop) (hm : P.follows .mixedOrders = true) (hn : ops.size = n) (hmn : m < n) (hc : chkReg ops a0.tmps.size = true) (htl : chkSeq ops m = true) (hG : G w.drew) (hst : AllStab Vs)
    (hstep : AllFrom (TStep P ops Q (fun i => Vs.getD i fun _ _ => True) G a0) 0 m)
    (hend : ∀ w, G w → REnd (fun _ a w => wpOps P ops Q (List.range' m (n - m)) a w) (fun i => Vs.getD i fun _ _ => True) (ops.toList.take m) 0 a0 w) : (Code.region id ops true).wpIn (Fence.wide.inRound l9) n9 P Q a0 w :=
  region_any_round hQ9 hd9 hm (any_then n m Vs G hn hmn hc htl hG hst hstep hend)
end
end Go.Proofs.Ytahcbgllnoopgaa
