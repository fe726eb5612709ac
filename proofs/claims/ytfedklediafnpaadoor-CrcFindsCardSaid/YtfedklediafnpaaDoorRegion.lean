/-
  A region that draws its order, by what each operation yields: every operation has a predicate of its value that later worlds keep; each is shown once, in whatever state its forerunners leave; so the region is walked once, not once an order. No program. By an AI agent.
-/
import Derived.Test.YtfedklediafnpaaDoorBase
import Derived.Orders
namespace Go.Proofs.YtfedklediafnpaaDoor
open Go.RowKit

/-- Operation j, which writes slot d, is an edge of operation i. -/
def isDep (ops : Array Oper) (i j d : Nat) : Bool :=
  ((ops[i]?).map fun o => o.after.any fun e => e.on == j && Region.binds .any e).getD false && ((ops[j]?).bind (·.dst) == some d)
/-- Slot t has not been written when operation i runs: who writes it waits for i. -/
def okSame (ops : Array Oper) (i t : Nat) : Bool :=
  (List.range ops.size).all fun j => match ops[j]? with
    | some o => o.dst != some t || o.after.any fun e => e.on == i && Region.binds .any e
    | none => true
/-- Every slot has one writer, inside the frame; edges lead back. -/
def chkReg (ops : Array Oper) (n : Nat) : Bool :=
  (List.range ops.size).all fun j => match ops[j]? with
    | some o => (match o.dst with
        | some d => decide (d < n) && (List.range ops.size).all fun k => k == j || (ops[k]?).bind (·.dst) != some d
        | none => true) && o.after.all fun e => !Region.binds .any e || decide (e.on < j)
    | none => true

/-- What is owed for operation i. -/
def RStep (P : Program) (ops : Array Oper) (Q : Exit → Act → World → Prop) (V : Nat → Value → World → Prop) (G : World → Prop) (E : World → World → Prop) (a0 : Act) (i : Nat) : Prop :=
  ∀ (a : Act) (w : World), G w → (∀ j d, isDep ops i j d = true → V j (a.tmps.getD d undef) w) → (∀ t, okSame ops i t = true → a.tmps.getD t undef = a0.tmps.getD t undef) →
    ∀ K : Act → World → Prop, (∀ v w', V i v w' → G w' → E w w' → K (a.put ((ops[i]?).bind (·.dst)) v) w') → wpOp P ops Q i K a w

/-- Behind the region: the slots hold what was yielded. -/
def REnd (Q : Exit → Act → World → Prop) (V : Nat → Value → World → Prop) : List Oper → Nat → Act → World → Prop
  | [], _, a, w => Q .normal a w
  | o :: os, i, a, w => match o.dst with
    | some d => ∀ v, V i v w → REnd Q V os (i + 1) (a.put (some d) v) w
    | none => REnd Q V os (i + 1) a w

section
variable {P : Program} {ops : Array Oper} {Q : Exit → Act → World → Prop} {V : Nat → Value → World → Prop} {G : World → Prop} {E : World → World → Prop} {a0 : Act}

structure RInv (ops : Array Oper) (V : Nat → Value → World → Prop) (G : World → Prop) (a0 : Act) (listed : Array Bool) (a : Act) (w : World) : Prop where
  g : G w
  lsize : listed.size = ops.size
  defers : a.defers = a0.defers
  size : a.tmps.size = a0.tmps.size
  val : ∀ j d, listed.getD j false = true → (ops[j]?).bind (·.dst) = some d → V j (a.tmps.getD d undef) w
  same : ∀ t, (∀ j, listed.getD j false = true → (ops[j]?).bind (·.dst) ≠ some t) → a.tmps.getD t undef = a0.tmps.getD t undef
  closed : ∀ j o, listed.getD j false = true → ops[j]? = some o → ∀ e ∈ o.after, Region.binds .any e = true → listed.getD e.on false = true

def left (listed : Array Bool) : Nat := ((List.range listed.size).filter fun i => !listed.getD i false).length

theorem getD_set (l : Array Bool) (i j : Nat) (h : i < l.size) : (l.setIfInBounds i true).getD j false = (decide (j = i) || l.getD j false) := by
  rw [Array.getD_eq_getD_getElem?, Array.getD_eq_getD_getElem?, Array.getElem?_setIfInBounds]
  by_cases hj : i = j
  · subst hj; simp [h]
  · simp [hj, Ne.symm hj]
theorem tmps_put (a : Act) (d t : Nat) (v : Value) (h : d < a.tmps.size) : (a.put (some d) v).tmps.getD t undef = if t = d then v else a.tmps.getD t undef := by
  show (a.tmps.setIfInBounds d v).getD t undef = _
  rw [Array.getD_eq_getD_getElem?, Array.getD_eq_getD_getElem?, Array.getElem?_setIfInBounds]
  by_cases hj : d = t
  · subst hj; simp [h]
  · simp [hj, Ne.symm hj]
theorem size_put (a : Act) (d : Option Tmp) (v : Value) : (a.put d v).tmps.size = a.tmps.size := by
  cases d <;> simp [Act.put]
theorem defers_put (a : Act) (d : Option Tmp) (v : Value) : (a.put d v).defers = a.defers := by
  cases d <;> rfl

theorem filter_lt {l : List Nat} {p q : Nat → Bool} {i : Nat} (hi : i ∈ l) (hp : p i = true) (hq : q i = false) (hqp : ∀ j, q j = true → p j = true) : (l.filter q).length < (l.filter p).length := by
  induction l with
  | nil => cases hi
  | cons x l ih =>
    have hle : ∀ m : List Nat, (m.filter q).length ≤ (m.filter p).length := by
      intro m
      induction m with
      | nil => simp
      | cons y m ihm =>
        rw [List.filter_cons, List.filter_cons]
        by_cases hy : q y = true
        · rw [if_pos hy, if_pos (hqp y hy)]; simpa using ihm
        · rw [if_neg hy]
          split
          · simp only [List.length_cons]; omega
          · exact ihm
    rw [List.filter_cons, List.filter_cons]
    rcases List.mem_cons.1 hi with rfl | hm
    · rw [if_neg (by simp [hq]), if_pos hp]
      have := hle l
      simp only [List.length_cons]; omega
    · have := ih hm
      by_cases hx : q x = true
      · rw [if_pos hx, if_pos (hqp x hx)]; simpa using this
      · rw [if_neg hx]
        split
        · simp only [List.length_cons]; omega
        · exact this

theorem left_set (listed : Array Bool) (i : Nat) (hi : i < listed.size) (hn : listed.getD i false = false) : left (listed.setIfInBounds i true) < left listed := by
  unfold left
  rw [Array.size_setIfInBounds]
  refine filter_lt (i := i) (List.mem_range.2 hi) (by simp [hn]) (by rw [getD_set _ _ _ hi]; simp) (fun j hj => ?_)
  rw [getD_set _ _ _ hi] at hj
  simp at hj ⊢
  exact hj.2

theorem chk_dst {n j d : Nat} (h : chkReg ops n = true) (hd : (ops[j]?).bind (·.dst) = some d) : d < n ∧ ∀ k, (ops[k]?).bind (·.dst) = some d → k = j := by
  cases ho : ops[j]? with
  | none => rw [ho] at hd; cases hd
  | some o =>
    rw [ho] at hd
    have hjl : j < ops.size := (Array.getElem?_eq_some_iff.1 ho).1
    have hj := List.all_eq_true.1 h j (List.mem_range.2 hjl)
    simp only [ho] at hj
    have hd' : o.dst = some d := hd
    rw [hd'] at hj
    simp only [Bool.and_eq_true, decide_eq_true_eq] at hj
    refine ⟨hj.1.1, fun k hk => ?_⟩
    have hkl : k < ops.size := by
      cases hk' : ops[k]? with
      | none => rw [hk'] at hk; cases hk
      | some _ => exact (Array.getElem?_eq_some_iff.1 hk').1
    have := List.all_eq_true.1 hj.1.2 k (List.mem_range.2 hkl)
    rw [hk] at this
    simpa using this
theorem chk_back {n j : Nat} {o : Oper} (h : chkReg ops n = true) (ho : ops[j]? = some o) : ∀ e ∈ o.after, Region.binds .any e = true → e.on < j := by
  have hjl : j < ops.size := (Array.getElem?_eq_some_iff.1 ho).1
  have hj := List.all_eq_true.1 h j (List.mem_range.2 hjl)
  simp only [ho] at hj
  simp only [Bool.and_eq_true] at hj
  intro e he hb
  have := Array.all_eq_true'.1 hj.2 e he
  simpa [hb] using this

/-- What is ready has its edges listed, and is not listed. -/
theorem ready_mem {listed : Array Bool} {i : Nat} (h : i ∈ Region.ready .any ops listed) (hs : listed.size = ops.size) :
    i < ops.size ∧ listed.getD i false = false ∧ ∀ o, ops[i]? = some o → ∀ e ∈ o.after, Region.binds .any e = true → listed.getD e.on false = true := by
  unfold Region.ready at h
  obtain ⟨hr, hp⟩ := List.mem_filter.1 h
  have hi := List.mem_range.1 hr
  simp only [Bool.and_eq_true, Bool.not_eq_true'] at hp
  refine ⟨hi, ?_, fun o ho e he hb => ?_⟩
  · have := hp.1
    rw [Array.getD_eq_getD_getElem?, Array.getElem?_eq_getElem (by omega)] at this ⊢
    simpa using this
  · have h2 := hp.2
    rw [ho] at h2
    simp only [Option.map_some, Option.getD_some] at h2
    have := Array.all_eq_true'.1 h2 e he
    simpa [hb] using this

/-- Nothing ready: all is listed. -/
theorem ready_nil {n : Nat} {listed : Array Bool} (hc : chkReg ops n = true) (h : Region.ready .any ops listed = []) (hs : listed.size = ops.size) : ∀ i, i < ops.size → listed.getD i false = true := by
  intro i
  induction i using Nat.strongRecOn with
  | _ i ih =>
    intro hi
    by_cases hl : listed.getD i false = true
    · exact hl
    · exfalso
      have hm : i ∈ Region.ready .any ops listed := by
        unfold Region.ready
        refine List.mem_filter.2 ⟨List.mem_range.2 hi, ?_⟩
        have ho : ops[i]? = some ops[i] := Array.getElem?_eq_getElem hi
        rw [ho]
        simp only [Option.map_some, Option.getD_some, Bool.and_eq_true, Bool.not_eq_true']
        refine ⟨?_, Array.all_eq_true'.2 fun e he => ?_⟩
        · rw [Array.getD_eq_getD_getElem?, Array.getElem?_eq_getElem (by omega)] at hl ⊢
          simpa using hl
        · cases hb : Region.binds .any e with
          | false => rfl
          | true =>
            have hlt := chk_back hc ho e he hb
            simpa using ih e.on hlt (by omega)
      rw [h] at hm
      cases hm

theorem rend_of (hc : chkReg ops a0.tmps.size = true) {w : World} {a : Act} (hdef : a.defers = a0.defers) (hsz : a.tmps.size = a0.tmps.size)
    (hval : ∀ j d, (ops[j]?).bind (·.dst) = some d → V j (a.tmps.getD d undef) w) :
    ∀ (l : List Oper) (k : Nat) (b : Act), (∀ j, l[j]? = ops[k + j]?) → b.defers = a0.defers → b.tmps.size = a0.tmps.size →
      (∀ t, (∀ j, k ≤ j → (ops[j]?).bind (·.dst) ≠ some t) → b.tmps.getD t undef = a.tmps.getD t undef) → REnd Q V l k b w → Q .normal a w := by
  intro l
  induction l with
  | nil =>
    intro k b hl hb hbs hsame hend
    have hk : ops.size ≤ k := by
      have := hl 0
      simp at this
      exact this
    have : b = a := by
      have ht : b.tmps = a.tmps := by
        apply Array.ext (hbs.trans hsz.symm)
        intro i h1 h2
        have := hsame i (fun j hj => by rw [Array.getElem?_eq_none (by omega)]; simp)
        rw [Array.getD_eq_getD_getElem?, Array.getD_eq_getD_getElem?, Array.getElem?_eq_getElem h1, Array.getElem?_eq_getElem h2] at this
        simpa using this
      cases a; cases b
      simp only at ht hb hdef ⊢
      rw [ht, hb, hdef]
    rw [← this]; exact hend
  | cons o l ih =>
    intro k b hl hb hbs hsame hend
    have ho : ops[k]? = some o := by have := hl 0; simpa using this.symm
    have hl' : ∀ j, l[j]? = ops[k + 1 + j]? := fun j => by have := hl (j + 1); simp only [List.getElem?_cons_succ] at this; rw [this]; congr 1; omega
    unfold REnd at hend
    cases hd : o.dst with
    | none =>
      rw [hd] at hend
      refine ih (k + 1) b hl' hb hbs (fun t ht => hsame t (fun j hj => ?_)) hend
      by_cases hjk : j = k
      · subst hjk; rw [ho]; simp [hd]
      · exact ht j (by omega)
    | some d =>
      rw [hd] at hend
      have hod : (ops[k]?).bind (·.dst) = some d := by rw [ho]; exact hd
      have hdn := chk_dst hc hod
      refine ih (k + 1) (b.put (some d) (a.tmps.getD d undef)) hl' ((defers_put _ _ _).trans hb) ((size_put _ _ _).trans hbs) (fun t ht => ?_) (hend _ (hval k d hod))
      rw [tmps_put _ _ _ _ (by rw [hbs]; exact hdn.1)]
      by_cases htd : t = d
      · rw [if_pos htd, htd]
      · rw [if_neg htd]
        refine hsame t (fun j hj => ?_)
        by_cases hjk : j = k
        · subst hjk; rw [hod]; intro h; exact htd (by injection h with h; exact h.symm)
        · exact ht j (by omega)

theorem wpAny_vals (hc : chkReg ops a0.tmps.size = true) (hst : ∀ i v w w', V i v w → E w w' → V i v w') (hstep : ∀ i, i < ops.size → RStep P ops Q V G E a0 i)
    (hend : ∀ w, G w → REnd Q V ops.toList 0 a0 w) : ∀ (fuel : Nat) (listed : Array Bool) (a : Act) (w : World), RInv ops V G a0 listed a w → left listed ≤ fuel → wpAny P .any ops Q fuel listed a w := by
  have hfin : ∀ (listed : Array Bool) (a : Act) (w : World), RInv ops V G a0 listed a w → Region.ready .any ops listed = [] → Q .normal a w := by
    intro listed a w hI hr
    have hall := ready_nil hc hr hI.lsize
    refine rend_of hc hI.defers hI.size (fun j d hd => hI.val j d (hall j ?_) hd) ops.toList 0 a0 (fun j => by simp) rfl rfl (fun t ht => ?_) (hend w hI.g)
    · cases hj : ops[j]? with
      | none => rw [hj] at hd; cases hd
      | some _ => exact (Array.getElem?_eq_some_iff.1 hj).1
    · exact (hI.same t (fun j _ => ht j (Nat.zero_le _))).symm
  intro fuel
  induction fuel with
  | zero =>
    intro listed a w hI hl
    have hr : Region.ready .any ops listed = [] := by
      cases hr : Region.ready .any ops listed with
      | nil => rfl
      | cons i rs =>
        exfalso
        obtain ⟨h1, h2, _⟩ := ready_mem (i := i) (by rw [hr]; exact List.mem_cons_self) hI.lsize
        have := left_set listed i (by rw [hI.lsize]; exact h1) h2
        omega
    exact ⟨hr, hfin listed a w hI hr⟩
  | succ fuel ih =>
    intro listed a w hI hl
    refine ⟨hfin listed a w hI, fun i hi => ?_⟩
    obtain ⟨h1, h2, h3⟩ := ready_mem hi hI.lsize
    have ho : ops[i]? = some ops[i] := Array.getElem?_eq_getElem h1
    have hil : i < listed.size := by rw [hI.lsize]; exact h1
    refine hstep i h1 a w hI.g (fun j d hjd => ?_) (fun t ht => ?_) _ ?_
    rotate_left 2
    · intro v w' hv hg' hE
      have hlow := left_set listed i hil h2
      refine ih _ _ _ ⟨hg', by rw [Array.size_setIfInBounds]; exact hI.lsize, (defers_put _ _ _).trans hI.defers, (size_put _ _ _).trans hI.size, fun j d hj hd => ?_, fun t ht => ?_, fun j o hj ho' e he hb => ?_⟩ (by omega)
      · rw [getD_set _ _ _ hil] at hj
        by_cases hji : j = i
        · subst hji
          rw [hd, tmps_put _ _ _ _ (by rw [hI.size]; exact (chk_dst hc hd).1), if_pos rfl]
          exact hv
        · have hj' : listed.getD j false = true := by simpa [hji] using hj
          have hold := hst _ _ _ _ (hI.val j d hj' hd) hE
          cases hdi : (ops[i]?).bind (·.dst) with
          | none => exact hold
          | some di =>
            rw [tmps_put _ _ _ _ (by rw [hI.size]; exact (chk_dst hc hdi).1), if_neg (fun e => hji ((chk_dst hc hdi).2 j (by rw [← e]; exact hd)))]
            exact hold
      · have hti : (ops[i]?).bind (·.dst) ≠ some t := ht i (by rw [getD_set _ _ _ hil]; simp)
        have hold := hI.same t (fun j hj => ht j (by rw [getD_set _ _ _ hil, hj]; simp))
        cases hdi : (ops[i]?).bind (·.dst) with
        | none => exact hold
        | some di =>
          rw [tmps_put _ _ _ _ (by rw [hI.size]; exact (chk_dst hc hdi).1), if_neg (fun e => hti (by rw [hdi, e]))]
          exact hold
      · rw [getD_set _ _ _ hil] at hj ⊢
        by_cases hji : j = i
        · subst hji
          rw [h3 o ho' e he hb]; simp
        · have hj' : listed.getD j false = true := by simpa [hji] using hj
          rw [hI.closed j o hj' ho' e he hb]; simp
    · unfold isDep at hjd
      rw [ho] at hjd
      simp only [Option.map_some, Option.getD_some, Bool.and_eq_true, beq_iff_eq] at hjd
      obtain ⟨hany, hd⟩ := hjd
      obtain ⟨e, he, hon⟩ := Array.any_eq_true'.1 hany
      simp only [Bool.and_eq_true, beq_iff_eq] at hon
      exact hI.val j d (by rw [← hon.1]; exact h3 _ ho e he hon.2) hd
    · refine hI.same t (fun j hj hd => ?_)
      unfold okSame at ht
      have hjl : j < ops.size := by
        cases hj' : ops[j]? with
        | none => rw [hj'] at hd; cases hd
        | some _ => exact (Array.getElem?_eq_some_iff.1 hj').1
      have hoj : ops[j]? = some ops[j] := Array.getElem?_eq_getElem hjl
      have hh := List.all_eq_true.1 ht j (List.mem_range.2 hjl)
      rw [hoj] at hh hd
      have hd' : ops[j].dst = some t := hd
      simp only [hd', bne_self_eq_false, Bool.false_or] at hh
      obtain ⟨e, he, hon⟩ := Array.any_eq_true'.1 hh
      simp only [Bool.and_eq_true, beq_iff_eq] at hon
      have := hI.closed j _ hj hoj e he hon.2
      rw [hon.1, h2] at this
      cases this

/-- THE REGION. -/
theorem wp_region_vals {id : Nat} {w : World} (V : Nat → Value → World → Prop) (G : World → Prop) (E : World → World → Prop) (hm : P.follows .mixedOrders = true) (hc : chkReg ops a0.tmps.size = true) (hG : G w.drew)
    (hst : ∀ i v w w', V i v w → E w w' → V i v w') (hstep : ∀ i, i < ops.size → RStep P ops Q V G E a0 i) (hend : ∀ w, G w → REnd Q V ops.toList 0 a0 w) : (Code.region id ops true).wp P Q a0 w := by
  refine wp_region_any hm (wpAny_vals hc hst hstep hend ops.size _ a0 _ ⟨hG, by simp, rfl, rfl, fun j d hj => ?_, fun _ _ => rfl, fun j o hj => ?_⟩ ?_)
  · exfalso; rw [Array.getD_eq_getD_getElem?, Array.getElem?_replicate] at hj; split at hj <;> simp at hj
  · exfalso; rw [Array.getD_eq_getD_getElem?, Array.getElem?_replicate] at hj; split at hj <;> simp at hj
  · unfold left
    refine Nat.le_trans (List.length_filter_le _ _) ?_
    simp

/-- Predicates that later worlds keep. -/
def Stab (p : Value → World → Prop) : Prop := ∀ v w w', p v w → Below w.heap.size w w' → p v w'
theorem stab_eq (c : Value) : Stab fun v _ => v = c := fun _ _ _ h _ => h
theorem stab_bs (l : List UInt8) : Stab fun v w => Bs w w.heap.size v l := fun _ _ _ h hb => (h.ext (Nat.le_refl _) hb).more hb.size
theorem stab_bss (l : List (List UInt8)) : Stab fun v w => Bss w w.heap.size v l := fun _ _ _ h hb => (h.ext (Nat.le_refl _) hb).more hb.size
def AllStab : List (Value → World → Prop) → Prop
  | [] => True
  | p :: ps => Stab p ∧ AllStab ps
theorem AllStab.get : ∀ (l : List (Value → World → Prop)) (_ : AllStab l) (i : Nat), Stab (l.getD i fun _ _ => True)
  | [], _, i => by simp [List.getD]; exact fun _ _ _ h _ => h
  | p :: ps, h, 0 => h.1
  | p :: ps, h, i + 1 => AllStab.get ps h.2 i
def AllFrom (p : Nat → Prop) : Nat → Nat → Prop
  | _, 0 => True
  | k, n + 1 => p k ∧ AllFrom p (k + 1) n
theorem AllFrom.get {p : Nat → Prop} : ∀ (n k : Nat), AllFrom p k n → ∀ i, k ≤ i → i < k + n → p i
  | 0, k, _, i, h1, h2 => absurd h2 (by omega)
  | n + 1, k, h, i, h1, h2 => by
    by_cases hi : i = k
    · rw [hi]; exact h.1
    · exact AllFrom.get n (k + 1) h.2 i (by omega) (by omega)

/-- THE REGION, its operations' predicates in a list; memory only grows. -/
theorem wp_region_list {id : Nat} {w : World} (n : Nat) (Vs : List (Value → World → Prop)) (G : World → Prop) (hm : P.follows .mixedOrders = true) (hn : ops.size = n) (hc : chkReg ops a0.tmps.size = true) (hG : G w.drew) (hst : AllStab Vs)
    (hstep : AllFrom (RStep P ops Q (fun i => Vs.getD i fun _ _ => True) G (fun w w' => Below w.heap.size w w') a0) 0 n)
    (hend : ∀ w, G w → REnd Q (fun i => Vs.getD i fun _ _ => True) ops.toList 0 a0 w) : (Code.region id ops true).wp P Q a0 w :=
  wp_region_vals _ G _ hm hc hG (fun i v w w' h hb => AllStab.get Vs hst i v w w' h hb) (fun i hi => AllFrom.get n 0 hstep i (Nat.zero_le _) (by omega)) hend

/-- One operation, without a guard. -/
theorem wpOp_plain {i : Nat} {o : Oper} {K : Act → World → Prop} {a : Act} {w : World} (ho : ops[i]? = some o) (hg : o.guard = none) (h : o.wp P a w K Q) : wpOp P ops Q i K a w := by
  unfold wpOp
  rw [ho]
  simp only [Region.wanted, hg, if_true]
  exact .inl h
theorem slot_bool {a : Act} {d : Nat} {b : Bool} (hv : a.tmps.getD d undef = .bool b) : a.tmps[d]? = some (.bool b) := by
  rw [Array.getD_eq_getD_getElem?] at hv
  cases h : a.tmps[d]? with
  | none => rw [h] at hv; cases hv
  | some x => rw [h] at hv; exact congrArg some hv
/-- Its guard has yielded what it wants. -/
theorem wpOp_yes {i j d : Nat} {b : Bool} {o : Oper} {K : Act → World → Prop} {a : Act} {w : World} (ho : ops[i]? = some o) (hg : o.guard = some (j, b)) (hd : (ops[j]?).bind (·.dst) = some d) (hv : a.tmps.getD d undef = .bool b) (h : o.wp P a w K Q) : wpOp P ops Q i K a w := by
  have hy : yielded ops a.tmps j = some b := by simp [yielded, hd, slot_bool hv]
  unfold wpOp
  rw [ho]
  simp only [Region.wanted, hg, hy, beq_self_eq_true, if_true]
  exact .inl h
/-- Its guard has not. -/
theorem wpOp_no {i j d : Nat} {b : Bool} {o : Oper} {K : Act → World → Prop} {a : Act} {w : World} (ho : ops[i]? = some o) (hg : o.guard = some (j, b)) (hd : (ops[j]?).bind (·.dst) = some d) (hv : a.tmps.getD d undef = .bool (!b)) (h : K (a.put o.dst undef) w) : wpOp P ops Q i K a w := by
  have hy : yielded ops a.tmps j = some (!b) := by simp [yielded, hd, slot_bool hv]
  unfold wpOp
  rw [ho]
  have : ((some (!b) : Option Bool) == some b) = false := by cases b <;> rfl
  simp only [Region.wanted, hg, hy, this]
  exact h
end
end Go.Proofs.YtfedklediafnpaaDoor
