/-
  A region that draws its order, by what each operation yields: every operation has a predicate of its value that later worlds keep; each is shown once, in whatever state its forerunners leave; so the region is walked once, not once an order. No program. By an AI agent.
-/
import Derived.Test.YtahcbgllnoopgaaBase
import Derived.Orders
namespace Go.Proofs.Ytahcbgllnoopgaa
open Go.RowKit

/-- Operation j, which writes slot d, is an edge of operation i. -/
def isDep (ops : Array Oper) (i j d : Nat) : Bool :=
  ((ops[i]?).map fun o => o.after.any fun e => e.on == j && Region.binds .any e).getD false && ((ops[j]?).bind (·.dst) == some d)
/-- Slot t has not been written when operation i runs: who writes it waits for i. -/
def okSame (ops : Array Oper) (i t : Nat) : Bool :=
  (List.range ops.size).all fun j => match ops[j]? with
    | some o => o.dst != some t || o.after.any fun e => e.on == i && Region.binds .any e
    | none => true
/-- Every slot has one writer, inside the frame; edges lead back. -/
def chkReg (ops : Array Oper) (n : Nat) : Bool :=
  (List.range ops.size).all fun j => match ops[j]? with
    | some o => (match o.dst with
        | some d => decide (d < n) && (List.range ops.size).all fun k => k == j || (ops[k]?).bind (·.dst) != some d
        | none => true) && o.after.all fun e => !Region.binds .any e || decide (e.on < j)
    | none => true

/-- The operations that operation m waits for, of those before it. -/
def depsOf (ops : Array Oper) (j : Nat) : List Nat := ((ops[j]?).map fun o => (o.after.toList.filter (Region.binds .any ·)).map (·.on)).getD []
def marked (ops : Array Oper) (m : Nat) : List Nat := (List.range (m + 1)).reverse.foldl (fun S j => if S.contains j then S ++ depsOf ops j else S) [m]
/-- Operation m waits for all before it, and all behind it wait for it (or there is none such). -/
def chkTail (ops : Array Oper) (m : Nat) : Bool :=
  decide (ops.size ≤ m) || ((List.range m).all fun i => (marked ops m).contains i) && ((List.range ops.size).all fun i => decide (i ≤ m) || (marked ops i).contains m)

/-- What is owed for operation i. -/
def RStep (P : Program) (ops : Array Oper) (Q : Exit → Act → World → Prop) (V : Nat → Bool → Value → World → Prop) (G : Bool → World → Prop) (E : Bool → Act → World → World → Prop) (a0 : Act) (m i : Nat) : Prop :=
  ∀ (a : Act) (w : World), G (decide (m < i)) w → (∀ j d, isDep ops i j d = true → V j (decide (m < i)) (a.tmps.getD d undef) w) → (∀ t, okSame ops i t = true → a.tmps.getD t undef = a0.tmps.getD t undef) →
    ∀ K : Act → World → Prop, (∀ v w', V i (decide (m ≤ i)) v w' → G (decide (m ≤ i)) w' → E (decide (i = m)) a w w' → K (a.put ((ops[i]?).bind (·.dst)) v) w') → wpOp P ops Q i K a w

/-- Behind the region: the slots hold what was yielded. -/
def REnd (Q : Exit → Act → World → Prop) (V : Nat → Value → World → Prop) : List Oper → Nat → Act → World → Prop
  | [], _, a, w => Q .normal a w
  | o :: os, i, a, w => match o.dst with
    | some d => ∀ v, V i v w → REnd Q V os (i + 1) (a.put (some d) v) w
    | none => REnd Q V os (i + 1) a w

section
variable {P : Program} {ops : Array Oper} {Q : Exit → Act → World → Prop} {V : Nat → Bool → Value → World → Prop} {G : Bool → World → Prop} {E : Bool → Act → World → World → Prop} {a0 : Act} {m : Nat}

structure RInv (ops : Array Oper) (V : Nat → Bool → Value → World → Prop) (G : Bool → World → Prop) (a0 : Act) (m : Nat) (listed : Array Bool) (a : Act) (w : World) : Prop where
  g : G (listed.getD m false) w
  lsize : listed.size = ops.size
  defers : a.defers = a0.defers
  size : a.tmps.size = a0.tmps.size
  val : ∀ j d, listed.getD j false = true → (ops[j]?).bind (·.dst) = some d → V j (listed.getD m false) (a.tmps.getD d undef) w
  same : ∀ t, (∀ j, listed.getD j false = true → (ops[j]?).bind (·.dst) ≠ some t) → a.tmps.getD t undef = a0.tmps.getD t undef
  closed : ∀ j o, listed.getD j false = true → ops[j]? = some o → ∀ e ∈ o.after, Region.binds .any e = true → listed.getD e.on false = true

def left (listed : Array Bool) : Nat := ((List.range listed.size).filter fun i => !listed.getD i false).length

theorem getD_set (l : Array Bool) (i j : Nat) (h : i < l.size) : (l.setIfInBounds i true).getD j false = (decide (j = i) || l.getD j false) := by
  rw [Array.getD_eq_getD_getElem?, Array.getD_eq_getD_getElem?, Array.getElem?_setIfInBounds]
  by_cases hj : i = j
  · subst hj; simp [h]
  · simp [hj, Ne.symm hj]
theorem tmps_put (a : Act) (d t : Nat) (v : Value) (h : d < a.tmps.size) : (a.put (some d) v).tmps.getD t undef = if t = d then v else a.tmps.getD t undef := by
  show (a.tmps.setIfInBounds d v).getD t undef = _
  rw [Array.getD_eq_getD_getElem?, Array.getD_eq_getD_getElem?, Array.getElem?_setIfInBounds]
  by_cases hj : d = t
  · subst hj; simp [h]
  · simp [hj, Ne.symm hj]
theorem size_put (a : Act) (d : Option Tmp) (v : Value) : (a.put d v).tmps.size = a.tmps.size := by
  cases d <;> simp [Act.put]
theorem defers_put (a : Act) (d : Option Tmp) (v : Value) : (a.put d v).defers = a.defers := by
  cases d <;> rfl

theorem filter_lt {l : List Nat} {p q : Nat → Bool} {i : Nat} (hi : i ∈ l) (hp : p i = true) (hq : q i = false) (hqp : ∀ j, q j = true → p j = true) : (l.filter q).length < (l.filter p).length := by
  induction l with
  | nil => cases hi
  | cons x l ih =>
    have hle : ∀ m : List Nat, (m.filter q).length ≤ (m.filter p).length := by
      intro m
      induction m with
      | nil => simp
      | cons y m ihm =>
        rw [List.filter_cons, List.filter_cons]
        by_cases hy : q y = true
        · rw [if_pos hy, if_pos (hqp y hy)]; simpa using ihm
        · rw [if_neg hy]
          split
          · simp only [List.length_cons]; omega
          · exact ihm
    rw [List.filter_cons, List.filter_cons]
    rcases List.mem_cons.1 hi with rfl | hm
    · rw [if_neg (by simp [hq]), if_pos hp]
      have := hle l
      simp only [List.length_cons]; omega
    · have := ih hm
      by_cases hx : q x = true
      · rw [if_pos hx, if_pos (hqp x hx)]; simpa using this
      · rw [if_neg hx]
        split
        · simp only [List.length_cons]; omega
        · exact this

theorem left_set (listed : Array Bool) (i : Nat) (hi : i < listed.size) (hn : listed.getD i false = false) : left (listed.setIfInBounds i true) < left listed := by
  unfold left
  rw [Array.size_setIfInBounds]
  refine filter_lt (i := i) (List.mem_range.2 hi) (by simp [hn]) (by rw [getD_set _ _ _ hi]; simp) (fun j hj => ?_)
  rw [getD_set _ _ _ hi] at hj
  simp at hj ⊢
  exact hj.2

theorem chk_dst {n j d : Nat} (h : chkReg ops n = true) (hd : (ops[j]?).bind (·.dst) = some d) : d < n ∧ ∀ k, (ops[k]?).bind (·.dst) = some d → k = j := by
  cases ho : ops[j]? with
  | none => rw [ho] at hd; cases hd
  | some o =>
    rw [ho] at hd
    have hjl : j < ops.size := (Array.getElem?_eq_some_iff.1 ho).1
    have hj := List.all_eq_true.1 h j (List.mem_range.2 hjl)
    simp only [ho] at hj
    have hd' : o.dst = some d := hd
    rw [hd'] at hj
    simp only [Bool.and_eq_true, decide_eq_true_eq] at hj
    refine ⟨hj.1.1, fun k hk => ?_⟩
    have hkl : k < ops.size := by
      cases hk' : ops[k]? with
      | none => rw [hk'] at hk; cases hk
      | some _ => exact (Array.getElem?_eq_some_iff.1 hk').1
    have := List.all_eq_true.1 hj.1.2 k (List.mem_range.2 hkl)
    rw [hk] at this
    simpa using this
theorem chk_back {n j : Nat} {o : Oper} (h : chkReg ops n = true) (ho : ops[j]? = some o) : ∀ e ∈ o.after, Region.binds .any e = true → e.on < j := by
  have hjl : j < ops.size := (Array.getElem?_eq_some_iff.1 ho).1
  have hj := List.all_eq_true.1 h j (List.mem_range.2 hjl)
  simp only [ho] at hj
  simp only [Bool.and_eq_true] at hj
  intro e he hb
  have := Array.all_eq_true'.1 hj.2 e he
  simpa [hb] using this

/-- What is ready has its edges listed, and is not listed. -/
theorem ready_mem {listed : Array Bool} {i : Nat} (h : i ∈ Region.ready .any ops listed) (hs : listed.size = ops.size) :
    i < ops.size ∧ listed.getD i false = false ∧ ∀ o, ops[i]? = some o → ∀ e ∈ o.after, Region.binds .any e = true → listed.getD e.on false = true := by
  unfold Region.ready at h
  obtain ⟨hr, hp⟩ := List.mem_filter.1 h
  have hi := List.mem_range.1 hr
  simp only [Bool.and_eq_true, Bool.not_eq_true'] at hp
  refine ⟨hi, ?_, fun o ho e he hb => ?_⟩
  · have := hp.1
    rw [Array.getD_eq_getD_getElem?, Array.getElem?_eq_getElem (by omega)] at this ⊢
    simpa using this
  · have h2 := hp.2
    rw [ho] at h2
    simp only [Option.map_some, Option.getD_some] at h2
    have := Array.all_eq_true'.1 h2 e he
    simpa [hb] using this

/-- Nothing ready: all is listed. -/
theorem ready_nil {n : Nat} {listed : Array Bool} (hc : chkReg ops n = true) (h : Region.ready .any ops listed = []) (hs : listed.size = ops.size) : ∀ i, i < ops.size → listed.getD i false = true := by
  intro i
  induction i using Nat.strongRecOn with
  | _ i ih =>
    intro hi
    by_cases hl : listed.getD i false = true
    · exact hl
    · exfalso
      have hm : i ∈ Region.ready .any ops listed := by
        unfold Region.ready
        refine List.mem_filter.2 ⟨List.mem_range.2 hi, ?_⟩
        have ho : ops[i]? = some ops[i] := Array.getElem?_eq_getElem hi
        rw [ho]
        simp only [Option.map_some, Option.getD_some, Bool.and_eq_true, Bool.not_eq_true']
        refine ⟨?_, Array.all_eq_true'.2 fun e he => ?_⟩
        · rw [Array.getD_eq_getD_getElem?, Array.getElem?_eq_getElem (by omega)] at hl ⊢
          simpa using hl
        · cases hb : Region.binds .any e with
          | false => rfl
          | true =>
            have hlt := chk_back hc ho e he hb
            simpa using ih e.on hlt (by omega)
      rw [h] at hm
      cases hm

theorem deps_mem {j x : Nat} (h : x ∈ depsOf ops j) : ∃ o, ops[j]? = some o ∧ ∃ e ∈ o.after, Region.binds .any e = true ∧ e.on = x := by
  unfold depsOf at h
  cases ho : ops[j]? with
  | none => rw [ho] at h; cases h
  | some o =>
    rw [ho] at h
    obtain ⟨e, he, rfl⟩ := List.mem_map.1 h
    obtain ⟨h1, h2⟩ := List.mem_filter.1 he
    exact ⟨o, rfl, e, by simpa using h1, h2, rfl⟩
/-- If operation m is listed, all that are marked are. -/
theorem marked_listed {listed : Array Bool} (hcl : ∀ j o, listed.getD j false = true → ops[j]? = some o → ∀ e ∈ o.after, Region.binds .any e = true → listed.getD e.on false = true) (hm : listed.getD m false = true) :
    ∀ x ∈ marked ops m, listed.getD x false = true := by
  have key : ∀ (l : List Nat) (S : List Nat), (∀ x ∈ S, listed.getD x false = true) → ∀ x ∈ l.foldl (fun S j => if S.contains j then S ++ depsOf ops j else S) S, listed.getD x false = true := by
    intro l
    induction l with
    | nil => exact fun S h => h
    | cons j l ih =>
      intro S h
      rw [List.foldl_cons]
      refine ih _ (fun x hx => ?_)
      by_cases hj : S.contains j = true
      · rw [if_pos hj] at hx
        rcases List.mem_append.1 hx with hx | hx
        · exact h x hx
        · obtain ⟨o, ho, e, he, hb, rfl⟩ := deps_mem hx
          exact hcl j o (h j (by simpa using hj)) ho e he hb
      · rw [if_neg hj] at hx
        exact h x hx
  exact key _ [m] (fun x hx => by rw [List.mem_singleton.1 hx]; exact hm)
/-- If operation i may run, all that are marked from it are listed, but itself. -/
theorem marked_ready {listed : Array Bool} {i : Nat} (hcl : ∀ j o, listed.getD j false = true → ops[j]? = some o → ∀ e ∈ o.after, Region.binds .any e = true → listed.getD e.on false = true)
    (h3 : ∀ o, ops[i]? = some o → ∀ e ∈ o.after, Region.binds .any e = true → listed.getD e.on false = true) : ∀ x ∈ marked ops i, x = i ∨ listed.getD x false = true := by
  have key : ∀ (l : List Nat) (S : List Nat), (∀ x ∈ S, x = i ∨ listed.getD x false = true) → ∀ x ∈ l.foldl (fun S j => if S.contains j then S ++ depsOf ops j else S) S, x = i ∨ listed.getD x false = true := by
    intro l
    induction l with
    | nil => exact fun S h => h
    | cons j l ih =>
      intro S h
      rw [List.foldl_cons]
      refine ih _ (fun x hx => ?_)
      by_cases hj : S.contains j = true
      · rw [if_pos hj] at hx
        rcases List.mem_append.1 hx with hx | hx
        · exact h x hx
        · obtain ⟨o, ho, e, he, hb, rfl⟩ := deps_mem hx
          rcases h j (by simpa using hj) with rfl | hl
          · exact .inr (h3 o ho e he hb)
          · exact .inr (hcl j o hl ho e he hb)
      · rw [if_neg hj] at hx
        exact h x hx
  exact key _ [i] (fun x hx => by rw [List.mem_singleton.1 hx]; exact .inl rfl)
/-- What is listed of operation m when operation i comes up. -/
theorem tail_flag {listed : Array Bool} {i : Nat} (ht : chkTail ops m = true) (hs : listed.size = ops.size) (hi : i < ops.size) (hn : listed.getD i false = false)
    (hcl : ∀ j o, listed.getD j false = true → ops[j]? = some o → ∀ e ∈ o.after, Region.binds .any e = true → listed.getD e.on false = true)
    (h3 : ∀ o, ops[i]? = some o → ∀ e ∈ o.after, Region.binds .any e = true → listed.getD e.on false = true) :
    listed.getD m false = decide (m < i) ∧ (listed.setIfInBounds i true).getD m false = decide (m ≤ i) := by
  have h1 : listed.getD m false = decide (m < i) := by
    unfold chkTail at ht
    by_cases hout : ops.size ≤ m
    · rw [Array.getD_eq_getD_getElem?, Array.getElem?_eq_none (by omega)]
      have : ¬ m < i := by omega
      simp [this]
    · simp only [hout, decide_false, Bool.false_or, Bool.and_eq_true] at ht
      rcases Nat.lt_trichotomy i m with hlt | heq | hgt
      · have : ¬ m < i := by omega
        rw [decide_eq_false this]
        cases hm : listed.getD m false with
        | false => rfl
        | true =>
          have := marked_listed hcl hm i (by simpa using List.all_eq_true.1 ht.1 i (List.mem_range.2 hlt))
          rw [hn] at this; cases this
      · subst heq; rw [hn]; simp
      · rw [decide_eq_true hgt]
        have hc := List.all_eq_true.1 ht.2 i (List.mem_range.2 hi)
        have : ¬ i ≤ m := by omega
        simp only [this, decide_false, Bool.false_or] at hc
        rcases marked_ready hcl h3 m (by simpa using hc) with h | h
        · omega
        · exact h
  refine ⟨h1, ?_⟩
  rw [getD_set _ _ _ (by omega), h1]
  by_cases h : m = i
  · simp [h]
  · simp only [h, decide_false, Bool.false_or]
    congr 1
    apply propext
    omega

/-- What is listed when operation m is not, stands before it. -/
theorem tail_before {listed : Array Bool} {j : Nat} (ht : chkTail ops m = true) (hm : m < ops.size) (hj : j < ops.size) (hne : j ≠ m) (hl : listed.getD j false = true) (hn : listed.getD m false = false)
    (hcl : ∀ j o, listed.getD j false = true → ops[j]? = some o → ∀ e ∈ o.after, Region.binds .any e = true → listed.getD e.on false = true) : j < m := by
  rcases Nat.lt_or_ge j m with h | h
  · exact h
  · exfalso
    unfold chkTail at ht
    have hout : ¬ ops.size ≤ m := by omega
    simp only [hout, decide_false, Bool.false_or, Bool.and_eq_true] at ht
    have hc := List.all_eq_true.1 ht.2 j (List.mem_range.2 hj)
    have : ¬ j ≤ m := by omega
    simp only [this, decide_false, Bool.false_or] at hc
    have := marked_listed hcl hl m (by simpa using hc)
    rw [hn] at this
    cases this

theorem rend_of {V : Nat → Value → World → Prop} (hc : chkReg ops a0.tmps.size = true) {w : World} {a : Act} (hdef : a.defers = a0.defers) (hsz : a.tmps.size = a0.tmps.size)
    (hval : ∀ j d, (ops[j]?).bind (·.dst) = some d → V j (a.tmps.getD d undef) w) :
    ∀ (l : List Oper) (k : Nat) (b : Act), (∀ j, l[j]? = ops[k + j]?) → b.defers = a0.defers → b.tmps.size = a0.tmps.size →
      (∀ t, (∀ j, k ≤ j → (ops[j]?).bind (·.dst) ≠ some t) → b.tmps.getD t undef = a.tmps.getD t undef) → REnd Q V l k b w → Q .normal a w := by
  intro l
  induction l with
  | nil =>
    intro k b hl hb hbs hsame hend
    have hk : ops.size ≤ k := by
      have := hl 0
      simp at this
      exact this
    have : b = a := by
      have ht : b.tmps = a.tmps := by
        apply Array.ext (hbs.trans hsz.symm)
        intro i h1 h2
        have := hsame i (fun j hj => by rw [Array.getElem?_eq_none (by omega)]; simp)
        rw [Array.getD_eq_getD_getElem?, Array.getD_eq_getD_getElem?, Array.getElem?_eq_getElem h1, Array.getElem?_eq_getElem h2] at this
        simpa using this
      cases a; cases b
      simp only at ht hb hdef ⊢
      rw [ht, hb, hdef]
    rw [← this]; exact hend
  | cons o l ih =>
    intro k b hl hb hbs hsame hend
    have ho : ops[k]? = some o := by have := hl 0; simpa using this.symm
    have hl' : ∀ j, l[j]? = ops[k + 1 + j]? := fun j => by have := hl (j + 1); simp only [List.getElem?_cons_succ] at this; rw [this]; congr 1; omega
    unfold REnd at hend
    cases hd : o.dst with
    | none =>
      rw [hd] at hend
      refine ih (k + 1) b hl' hb hbs (fun t ht => hsame t (fun j hj => ?_)) hend
      by_cases hjk : j = k
      · subst hjk; rw [ho]; simp [hd]
      · exact ht j (by omega)
    | some d =>
      rw [hd] at hend
      have hod : (ops[k]?).bind (·.dst) = some d := by rw [ho]; exact hd
      have hdn := chk_dst hc hod
      refine ih (k + 1) (b.put (some d) (a.tmps.getD d undef)) hl' ((defers_put _ _ _).trans hb) ((size_put _ _ _).trans hbs) (fun t ht => ?_) (hend _ (hval k d hod))
      rw [tmps_put _ _ _ _ (by rw [hbs]; exact hdn.1)]
      by_cases htd : t = d
      · rw [if_pos htd, htd]
      · rw [if_neg htd]
        refine hsame t (fun j hj => ?_)
        by_cases hjk : j = k
        · subst hjk; rw [hod]; intro h; exact htd (by injection h with h; exact h.symm)
        · exact ht j (by omega)

theorem wpAny_vals (hc : chkReg ops a0.tmps.size = true) (htl : chkTail ops m = true) (hst : ∀ i b v a w w', V i b v w → E false a w w' → V i b v w') (hst2 : ∀ i d, i < m → (ops[i]?).bind (·.dst) = some d → ∀ a w w', V i false (a.tmps.getD d undef) w → E true a w w' → V i true (a.tmps.getD d undef) w') (hstep : ∀ i, i < ops.size → RStep P ops Q V G E a0 m i)
    (hend : ∀ w, G (decide (m < ops.size)) w → REnd Q (fun i => V i (decide (m < ops.size))) ops.toList 0 a0 w) : ∀ (fuel : Nat) (listed : Array Bool) (a : Act) (w : World), RInv ops V G a0 m listed a w → left listed ≤ fuel → wpAny P .any ops Q fuel listed a w := by
  have hfin : ∀ (listed : Array Bool) (a : Act) (w : World), RInv ops V G a0 m listed a w → Region.ready .any ops listed = [] → Q .normal a w := by
    intro listed a w hI hr
    have hall := ready_nil hc hr hI.lsize
    have hlt : ∀ j d, (ops[j]?).bind (·.dst) = some d → j < ops.size := by
      intro j d hd
      cases hj : ops[j]? with
      | none => rw [hj] at hd; cases hd
      | some _ => exact (Array.getElem?_eq_some_iff.1 hj).1
    have hfl : listed.getD m false = decide (m < ops.size) := by
      by_cases hm : m < ops.size
      · rw [hall m hm, decide_eq_true hm]
      · rw [Array.getD_eq_getD_getElem?, Array.getElem?_eq_none (by rw [hI.lsize]; omega), decide_eq_false hm]; rfl
    refine rend_of (V := fun i => V i (decide (m < ops.size))) hc hI.defers hI.size (fun j d hd => by have := hI.val j d (hall j (hlt j d hd)) hd; rw [hfl] at this; exact this) ops.toList 0 a0 (fun j => by simp) rfl rfl (fun t ht => ?_) (hend w ?_)
    · exact (hI.same t (fun j _ => ht j (Nat.zero_le _))).symm
    · have hg := hI.g
      by_cases hm : m < ops.size
      · rw [hall m hm] at hg; rw [decide_eq_true hm]; exact hg
      · rw [Array.getD_eq_getD_getElem?, Array.getElem?_eq_none (by rw [hI.lsize]; omega)] at hg
        rw [decide_eq_false hm]; exact hg
  intro fuel
  induction fuel with
  | zero =>
    intro listed a w hI hl
    have hr : Region.ready .any ops listed = [] := by
      cases hr : Region.ready .any ops listed with
      | nil => rfl
      | cons i rs =>
        exfalso
        obtain ⟨h1, h2, _⟩ := ready_mem (i := i) (by rw [hr]; exact List.mem_cons_self) hI.lsize
        have := left_set listed i (by rw [hI.lsize]; exact h1) h2
        omega
    exact ⟨hr, hfin listed a w hI hr⟩
  | succ fuel ih =>
    intro listed a w hI hl
    refine ⟨hfin listed a w hI, fun i hi => ?_⟩
    obtain ⟨h1, h2, h3⟩ := ready_mem hi hI.lsize
    have ho : ops[i]? = some ops[i] := Array.getElem?_eq_getElem h1
    have hil : i < listed.size := by rw [hI.lsize]; exact h1
    obtain ⟨hf1, hf2⟩ := tail_flag htl hI.lsize h1 h2 hI.closed h3
    refine hstep i h1 a w (by rw [← hf1]; exact hI.g) (fun j d hjd => ?_) (fun t ht => ?_) _ ?_
    rotate_left 2
    · intro v w' hv hg' hE
      have hv0 := hI.val
      rw [hf1] at hv0
      have hlow := left_set listed i hil h2
      refine ih _ _ _ ⟨by rw [hf2]; exact hg', by rw [Array.size_setIfInBounds]; exact hI.lsize, (defers_put _ _ _).trans hI.defers, (size_put _ _ _).trans hI.size, fun j d hj hd => ?_, fun t ht => ?_, fun j o hj ho' e he hb => ?_⟩ (by omega)
      · rw [getD_set _ _ _ hil] at hj
        by_cases hji : j = i
        · subst hji
          rw [hd, tmps_put _ _ _ _ (by rw [hI.size]; exact (chk_dst hc hd).1), if_pos rfl, hf2]
          exact hv
        · have hj' : listed.getD j false = true := by simpa [hji] using hj
          have hold : V j ((listed.setIfInBounds i true).getD m false) (a.tmps.getD d undef) w' := by
            rw [hf2]
            by_cases him : i = m
            · rw [decide_eq_true him] at hE
              have h0 := hv0 j d hj' hd
              rw [decide_eq_false (by omega)] at h0
              rw [decide_eq_true (by omega)]
              refine hst2 j d ?_ hd _ _ _ h0 hE
              have hjl : j < ops.size := by
                cases hj2 : ops[j]? with
                | none => rw [hj2] at hd; cases hd
                | some _ => exact (Array.getElem?_eq_some_iff.1 hj2).1
              have hnm : listed.getD m false = false := by rw [← him]; exact h2
              exact tail_before htl (by omega) hjl (by omega) hj' hnm hI.closed
            · rw [decide_eq_false him] at hE
              have h0 := hv0 j d hj' hd
              have e : decide (m < i) = decide (m ≤ i) := by rw [decide_eq_decide]; omega
              rw [e] at h0
              exact hst _ _ _ _ _ _ h0 hE
          cases hdi : (ops[i]?).bind (·.dst) with
          | none => exact hold
          | some di =>
            rw [tmps_put _ _ _ _ (by rw [hI.size]; exact (chk_dst hc hdi).1), if_neg (fun e => hji ((chk_dst hc hdi).2 j (by rw [← e]; exact hd)))]
            exact hold
      · have hti : (ops[i]?).bind (·.dst) ≠ some t := ht i (by rw [getD_set _ _ _ hil]; simp)
        have hold := hI.same t (fun j hj => ht j (by rw [getD_set _ _ _ hil, hj]; simp))
        cases hdi : (ops[i]?).bind (·.dst) with
        | none => exact hold
        | some di =>
          rw [tmps_put _ _ _ _ (by rw [hI.size]; exact (chk_dst hc hdi).1), if_neg (fun e => hti (by rw [hdi, e]))]
          exact hold
      · rw [getD_set _ _ _ hil] at hj ⊢
        by_cases hji : j = i
        · subst hji
          rw [h3 o ho' e he hb]; simp
        · have hj' : listed.getD j false = true := by simpa [hji] using hj
          rw [hI.closed j o hj' ho' e he hb]; simp
    · unfold isDep at hjd
      rw [ho] at hjd
      simp only [Option.map_some, Option.getD_some, Bool.and_eq_true, beq_iff_eq] at hjd
      obtain ⟨hany, hd⟩ := hjd
      obtain ⟨e, he, hon⟩ := Array.any_eq_true'.1 hany
      simp only [Bool.and_eq_true, beq_iff_eq] at hon
      have h0 := hI.val j d (by rw [← hon.1]; exact h3 _ ho e he hon.2) hd
      rw [hf1] at h0
      exact h0
    · refine hI.same t (fun j hj hd => ?_)
      unfold okSame at ht
      have hjl : j < ops.size := by
        cases hj' : ops[j]? with
        | none => rw [hj'] at hd; cases hd
        | some _ => exact (Array.getElem?_eq_some_iff.1 hj').1
      have hoj : ops[j]? = some ops[j] := Array.getElem?_eq_getElem hjl
      have hh := List.all_eq_true.1 ht j (List.mem_range.2 hjl)
      rw [hoj] at hh hd
      have hd' : ops[j].dst = some t := hd
      simp only [hd', bne_self_eq_false, Bool.false_or] at hh
      obtain ⟨e, he, hon⟩ := Array.any_eq_true'.1 hh
      simp only [Bool.and_eq_true, beq_iff_eq] at hon
      have := hI.closed j _ hj hoj e he hon.2
      rw [hon.1, h2] at this
      cases this

/-- THE REGION. -/
theorem wp_region_vals {id : Nat} {w : World} (m : Nat) (V : Nat → Bool → Value → World → Prop) (G : Bool → World → Prop) (E : Bool → Act → World → World → Prop) (hm : P.follows .mixedOrders = true) (hc : chkReg ops a0.tmps.size = true) (htl : chkTail ops m = true) (hG : G false w.drew)
    (hst : ∀ i b v a w w', V i b v w → E false a w w' → V i b v w') (hst2 : ∀ i d, i < m → (ops[i]?).bind (·.dst) = some d → ∀ a w w', V i false (a.tmps.getD d undef) w → E true a w w' → V i true (a.tmps.getD d undef) w') (hstep : ∀ i, i < ops.size → RStep P ops Q V G E a0 m i) (hend : ∀ w, G (decide (m < ops.size)) w → REnd Q (fun i => V i (decide (m < ops.size))) ops.toList 0 a0 w) : (Code.region id ops true).wp P Q a0 w := by
  have hfl : ∀ j, (Array.replicate ops.size false).getD j false = false := fun j => by
    rw [Array.getD_eq_getD_getElem?, Array.getElem?_replicate]; split <;> rfl
  refine wp_region_any hm (wpAny_vals hc htl hst hst2 hstep hend ops.size _ a0 _ ⟨by rw [hfl]; exact hG, by simp, rfl, rfl, fun j d hj => ?_, fun _ _ => rfl, fun j o hj => ?_⟩ ?_)
  · exfalso; rw [Array.getD_eq_getD_getElem?, Array.getElem?_replicate] at hj; split at hj <;> simp at hj
  · exfalso; rw [Array.getD_eq_getD_getElem?, Array.getElem?_replicate] at hj; split at hj <;> simp at hj
  · unfold left
    refine Nat.le_trans (List.length_filter_le _ _) ?_
    simp

/-- Predicates that later worlds keep. -/
def Stab (p : Value → World → Prop) : Prop := ∀ v w w', p v w → Below w.heap.size w w' → p v w'
theorem stab_eq (c : Value) : Stab fun v _ => v = c := fun _ _ _ h _ => h
theorem stab_bs (l : List UInt8) : Stab fun v w => Bs w w.heap.size v l := fun _ _ _ h hb => (h.ext (Nat.le_refl _) hb).more hb.size
theorem stab_bss (l : List (List UInt8)) : Stab fun v w => Bss w w.heap.size v l := fun _ _ _ h hb => (h.ext (Nat.le_refl _) hb).more hb.size
def AllStab : List (Value → World → Prop) → Prop
  | [] => True
  | p :: ps => Stab p ∧ AllStab ps
theorem AllStab.get : ∀ (l : List (Value → World → Prop)) (_ : AllStab l) (i : Nat), Stab (l.getD i fun _ _ => True)
  | [], _, i => by simp [List.getD]; exact fun _ _ _ h _ => h
  | p :: ps, h, 0 => h.1
  | p :: ps, h, i + 1 => AllStab.get ps h.2 i
def AllFrom (p : Nat → Prop) : Nat → Nat → Prop
  | _, 0 => True
  | k, n + 1 => p k ∧ AllFrom p (k + 1) n
theorem AllFrom.get {p : Nat → Prop} : ∀ (n k : Nat), AllFrom p k n → ∀ i, k ≤ i → i < k + n → p i
  | 0, k, _, i, h1, h2 => absurd h2 (by omega)
  | n + 1, k, h, i, h1, h2 => by
    by_cases hi : i = k
    · rw [hi]; exact h.1
    · exact AllFrom.get n (k + 1) h.2 i (by omega) (by omega)

/-- THE REGION, its operations' predicates in a list; memory only grows. -/
theorem wp_region_list {id : Nat} {w : World} (n : Nat) (Vs : List (Value → World → Prop)) (G : World → Prop) (hm : P.follows .mixedOrders = true) (hn : ops.size = n) (hc : chkReg ops a0.tmps.size = true) (hG : G w.drew) (hst : AllStab Vs)
    (hstep : AllFrom (RStep P ops Q (fun i _ => Vs.getD i fun _ _ => True) (fun _ => G) (fun _ _ w w' => Below w.heap.size w w') a0 n) 0 n)
    (hend : ∀ w, G w → REnd Q (fun i => Vs.getD i fun _ _ => True) ops.toList 0 a0 w) : (Code.region id ops true).wp P Q a0 w :=
  wp_region_vals n (fun i _ => Vs.getD i fun _ _ => True) (fun _ => G) (fun _ _ w w' => Below w.heap.size w w') hm hc (by unfold chkTail; simp [hn]) hG (fun i _ v _ w w' h hb => AllStab.get Vs hst i v w w' h hb) (fun i _ _ _ _ w w' h hb => AllStab.get Vs hst i _ w w' h hb) (fun i hi => AllFrom.get n 0 hstep i (Nat.zero_le _) (by omega)) hend

def StabE (E : World → World → Prop) (p : Value → World → Prop) : Prop := ∀ v w w', p v w → E w w' → p v w'
theorem stabE_eq {E : World → World → Prop} (c : Value) : StabE E fun v _ => v = c := fun _ _ _ h _ => h
def AllStabE (E : World → World → Prop) : List (Value → World → Prop) → Prop
  | [] => True
  | p :: ps => StabE E p ∧ AllStabE E ps
theorem AllStabE.get {E : World → World → Prop} : ∀ (l : List (Value → World → Prop)) (_ : AllStabE E l) (i : Nat), StabE E (l.getD i fun _ _ => True)
  | [], _, i => by simp [List.getD]; exact fun _ _ _ h _ => h
  | p :: ps, h, 0 => h.1
  | p :: ps, h, i + 1 => AllStabE.get ps h.2 i
/-- THE REGION, with one operation m that writes (an append, a store) and that waits for all before it: G false holds ahead of it, G true behind; E is what that operation does. -/
theorem wp_region_tail {id : Nat} {w : World} (n m : Nat) (Vs : List (Value → World → Prop)) (G : Bool → World → Prop) (E : World → World → Prop) (hm : P.follows .mixedOrders = true) (hn : ops.size = n) (hmn : m < n) (hc : chkReg ops a0.tmps.size = true) (htl : chkTail ops m = true) (hG : G false w.drew)
    (hst : AllStab Vs) (hst2 : AllStabE E (Vs.take m))
    (hstep : AllFrom (RStep P ops Q (fun i _ => Vs.getD i fun _ _ => True) G (fun b _ w w' => if b then E w w' else Below w.heap.size w w') a0 m) 0 n)
    (hend : ∀ w, G true w → REnd Q (fun i => Vs.getD i fun _ _ => True) ops.toList 0 a0 w) : (Code.region id ops true).wp P Q a0 w :=
  wp_region_vals m (fun i _ => Vs.getD i fun _ _ => True) G (fun b _ w w' => if b then E w w' else Below w.heap.size w w') hm hc htl hG (fun i _ v _ w w' h hb => AllStab.get Vs hst i v w w' h (by simpa using hb))
    (fun i d hi _ a w w' h hb => by
      have := AllStabE.get (Vs.take m) hst2 i (a.tmps.getD d undef) w w'
      have e : (Vs.take m).getD i (fun _ _ => True) = Vs.getD i (fun _ _ => True) := by
        rw [List.getD_eq_getElem?_getD, List.getD_eq_getElem?_getD, List.getElem?_take, if_pos hi]
      rw [e] at this
      exact this h (by simpa using hb))
    (fun i hi => AllFrom.get n 0 hstep i (Nat.zero_le _) (by omega)) (by rw [decide_eq_true (by omega)]; exact hend)

/-- THE REGION, with one operation m that writes, ahead of which operation i has yielded what meets Vs i, behind it Us i; E may speak of the slots. -/
theorem wp_region_turn {id : Nat} {w : World} (n m : Nat) (Vs Us : List (Value → World → Prop)) (G : Bool → World → Prop) (E : Act → World → World → Prop) (hm : P.follows .mixedOrders = true) (hn : ops.size = n) (hmn : m < n) (hc : chkReg ops a0.tmps.size = true) (htl : chkTail ops m = true) (hG : G false w.drew)
    (hst : AllStab Vs) (hstU : AllStab Us)
    (hst2 : AllFrom (fun i => ∀ d, (ops[i]?).bind (·.dst) = some d → ∀ a w w', (Vs.getD i fun _ _ => True) (a.tmps.getD d undef) w → E a w w' → (Us.getD i fun _ _ => True) (a.tmps.getD d undef) w') 0 m)
    (hstep : AllFrom (RStep P ops Q (fun i b => if b then Us.getD i fun _ _ => True else Vs.getD i fun _ _ => True) G (fun b a w w' => if b then E a w w' else Below w.heap.size w w') a0 m) 0 n)
    (hend : ∀ w, G true w → REnd Q (fun i => Us.getD i fun _ _ => True) ops.toList 0 a0 w) : (Code.region id ops true).wp P Q a0 w :=
  wp_region_vals m (fun i b => if b then Us.getD i fun _ _ => True else Vs.getD i fun _ _ => True) G (fun b a w w' => if b then E a w w' else Below w.heap.size w w') hm hc htl hG
    (fun i b v _ w w' h hb => by
      cases b with
      | true => exact AllStab.get Us hstU i v w w' h (by simpa using hb)
      | false => exact AllStab.get Vs hst i v w w' h (by simpa using hb))
    (fun i d hi hd a w w' h hb => AllFrom.get m 0 hst2 i (Nat.zero_le _) (by omega) d hd a w w' h (by simpa using hb))
    (fun i hi => AllFrom.get n 0 hstep i (Nat.zero_le _) (by omega)) (by rw [decide_eq_true (by omega)]; exact hend)

/-- One operation, without a guard. -/
theorem wpOp_plain {i : Nat} {o : Oper} {K : Act → World → Prop} {a : Act} {w : World} (ho : ops[i]? = some o) (hg : o.guard = none) (h : o.wp P a w K Q) : wpOp P ops Q i K a w := by
  unfold wpOp
  rw [ho]
  simp only [Region.wanted, hg, if_true]
  exact .inl h
theorem slot_bool {a : Act} {d : Nat} {b : Bool} (hv : a.tmps.getD d undef = .bool b) : a.tmps[d]? = some (.bool b) := by
  rw [Array.getD_eq_getD_getElem?] at hv
  cases h : a.tmps[d]? with
  | none => rw [h] at hv; cases hv
  | some x => rw [h] at hv; exact congrArg some hv
/-- Its guard has yielded what it wants. -/
theorem wpOp_yes {i j d : Nat} {b : Bool} {o : Oper} {K : Act → World → Prop} {a : Act} {w : World} (ho : ops[i]? = some o) (hg : o.guard = some (j, b)) (hd : (ops[j]?).bind (·.dst) = some d) (hv : a.tmps.getD d undef = .bool b) (h : o.wp P a w K Q) : wpOp P ops Q i K a w := by
  have hy : yielded ops a.tmps j = some b := by simp [yielded, hd, slot_bool hv]
  unfold wpOp
  rw [ho]
  simp only [Region.wanted, hg, hy, beq_self_eq_true, if_true]
  exact .inl h
/-- Its guard has not. -/
theorem wpOp_no {i j d : Nat} {b : Bool} {o : Oper} {K : Act → World → Prop} {a : Act} {w : World} (ho : ops[i]? = some o) (hg : o.guard = some (j, b)) (hd : (ops[j]?).bind (·.dst) = some d) (hv : a.tmps.getD d undef = .bool (!b)) (h : K (a.put o.dst undef) w) : wpOp P ops Q i K a w := by
  have hy : yielded ops a.tmps j = some (!b) := by simp [yielded, hd, slot_bool hv]
  unfold wpOp
  rw [ho]
  have : ((some (!b) : Option Bool) == some b) = false := by cases b <;> rfl
  simp only [Region.wanted, hg, hy, this]
  exact h
/-- append, by its run. -/
theorem wp_append {o : Oper} {a : Act} {w w' : World} {K : Act → World → Prop} {v u v' : Value} (s x : Nat) (t : TypeId) (ho : o.op = .call { callee := .builtin .append, args := #[.tmp s, .tmp x], argTypes := #[t, t] })
    (hs : a.tmps.getD s undef = v) (hx : a.tmps.getD x undef = u) (hrun : (Builtin.append_ #[t, t] o.type #[v, u]).run P w = .ok v' w') (h : K (a.put o.dst v') w') : o.wp P a w K Q := by
  have hs' : a.eval (.tmp s) = v := hs
  have hx' : a.eval (.tmp x) = u := hx
  unfold Oper.wp execOp
  simp only [ho, resolve, invoke, builtin, Sem.run_bind, Sem.run_pure, Result.andThen_ok, List.map_toArray, List.map_cons, List.map_nil, hs', hx', hrun]
  exact h
/-- append in a plain region, by its run; the walk is stopped there by 'go_wp2_with (at_builtin; refine stop_ ?_)'. -/
theorem stop_ {p : Prop} (h : Hid p) : p := h
theorem wpList_append_run {ops : Array Oper} {rest : List Oper} {o : Oper} {a : Act} {w w' : World} {v u v' : Value} (hgd : o.guard = none) (s x : Operand) (t : TypeId) (ho : o.op = .call { callee := .builtin .append, args := #[s, x], argTypes := #[t, t] })
    (hs : a.eval s = v) (hx : a.eval x = u) (hrun : (Builtin.append_ #[t, t] o.type #[v, u]).run P w = .ok v' w') (h : wpList P ops Q rest (a.put o.dst v') w') : Hid (wpList P ops Q (o :: rest) a w) := by
  show wpList P ops Q (o :: rest) a w
  refine wpList_plain hgd fun K hK => ?_
  unfold Oper.wp execOp
  simp only [ho, resolve, invoke, builtin, Sem.run_bind, Sem.run_pure, Result.andThen_ok, List.map_toArray, List.map_cons, List.map_nil, hs, hx, hrun]
  exact hK _ _ h
/-- append of one element, which has just been laid into a block of its own. -/
theorem wpList_append_one {ops : Array Oper} {rest : List Oper} {o : Oper} {a : Act} {W : World} {c v : Value} {base t e bytes n g : Nat} {z : Value} {xs : List Value} (hgd : o.guard = none) (s x : Operand) (ho : o.op = .call { callee := .builtin .append, args := #[s, x], argTypes := #[t, t] })
    (hs : a.eval s = v) (hx : a.eval x = .slice (some ⟨g, 0, none⟩) 1 1) (hg : g = W.heap.size) (ht : P.underlying t = some (.slice e)) (hinfo : (P.info? e).map (fun i => (i.zero, i.size, i.bytes)) = some (some z, 1, bytes)) (hzs : z.cells.size = 1)
    (hown : W.ownsRow base e 1 v n xs) (hc : c.oneCell' = true) (h63 : n + 1 ≤ maxLen) (hbytes : (n + 1) * bytes ≤ 140737488355328) (hbase : base ≤ W.heap.size)
    (h : ∀ v' w', w'.ownsRow base e 1 v' (n + 1) (xs ++ [c]) → W.grownBy w' v.ownBlock → wpList P ops Q rest (a.put o.dst v') w') : Hid (wpList P ops Q (o :: rest) a (W.alloc (.cells #[c] e))) := by
  subst hg
  obtain ⟨v', w', hrun, hown', hgr, _⟩ := run_append_rds (P := P) (ty := o.type) ht hinfo hzs (by decide) (hown.alloc (.cells #[c] e)) ((Blk.new W e #[c]).rds 0 1 1 1 (by simp) (by omega) (by simp [maxLen])) (by simpa using hc) h63 hbytes (by simp; omega)
  exact wpList_append_run hgd s x t ho hs hx hrun (h v' w' hown' ((World.grownBy_alloc W _ _).trans hgr))
/-- append of one element of several cells. -/
theorem wpList_append_elem {ops : Array Oper} {rest : List Oper} {o : Oper} {a : Act} {W : World} {cs : Array Value} {v : Value} {base t e size bytes n g : Nat} {z : Value} {xs : List Value} (hgd : o.guard = none) (s x : Operand) (ho : o.op = .call { callee := .builtin .append, args := #[s, x], argTypes := #[t, t] })
    (hs : a.eval s = v) (hx : a.eval x = .slice (some ⟨g, 0, none⟩) 1 1) (hg : g = W.heap.size) (ht : P.underlying t = some (.slice e)) (hinfo : (P.info? e).map (fun i => (i.zero, i.size, i.bytes)) = some (some z, size, bytes)) (hzs : z.cells.size = size) (hsz : 0 < size)
    (hown : W.ownsRow base e size v n xs) (hcs : cs.toList.length = size) (hc : ∀ u ∈ cs.toList, u.oneCell' = true) (h63 : n + 1 ≤ maxLen) (hbytes : (n + 1) * bytes ≤ 140737488355328) (hbase : base ≤ W.heap.size)
    (h : ∀ v' w', w'.ownsRow base e size v' (n + 1) (xs ++ cs.toList) → W.grownBy w' v.ownBlock → wpList P ops Q rest (a.put o.dst v') w') : Hid (wpList P ops Q (o :: rest) a (W.alloc (.cells cs e))) := by
  subst hg
  have hr := (Blk.new W e cs).rds 0 1 1 size (by rw [hcs]; omega) (by omega) (by simp [maxLen])
  rw [List.drop_zero, List.take_of_length_le (by rw [hcs]; omega)] at hr
  obtain ⟨v', w', hrun, hown', hgr, _⟩ := run_append_rds (P := P) (ty := o.type) ht hinfo hzs hsz (hown.alloc (.cells cs e)) hr hc h63 hbytes (by simp; omega)
  exact wpList_append_run hgd s x t ho hs hx hrun (h v' w' hown' ((World.grownBy_alloc W _ _).trans hgr))
theorem getD_opt {a : Act} {t : Nat} {v : Value} (h : a.tmps.getD t undef = v) : a.tmps[t]?.getD undef = v := by
  rw [← Array.getD_eq_getD_getElem?]; exact h
end
end Go.Proofs.Ytahcbgllnoopgaa
