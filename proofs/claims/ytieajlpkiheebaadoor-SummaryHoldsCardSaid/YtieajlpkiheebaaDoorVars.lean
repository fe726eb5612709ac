/-
  A region that draws its order and makes several variables of struct type, each filled by one store: whatever the order, behind it each variable holds what was stored. No program. By an AI agent.
-/
import Derived.Test.YtieajlpkiheebaaDoorMid
import Derived.Test.YtieajlpkiheebaaDoorRegion
namespace Go.Proofs.YtieajlpkiheebaaDoor
open Go.RowKit

/-- A variable: the operation that makes it, the one that fills it, its slot, the slot that is stored, its type, what it holds ahead and behind. -/
structure RVar where
  al : Nat
  st : Nat
  slot : Nat
  src : Nat
  t : TypeId
  z : List Value
  c : List Value
def apartB : List RVar → Bool
  | [] => true
  | x :: xs => x.al != x.st && xs.all (fun y => x.al != y.al && (x.al != y.st && (x.st != y.al && x.st != y.st))) && apartB xs
theorem apart_of : ∀ {vars : List RVar}, apartB vars = true → ∀ x ∈ vars, x.al ≠ x.st ∧ ∀ y ∈ vars, x.al ≠ y.st ∧ (x.al = y.al → x = y) ∧ (x.st = y.st → x = y)
  | [], _, x, hx => by cases hx
  | v :: vs, h, x, hx => by
    simp only [apartB, Bool.and_eq_true, bne_iff_ne, ne_eq, List.all_eq_true] at h
    obtain ⟨⟨h1, h2⟩, h3⟩ := h
    rcases List.mem_cons.1 hx with rfl | hx'
    · refine ⟨h1, fun y hy => ?_⟩
      rcases List.mem_cons.1 hy with rfl | hy
      · exact ⟨h1, fun _ => rfl, fun _ => rfl⟩
      · obtain ⟨g1, g2, g3, g4⟩ := h2 y hy
        exact ⟨g2, fun e => absurd e g1, fun e => absurd e g4⟩
    · have ih := apart_of h3 x hx'
      refine ⟨ih.1, fun y hy => ?_⟩
      rcases List.mem_cons.1 hy with rfl | hy
      · obtain ⟨g1, g2, g3, g4⟩ := h2 x hx'
        exact ⟨fun e => g3 e.symm, fun e => absurd e.symm g1, fun e => absurd e.symm g4⟩
      · exact ih.2 y hy

/-- Operation st waits for operation al. -/
def onB (ops : Array Oper) (st al : Nat) : Bool := (((ops[st]?).map (·.after)).getD #[]).any fun e => e.on == al && Region.binds .any e
theorem on_of {ops : Array Oper} {st al : Nat} (h : onB ops st al = true) : ∃ e ∈ ((ops[st]?).map (·.after)).getD #[], e.on = al ∧ Region.binds .any e = true := by
  obtain ⟨e, he, hon⟩ := Array.any_eq_true'.1 h
  simp only [Bool.and_eq_true, beq_iff_eq] at hon
  exact ⟨e, he, hon.1, hon.2⟩
def VV (vals : List Value) (vars : List RVar) (j : Nat) (_ : Bool) (v : Value) (_ : World) : Prop := (∀ x ∈ vars, x.al ≠ j) → v = vals.getD j undef
/-- What stands in the slots behind the region; gs: the variables' blocks. -/
def VEnd (vals : List Value) (vars : List RVar) (gs : List Nat) (i : Nat) (v : Value) (_ : World) : Prop :=
  v = match vars.findIdx? (fun x => x.al == i) with
    | some k => .pointer (some ⟨gs.getD k 0, 0, none⟩)
    | none => vals.getD i undef

section
variable {P : Program} {ops : Array Oper} {Q : Exit → Act → World → Prop} {vals : List Value} {vars : List RVar} {w0 : World} {a0 : Act}
structure VInv (ops : Array Oper) (vals : List Value) (vars : List RVar) (w0 : World) (a0 : Act) (listed : Array Bool) (a : Act) (w : World) : Prop where
  below : Below w0.heap.size w0 w
  lsize : listed.size = ops.size
  defers : a.defers = a0.defers
  size : a.tmps.size = a0.tmps.size
  val : ∀ j d, listed.getD j false = true → (ops[j]?).bind (·.dst) = some d → (∀ x ∈ vars, x.al ≠ j) → a.tmps.getD d undef = vals.getD j undef
  var : ∀ x ∈ vars, listed.getD x.al false = true → ∃ g, a.tmps.getD x.slot undef = .pointer (some ⟨g, 0, none⟩) ∧ w0.heap.size ≤ g ∧ Blk w g x.t (if listed.getD x.st false = true then x.c else x.z)
  apart : ∀ x ∈ vars, ∀ y ∈ vars, x.al ≠ y.al → listed.getD x.al false = true → listed.getD y.al false = true → a.tmps.getD x.slot undef ≠ a.tmps.getD y.slot undef
  same : ∀ t, (∀ j, listed.getD j false = true → (ops[j]?).bind (·.dst) ≠ some t) → a.tmps.getD t undef = a0.tmps.getD t undef
  closed : ∀ j o, listed.getD j false = true → ops[j]? = some o → ∀ e ∈ o.after, Region.binds .any e = true → listed.getD e.on false = true

/-- What is owed of the operations that make and fill a variable. -/
structure VarOk (P : Program) (ops : Array Oper) (Q : Exit → Act → World → Prop) (vals : List Value) (vars : List RVar) (x : RVar) : Prop where
  dal : (ops[x.al]?).bind (·.dst) = some x.slot
  dst : (ops[x.st]?).bind (·.dst) = none
  lst : x.st < ops.size
  len : x.z.length = x.c.length
  on : onB ops x.st x.al = true
  src : ∃ j, isDep ops x.st j x.src = true ∧ (∀ y ∈ vars, y.al ≠ j) ∧ vals.getD j undef = .agg x.c.toArray
  alloc : ∀ (a : Act) (w : World) (K : Act → World → Prop), K (a.put (some x.slot) (.pointer (some ⟨w.heap.size, 0, none⟩))) (w.alloc (.cells x.z.toArray x.t)) → wpOp P ops Q x.al K a w
  store : ∀ (a : Act) (w : World) (g : Nat) (K : Act → World → Prop), a.tmps.getD x.slot undef = .pointer (some ⟨g, 0, none⟩) → a.tmps.getD x.src undef = .agg x.c.toArray → w.there g 0 x.c.length → K a (w.setCells g 0 x.c) → wpOp P ops Q x.st K a w

theorem wpAny_vars (hc : chkReg ops a0.tmps.size = true) (hap : apartB vars = true) (hvar : ∀ x ∈ vars, VarOk P ops Q vals vars x)
    (hord : ∀ i, i < ops.size → (∀ x ∈ vars, x.al ≠ i ∧ x.st ≠ i) → RStep P ops Q (VV vals vars) (fun _ => fun w => Below w0.heap.size w0 w) (fun _ _ w w' => Below w.heap.size w w') a0 ops.size i)
    (hend : ∀ (w : World) (gs : List Nat), Below w0.heap.size w0 w → (∀ k x, vars[k]? = some x → w0.heap.size ≤ gs.getD k 0 ∧ Blk w (gs.getD k 0) x.t x.c) → REnd Q (VEnd vals vars gs) ops.toList 0 a0 w) :
    ∀ (fuel : Nat) (listed : Array Bool) (a : Act) (w : World), VInv ops vals vars w0 a0 listed a w → left listed ≤ fuel → wpAny P .any ops Q fuel listed a w := by
  have hfin : ∀ (listed : Array Bool) (a : Act) (w : World), VInv ops vals vars w0 a0 listed a w → Region.ready .any ops listed = [] → Q .normal a w := by
    intro listed a w hI hr
    have hall := ready_nil hc hr hI.lsize
    have hlt : ∀ j d, (ops[j]?).bind (·.dst) = some d → j < ops.size := by
      intro j d hd
      cases hj : ops[j]? with
      | none => rw [hj] at hd; cases hd
      | some _ => exact (Array.getElem?_eq_some_iff.1 hj).1
    have hgs : ∀ xs : List RVar, (∀ x ∈ xs, x ∈ vars) → ∃ gs : List Nat, gs.length = xs.length ∧ ∀ k x, xs[k]? = some x → a.tmps.getD x.slot undef = .pointer (some ⟨gs.getD k 0, 0, none⟩) ∧ w0.heap.size ≤ gs.getD k 0 ∧ Blk w (gs.getD k 0) x.t x.c := by
      intro xs
      induction xs with
      | nil => exact fun _ => ⟨[], rfl, fun k x h => by simp at h⟩
      | cons x xs ih =>
        intro hx
        obtain ⟨gs, hl, hg⟩ := ih (fun y hy => hx y (List.mem_cons_of_mem _ hy))
        have hxm := hx x List.mem_cons_self
        obtain ⟨g, g1, g2, g3⟩ := hI.var x hxm (hall _ (hlt _ _ (hvar x hxm).dal))
        rw [if_pos (hall _ (hvar x hxm).lst)] at g3
        refine ⟨g :: gs, by simp [hl], fun k y hk => ?_⟩
        cases k with
        | zero =>
          injection hk with hk
          subst hk
          exact ⟨g1, g2, g3⟩
        | succ k => exact hg k y hk
    obtain ⟨gs, _, hg⟩ := hgs vars (fun _ h => h)
    refine rend_of (V := VEnd vals vars gs) hc hI.defers hI.size (fun j d hd => ?_) ops.toList 0 a0 (fun j => by simp) rfl rfl (fun t ht => ?_) (hend w gs hI.below (fun k x hk => (hg k x hk).2))
    · unfold VEnd
      cases hf : vars.findIdx? (fun x => x.al == j) with
      | none =>
        rw [List.findIdx?_eq_none_iff] at hf
        exact hI.val j d (hall j (hlt j d hd)) hd (fun x hx e => by have := hf x hx; simp [e] at this)
      | some k =>
        obtain ⟨hk, hp, _⟩ := List.findIdx?_eq_some_iff_getElem.1 hf
        have hx := hg k vars[k] (List.getElem?_eq_getElem hk)
        have hal : vars[k].al = j := by simpa using hp
        have hd' := (hvar vars[k] (List.getElem_mem hk)).dal
        rw [hal, hd] at hd'
        injection hd' with hd'
        rw [hd']
        exact hx.1
    · exact (hI.same t (fun j _ => ht j (Nat.zero_le _))).symm
  intro fuel
  induction fuel with
  | zero =>
    intro listed a w hI hl
    have hr : Region.ready .any ops listed = [] := by
      cases hr : Region.ready .any ops listed with
      | nil => rfl
      | cons i rs =>
        exfalso
        obtain ⟨h1, h2, _⟩ := ready_mem (i := i) (by rw [hr]; exact List.mem_cons_self) hI.lsize
        have := left_set listed i (by rw [hI.lsize]; exact h1) h2
        omega
    exact ⟨hr, hfin listed a w hI hr⟩
  | succ fuel ih =>
    intro listed a w hI hl
    refine ⟨hfin listed a w hI, fun i hi => ?_⟩
    obtain ⟨h1, h2, h3⟩ := ready_mem hi hI.lsize
    have ho : ops[i]? = some ops[i] := Array.getElem?_eq_getElem h1
    have hil : i < listed.size := by rw [hI.lsize]; exact h1
    have hlow := left_set listed i hil h2
    -- what every step keeps
    have keep : ∀ (v : Value) (w' : World), Below w0.heap.size w0 w' → (∀ d, (ops[i]?).bind (·.dst) = some d → (∀ x ∈ vars, x.al ≠ i) → v = vals.getD i undef) →
        (∀ x ∈ vars, (listed.setIfInBounds i true).getD x.al false = true → ∃ g, (a.put ((ops[i]?).bind (·.dst)) v).tmps.getD x.slot undef = .pointer (some ⟨g, 0, none⟩) ∧ w0.heap.size ≤ g ∧ Blk w' g x.t (if (listed.setIfInBounds i true).getD x.st false = true then x.c else x.z)) →
        (∀ x ∈ vars, ∀ y ∈ vars, x.al ≠ y.al → (listed.setIfInBounds i true).getD x.al false = true → (listed.setIfInBounds i true).getD y.al false = true → (a.put ((ops[i]?).bind (·.dst)) v).tmps.getD x.slot undef ≠ (a.put ((ops[i]?).bind (·.dst)) v).tmps.getD y.slot undef) →
        wpAny P .any ops Q fuel (listed.setIfInBounds i true) (a.put ((ops[i]?).bind (·.dst)) v) w' := by
      intro v w' hb hv hvr hap'
      refine ih _ _ _ ⟨hb, by rw [Array.size_setIfInBounds]; exact hI.lsize, (defers_put _ _ _).trans hI.defers, (size_put _ _ _).trans hI.size, fun j d hj hd hn => ?_, hvr, hap', fun t ht => ?_, fun j o hj ho' e he hb => ?_⟩ (by omega)
      · rw [getD_set _ _ _ hil] at hj
        by_cases hji : j = i
        · subst hji
          rw [hd, tmps_put _ _ _ _ (by rw [hI.size]; exact (chk_dst hc hd).1), if_pos rfl]
          exact hv d hd hn
        · have hj' : listed.getD j false = true := by simpa [hji] using hj
          have hold := hI.val j d hj' hd hn
          cases hdi : (ops[i]?).bind (·.dst) with
          | none => exact hold
          | some di =>
            rw [tmps_put _ _ _ _ (by rw [hI.size]; exact (chk_dst hc hdi).1), if_neg (fun e => hji ((chk_dst hc hdi).2 j (by rw [← e]; exact hd)))]
            exact hold
      · have hti : (ops[i]?).bind (·.dst) ≠ some t := ht i (by rw [getD_set _ _ _ hil]; simp)
        have hold := hI.same t (fun j hj => ht j (by rw [getD_set _ _ _ hil, hj]; simp))
        cases hdi : (ops[i]?).bind (·.dst) with
        | none => exact hold
        | some di =>
          rw [tmps_put _ _ _ _ (by rw [hI.size]; exact (chk_dst hc hdi).1), if_neg (fun e => hti (by rw [hdi, e]))]
          exact hold
      · rw [getD_set _ _ _ hil] at hj ⊢
        by_cases hji : j = i
        · subst hji
          rw [h3 o ho' e he hb]; simp
        · have hj' : listed.getD j false = true := by simpa [hji] using hj
          rw [hI.closed j o hj' ho' e he hb]; simp
    -- a variable's slot, where another operation has written
    have slot : ∀ (v : Value) (x : RVar), x ∈ vars → x.al ≠ i → (a.put ((ops[i]?).bind (·.dst)) v).tmps.getD x.slot undef = a.tmps.getD x.slot undef := by
      intro v x hx hne
      cases hdi : (ops[i]?).bind (·.dst) with
      | none => rfl
      | some di =>
        rw [tmps_put _ _ _ _ (by rw [hI.size]; exact (chk_dst hc hdi).1), if_neg (fun e => hne ((chk_dst hc hdi).2 x.al (by rw [← e]; exact (hvar x hx).dal)))]
    have mem : ∀ j, j ≠ i → (listed.setIfInBounds i true).getD j false = listed.getD j false := fun j hj => by rw [getD_set _ _ _ hil]; simp [hj]
    by_cases hA : ∃ x ∈ vars, x.al = i
    · obtain ⟨x, hx, hxi⟩ := hA
      have hd := (hvar x hx).dal
      rw [hxi] at hd
      have hst := apart_of hap x hx
      have hnst : listed.getD x.st false = false := by
        cases hq : listed.getD x.st false with
        | false => rfl
        | true =>
          exfalso
          obtain ⟨e, he, hon, hbd⟩ := on_of (hvar x hx).on
          have hls := (hvar x hx).lst
          have hos : ops[x.st]? = some ops[x.st] := Array.getElem?_eq_getElem hls
          rw [hos] at he
          have := hI.closed x.st _ hq hos e he hbd
          rw [hon, hxi, h2] at this
          cases this
      rw [← hxi]
      refine (hvar x hx).alloc a w _ ?_
      have hput : a.put (some x.slot) (.pointer (some ⟨w.heap.size, 0, none⟩)) = a.put ((ops[i]?).bind (·.dst)) (.pointer (some ⟨w.heap.size, 0, none⟩)) := by rw [hd]
      rw [hput, hxi]
      have hsz : x.slot < a.tmps.size := by rw [hI.size]; exact (chk_dst hc hd).1
      have hnew : (a.put ((ops[i]?).bind (·.dst)) (.pointer (some ⟨w.heap.size, 0, none⟩))).tmps.getD x.slot undef = .pointer (some ⟨w.heap.size, 0, none⟩) := by
        rw [hd, tmps_put _ _ _ _ hsz, if_pos rfl]
      refine keep _ _ (hI.below.alloc hI.below.size _) (fun _ _ h => absurd hxi (h x hx)) (fun y hy hly => ?_) (fun y hy z hz hyz hly hlz => ?_)
      · by_cases hyx : y.al = i
        · obtain rfl : x = y := (hst.2 y hy).2.1 (by rw [hxi, hyx])
          refine ⟨w.heap.size, hnew, hI.below.size, ?_⟩
          rw [mem x.st (fun e => hst.1 (by rw [hxi, e])), hnst]
          simp only [Bool.false_eq_true, if_false]
          exact Blk.new w x.t x.z.toArray
        · rw [mem _ hyx] at hly
          obtain ⟨g, g1, g2, g3⟩ := hI.var y hy hly
          refine ⟨g, by rw [slot _ y hy hyx]; exact g1, g2, ?_⟩
          rw [mem y.st (fun e => (hst.2 y hy).1 (by rw [hxi, e]))]
          exact g3.alloc _
      · have far : ∀ y ∈ vars, y.al ≠ i → (listed.setIfInBounds i true).getD y.al false = true → a.tmps.getD y.slot undef ≠ .pointer (some ⟨w.heap.size, 0, none⟩) := by
          intro y hy hyi hly e
          rw [mem _ hyi] at hly
          obtain ⟨g, g1, _, g3⟩ := hI.var y hy hly
          rw [g1] at e
          injection e with e
          injection e with e
          injection e with e
          have := g3.lt
          omega
        by_cases hyi : y.al = i
        · obtain rfl : x = y := (hst.2 y hy).2.1 (by rw [hxi, hyi])
          rw [hnew, slot _ z hz (fun e => hyz (by rw [hyi, e]))]
          exact fun e => far z hz (fun e => hyz (by rw [hyi, e])) hlz e.symm
        · by_cases hzi : z.al = i
          · obtain rfl : x = z := (hst.2 z hz).2.1 (by rw [hxi, hzi])
            rw [hnew, slot _ y hy hyi]
            exact far y hy hyi hly
          · rw [slot _ y hy hyi, slot _ z hz hzi]
            rw [mem _ hyi] at hly
            rw [mem _ hzi] at hlz
            exact hI.apart y hy z hz hyz hly hlz
    · have hA' : ∀ x ∈ vars, x.al ≠ i := fun x hx e => hA ⟨x, hx, e⟩
      by_cases hS : ∃ x ∈ vars, x.st = i
      · obtain ⟨x, hx, hxi⟩ := hS
        have hst := apart_of hap x hx
        have hd := (hvar x hx).dst
        rw [hxi] at hd
        have hla : listed.getD x.al false = true := by
          obtain ⟨e, he, hon, hbd⟩ := on_of (hvar x hx).on
          rw [hxi, ho] at he
          rw [← hon]
          exact h3 _ ho e he hbd
        obtain ⟨g, g1, g2, g3⟩ := hI.var x hx hla
        have hn : listed.getD x.st false = false := by rw [hxi]; exact h2
        rw [hn] at g3
        simp only [Bool.false_eq_true, if_false] at g3
        obtain ⟨j, hj1, hj2, hj3⟩ := (hvar x hx).src
        have hsv : a.tmps.getD x.src undef = .agg x.c.toArray := by
          rw [← hj3]
          unfold isDep at hj1
          rw [hxi, ho] at hj1
          simp only [Option.map_some, Option.getD_some, Bool.and_eq_true, beq_iff_eq] at hj1
          obtain ⟨hany, hdd⟩ := hj1
          obtain ⟨e, he, hon⟩ := Array.any_eq_true'.1 hany
          simp only [Bool.and_eq_true, beq_iff_eq] at hon
          exact hI.val j x.src (by rw [← hon.1]; exact h3 _ ho e he hon.2) hdd hj2
        rw [← hxi]
        refine (hvar x hx).store a w g _ g1 hsv (g3.there 0 _ (by rw [(hvar x hx).len]; omega)) ?_
        have hput : a = a.put ((ops[i]?).bind (·.dst)) undef := by rw [hd]; rfl
        rw [hxi]
        have hgo := keep undef (w.setCells g 0 x.c) (below_setCells hI.below g2 _ _) (fun d hd' => by rw [hd] at hd'; cases hd') (fun y hy hly => ?_) (fun y hy z hz hyz hly hlz => ?_)
        · rw [← hput] at hgo; exact hgo
        · rw [mem _ (hA' y hy)] at hly
          rw [slot _ y hy (hA' y hy)]
          by_cases hyx : y.st = i
          · obtain rfl : x = y := (hst.2 y hy).2.2 (by rw [hxi, hyx])
            refine ⟨g, g1, g2, ?_⟩
            rw [hyx, getD_set _ _ _ hil]
            simp only [decide_true, Bool.true_or, if_true]
            have := g3.setCells x.c 0 (by rw [(hvar x hx).len]; omega)
            rw [spl_all _ _ (hvar x hx).len.symm] at this
            exact this
          · obtain ⟨g', q1, q2, q3⟩ := hI.var y hy hly
            refine ⟨g', q1, q2, ?_⟩
            rw [mem _ hyx]
            refine q3.grown (grown_setCells x.c w 0) (fun e => ?_)
            injection e with e
            have hne : x.al ≠ y.al := fun e' => hyx (by rw [← hxi]; rw [(hst.2 y hy).2.1 e'])
            exact hI.apart x hx y hy hne hla hly (by rw [g1, q1, e])
        · rw [slot _ y hy (hA' y hy), slot _ z hz (hA' z hz)]
          rw [mem _ (hA' y hy)] at hly
          rw [mem _ (hA' z hz)] at hlz
          exact hI.apart y hy z hz hyz hly hlz
      · have hS' : ∀ x ∈ vars, x.st ≠ i := fun x hx e => hS ⟨x, hx, e⟩
        have hnm : ¬ ops.size < i := by omega
        refine hord i h1 (fun x hx => ⟨hA' x hx, hS' x hx⟩) a w hI.below (fun j d hjd => ?_) (fun t ht => ?_) _ ?_
        · intro hnj
          unfold isDep at hjd
          rw [ho] at hjd
          simp only [Option.map_some, Option.getD_some, Bool.and_eq_true, beq_iff_eq] at hjd
          obtain ⟨hany, hdd⟩ := hjd
          obtain ⟨e, he, hon⟩ := Array.any_eq_true'.1 hany
          simp only [Bool.and_eq_true, beq_iff_eq] at hon
          exact hI.val j d (by rw [← hon.1]; exact h3 _ ho e he hon.2) hdd hnj
        · refine hI.same t (fun j hj hdj => ?_)
          unfold okSame at ht
          have hjl : j < ops.size := by
            cases hj' : ops[j]? with
            | none => rw [hj'] at hdj; cases hdj
            | some _ => exact (Array.getElem?_eq_some_iff.1 hj').1
          have hoj : ops[j]? = some ops[j] := Array.getElem?_eq_getElem hjl
          have hh := List.all_eq_true.1 ht j (List.mem_range.2 hjl)
          rw [hoj] at hh hdj
          have hd' : ops[j].dst = some t := hdj
          simp only [hd', bne_self_eq_false, Bool.false_or] at hh
          obtain ⟨e, he, hon⟩ := Array.any_eq_true'.1 hh
          simp only [Bool.and_eq_true, beq_iff_eq] at hon
          have := hI.closed j _ hj hoj e he hon.2
          rw [hon.1, h2] at this
          cases this
        · intro v w' hv hg' hE
          refine keep v w' hg' (fun _ _ => hv) (fun y hy hly => ?_) (fun y hy z hz hyz hly hlz => ?_)
          · rw [mem _ (hA' y hy)] at hly
            obtain ⟨g, q1, q2, q3⟩ := hI.var y hy hly
            refine ⟨g, by rw [slot _ y hy (hA' y hy)]; exact q1, q2, ?_⟩
            rw [mem _ (hS' y hy)]
            exact q3.ext hE
          · rw [slot _ y hy (hA' y hy), slot _ z hz (hA' z hz)]
            rw [mem _ (hA' y hy)] at hly
            rw [mem _ (hA' z hz)] at hlz
            exact hI.apart y hy z hz hyz hly hlz

/-- THE REGION. -/
theorem wp_region_vars {id : Nat} (n : Nat) (vals : List Value) (vars : List RVar) (hm : P.follows .mixedOrders = true) (hn : ops.size = n) (hc : chkReg ops a0.tmps.size = true) (hap : apartB vars = true) (hvar : ∀ x ∈ vars, VarOk P ops Q vals vars x)
    (hord : AllFrom (fun i => (∀ x ∈ vars, x.al ≠ i ∧ x.st ≠ i) → RStep P ops Q (VV vals vars) (fun _ => fun w => Below w0.heap.size w0 w) (fun _ _ w w' => Below w.heap.size w w') a0 n i) 0 n)
    (hend : ∀ (w : World) (gs : List Nat), Below w0.heap.size w0 w → (∀ k x, vars[k]? = some x → w0.heap.size ≤ gs.getD k 0 ∧ Blk w (gs.getD k 0) x.t x.c) → REnd Q (VEnd vals vars gs) ops.toList 0 a0 w) :
    (Code.region id ops true).wp P Q a0 w0 := by
  subst hn
  have hfl : ∀ j, (Array.replicate ops.size false).getD j false = false := fun j => by
    rw [Array.getD_eq_getD_getElem?, Array.getElem?_replicate]; split <;> rfl
  refine wp_region_any hm (wpAny_vars hc hap hvar (fun i hi h => AllFrom.get ops.size 0 hord i (Nat.zero_le _) (by omega) h) hend ops.size _ a0 _ ⟨(Below.refl _ _).drew, by simp, rfl, rfl, fun j d hj => ?_, fun x hx hl => ?_, fun x hx y hy hxy hl => ?_, fun _ _ => rfl, fun j o hj => ?_⟩ ?_)
  · rw [hfl] at hj; cases hj
  · rw [hfl] at hl; cases hl
  · rw [hfl] at hl; cases hl
  · rw [hfl] at hj; cases hj
  · unfold left
    refine Nat.le_trans (List.length_filter_le _ _) ?_
    simp
end
end Go.Proofs.YtieajlpkiheebaaDoor
