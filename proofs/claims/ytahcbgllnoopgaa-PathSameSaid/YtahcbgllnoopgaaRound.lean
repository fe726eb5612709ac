/-
  Within a round of a range over a function: what was walked for plain code serves there too, operation by operation, where no operation is a defer statement. No program. By an AI agent.
-/
import Derived.Test.YtahcbgllnoopgaaRegion
import Derived.RangeFuncNested
import Derived.RangeFuncBound
import Derived.RangeFuncCalls
import Derived.RangeFuncLeaves
import Derived.Shelf.Abstract
import Derived.Shelf.RegionOpen
import Derived.OwnWalkIn
import Derived.TacticsInMore
import Derived.LoopNIn
import Derived.LoopIn
import Derived.Sort.CutIn
namespace Go.Proofs.Ytahcbgllnoopgaa
open Go.RowKit

/-- No defer statement. -/
def noDefer (o : Oper) : Bool := match o.op with | .defer _ => false | _ => true
theorem noDefer_ne {o : Oper} (h : noDefer o = true) : ∀ c, o.op ≠ .defer c := by
  intro c e
  unfold noDefer at h
  rw [e] at h
  cases h

section
variable {P : Program} {ops : Array Oper} {Q : Exit → Act → World → Prop} {n l : Nat}

theorem calls_round {f : FuncId} {args : Array Value} {w : World} {R : Ending → World → Prop} (h : Calls P f args w R) : CallsIn (Fence.wide.inRound l) n P f args w R := CallsIn.inRound l (callsIn_wide.2 h)
theorem rows_round {row : String} {args : Array Value} {w : World} {R : Value → World → Prop} (h : Rows P row args w R) : RowsIn (Fence.wide.inRound l) n P row args w R :=
  fun c cs _ => let ⟨v, w', hr, s⟩ := h c cs; ⟨v, w', hr, stepsIn_wide.2 s⟩

theorem oper_round {o : Oper} (hd : noDefer o = true) {a : Act} {w : World} {K : Act → World → Prop} (h : o.wp P a w K Q) : o.wpIn (Fence.wide.inRound l) n P a w K Q := by
  refine ⟨fun _ _ => trivial, ?_⟩
  rw [Fence.inRound_round, Oper.semAt_some l _ o (noDefer_ne hd)]
  unfold Oper.wp at h
  generalize (execOp a.eval o).run P w = r at *
  cases r with
  | ok x w' =>
    cases x <;> simp only [Oper.upon, Oper.uponIn] at h ⊢ <;>
      first
        | exact h
        | exact ⟨fun h => by simp [Fence.wide, Fence.inRound] at h, calls_round h⟩
        | exact ⟨fun h => by simp [Fence.wide, Fence.inRound] at h, rows_round h⟩
        | exact h.elim
  | halt x w' => cases x <;> simp only [Oper.upon, Oper.uponIn] at h ⊢ <;> exact h

theorem list_round (hQ : ¬ LetsOut Q) : ∀ (rest : List Oper) (_ : rest.all noDefer = true) {a : Act} {w : World}, wpList P ops Q rest a w → wpListIn (Fence.wide.inRound l) n P ops Q rest a w
  | [], _, _, _, h => h
  | o :: rest, hd, a, w, h => by
    rw [List.all_cons, Bool.and_eq_true] at hd
    unfold wpList at h
    unfold wpListIn
    split
    · rename_i hw
      rw [if_pos hw] at h
      rcases h with h | h
      · exact Oper.wpIn_mono (fun _ _ hh => list_round hQ rest hd.2 hh) (oper_round hd.1 h)
      · exact absurd h.2 hQ
    · rename_i hw
      rw [if_neg hw] at h
      exact ⟨fun _ _ => trivial, list_round hQ rest hd.2 h⟩

theorem op_round (hQ : ¬ LetsOut Q) (hd : ops.all noDefer = true) {i : Nat} {K : Act → World → Prop} {a : Act} {w : World} (h : wpOp P ops Q i K a w) : wpOpIn (Fence.wide.inRound l) n P ops Q i K a w := by
  unfold wpOp at h
  unfold wpOpIn
  cases ho : ops[i]? with
  | none => rw [ho] at h; exact h
  | some o =>
    rw [ho] at h
    have hdo : noDefer o = true := by
      obtain ⟨hi, he⟩ := Array.getElem?_eq_some_iff.1 ho
      rw [← he]
      exact (Array.all_eq_true.1 hd) i hi
    dsimp only at h ⊢
    split
    · rename_i hw
      rw [if_pos hw] at h
      rcases h with h | h
      · exact oper_round hdo h
      · exact absurd h.2 hQ
    · rename_i hw
      rw [if_neg hw] at h
      exact ⟨fun _ _ => trivial, h⟩

theorem any_round (hQ : ¬ LetsOut Q) (hd : ops.all noDefer = true) {md : Region.Mode} : ∀ (fuel : Nat) (listed : Array Bool) (a : Act) (w : World), wpAny P md ops Q fuel listed a w → wpAnyIn (Fence.wide.inRound l) n P md ops Q fuel listed a w
  | 0, _, _, _, h => h
  | fuel + 1, _, _, _, h => ⟨h.1, fun i hi => wpOpIn_mono (fun a w hh => any_round hQ hd fuel _ a w hh) (op_round hQ hd (h.2 i hi))⟩

/-- A region that draws its order. -/
theorem region_any_round (hQ : ¬ LetsOut Q) (hd : ops.all noDefer = true) {id : Nat} {a : Act} {w : World} (hm : P.follows .mixedOrders = true)
    (h : wpAny P .any ops Q ops.size (Array.replicate ops.size false) a { w with drawn := w.drawn + 1 }) : (Code.region id ops true).wpIn (Fence.wide.inRound l) n P Q a w :=
  wpIn_region_any hm (any_round hQ hd _ _ _ _ h)
/-- One that does not. -/
theorem region_round (hQ : ¬ LetsOut Q) {id : Nat} {os : List Oper} (hd : os.all noDefer = true) {a : Act} {w : World} (h : wpList P os.toArray Q os a w) : (Code.region id os.toArray false).wpIn (Fence.wide.inRound l) n P Q a w :=
  wpIn_region_lit (list_round hQ os hd h)
end
/-! ### The regions of XRegion, in a round -/
section
variable {P : Program} {ops : Array Oper} {Q : Exit → Act → World → Prop} {V : Nat → Bool → Value → World → Prop} {G : Bool → World → Prop} {E : Bool → Act → World → World → Prop} {a0 : Act} {m : Nat}
theorem wpIn_region_vals {n9 l9 : Nat} (hQ9 : ¬ LetsOut Q) (hd9 : ops.all noDefer = true) {id : Nat} {w : World} (m : Nat) (V : Nat → Bool → Value → World → Prop) (G : Bool → World → Prop) (E : Bool → Act → World → World → Prop) (hm : P.follows .mixedOrders = true) (hc : chkReg ops a0.tmps.size = true) (htl : chkTail ops m = true) (hG : G false w.drew)
    (hst : ∀ i b v a w w', V i b v w → E false a w w' → V i b v w') (hst2 : ∀ i d, i < m → (ops[i]?).bind (·.dst) = some d → ∀ a w w', V i false (a.tmps.getD d undef) w → E true a w w' → V i true (a.tmps.getD d undef) w') (hstep : ∀ i, i < ops.size → RStep P ops Q V G E a0 m i) (hend : ∀ w, G (decide (m < ops.size)) w → REnd Q (fun i => V i (decide (m < ops.size))) ops.toList 0 a0 w) : (Code.region id ops true).wpIn (Fence.wide.inRound l9) n9 P Q a0 w := by
  have hfl : ∀ j, (Array.replicate ops.size false).getD j false = false := fun j => by
    rw [Array.getD_eq_getD_getElem?, Array.getElem?_replicate]; split <;> rfl
  refine region_any_round hQ9 hd9 hm (wpAny_vals hc htl hst hst2 hstep hend ops.size _ a0 _ ⟨by rw [hfl]; exact hG, by simp, rfl, rfl, fun j d hj => ?_, fun _ _ => rfl, fun j o hj => ?_⟩ ?_)
  · exfalso; rw [Array.getD_eq_getD_getElem?, Array.getElem?_replicate] at hj; split at hj <;> simp at hj
  · exfalso; rw [Array.getD_eq_getD_getElem?, Array.getElem?_replicate] at hj; split at hj <;> simp at hj
  · unfold left
    refine Nat.le_trans (List.length_filter_le _ _) ?_
    simp
theorem wpIn_region_list {n9 l9 : Nat} (hQ9 : ¬ LetsOut Q) (hd9 : ops.all noDefer = true) {id : Nat} {w : World} (n : Nat) (Vs : List (Value → World → Prop)) (G : World → Prop) (hm : P.follows .mixedOrders = true) (hn : ops.size = n) (hc : chkReg ops a0.tmps.size = true) (hG : G w.drew) (hst : AllStab Vs)
    (hstep : AllFrom (RStep P ops Q (fun i _ => Vs.getD i fun _ _ => True) (fun _ => G) (fun _ _ w w' => Below w.heap.size w w') a0 n) 0 n)
    (hend : ∀ w, G w → REnd Q (fun i => Vs.getD i fun _ _ => True) ops.toList 0 a0 w) : (Code.region id ops true).wpIn (Fence.wide.inRound l9) n9 P Q a0 w :=
  wpIn_region_vals hQ9 hd9 n (fun i _ => Vs.getD i fun _ _ => True) (fun _ => G) (fun _ _ w w' => Below w.heap.size w w') hm hc (by unfold chkTail; simp [hn]) hG (fun i _ v _ w w' h hb => AllStab.get Vs hst i v w w' h hb) (fun i _ _ _ _ w w' h hb => AllStab.get Vs hst i _ w w' h hb) (fun i hi => AllFrom.get n 0 hstep i (Nat.zero_le _) (by omega)) hend
theorem wpIn_region_tail {n9 l9 : Nat} (hQ9 : ¬ LetsOut Q) (hd9 : ops.all noDefer = true) {id : Nat} {w : World} (n m : Nat) (Vs : List (Value → World → Prop)) (G : Bool → World → Prop) (E : World → World → Prop) (hm : P.follows .mixedOrders = true) (hn : ops.size = n) (hmn : m < n) (hc : chkReg ops a0.tmps.size = true) (htl : chkTail ops m = true) (hG : G false w.drew)
    (hst : AllStab Vs) (hst2 : AllStabE E (Vs.take m))
    (hstep : AllFrom (RStep P ops Q (fun i _ => Vs.getD i fun _ _ => True) G (fun b _ w w' => if b then E w w' else Below w.heap.size w w') a0 m) 0 n)
    (hend : ∀ w, G true w → REnd Q (fun i => Vs.getD i fun _ _ => True) ops.toList 0 a0 w) : (Code.region id ops true).wpIn (Fence.wide.inRound l9) n9 P Q a0 w :=
  wpIn_region_vals hQ9 hd9 m (fun i _ => Vs.getD i fun _ _ => True) G (fun b _ w w' => if b then E w w' else Below w.heap.size w w') hm hc htl hG (fun i _ v _ w w' h hb => AllStab.get Vs hst i v w w' h (by simpa using hb))
    (fun i d hi _ a w w' h hb => by
      have := AllStabE.get (Vs.take m) hst2 i (a.tmps.getD d undef) w w'
      have e : (Vs.take m).getD i (fun _ _ => True) = Vs.getD i (fun _ _ => True) := by
        rw [List.getD_eq_getElem?_getD, List.getD_eq_getElem?_getD, List.getElem?_take, if_pos hi]
      rw [e] at this
      exact this h (by simpa using hb))
    (fun i hi => AllFrom.get n 0 hstep i (Nat.zero_le _) (by omega)) (by rw [decide_eq_true (by omega)]; exact hend)
theorem wpIn_region_turn {n9 l9 : Nat} (hQ9 : ¬ LetsOut Q) (hd9 : ops.all noDefer = true) {id : Nat} {w : World} (n m : Nat) (Vs Us : List (Value → World → Prop)) (G : Bool → World → Prop) (E : Act → World → World → Prop) (hm : P.follows .mixedOrders = true) (hn : ops.size = n) (hmn : m < n) (hc : chkReg ops a0.tmps.size = true) (htl : chkTail ops m = true) (hG : G false w.drew)
    (hst : AllStab Vs) (hstU : AllStab Us)
    (hst2 : AllFrom (fun i => ∀ d, (ops[i]?).bind (·.dst) = some d → ∀ a w w', (Vs.getD i fun _ _ => True) (a.tmps.getD d undef) w → E a w w' → (Us.getD i fun _ _ => True) (a.tmps.getD d undef) w') 0 m)
    (hstep : AllFrom (RStep P ops Q (fun i b => if b then Us.getD i fun _ _ => True else Vs.getD i fun _ _ => True) G (fun b a w w' => if b then E a w w' else Below w.heap.size w w') a0 m) 0 n)
    (hend : ∀ w, G true w → REnd Q (fun i => Us.getD i fun _ _ => True) ops.toList 0 a0 w) : (Code.region id ops true).wpIn (Fence.wide.inRound l9) n9 P Q a0 w :=
  wpIn_region_vals hQ9 hd9 m (fun i b => if b then Us.getD i fun _ _ => True else Vs.getD i fun _ _ => True) G (fun b a w w' => if b then E a w w' else Below w.heap.size w w') hm hc htl hG
    (fun i b v _ w w' h hb => by
      cases b with
      | true => exact AllStab.get Us hstU i v w w' h (by simpa using hb)
      | false => exact AllStab.get Vs hst i v w w' h (by simpa using hb))
    (fun i d hi hd a w w' h hb => AllFrom.get m 0 hst2 i (Nat.zero_le _) (by omega) d hd a w w' h (by simpa using hb))
    (fun i hi => AllFrom.get n 0 hstep i (Nat.zero_le _) (by omega)) (by rw [decide_eq_true (by omega)]; exact hend)
end
end Go.Proofs.Ytahcbgllnoopgaa
