/-
  Structs and arrays of many cells in a block of the call's own: loads, stores and results, whole. No program. By an AI agent.
-/
import Derived.Test.YtahcbgllnoopgaaRegion
import Derived.Deep.MidRow
import Derived.Deep.DeepCutAuto
import Derived.Deep.RegionHeld3
namespace Go.Proofs.Ytahcbgllnoopgaa
open Go.RowKit

/-- A list with some of its elements replaced. -/
def spl (cs : List Value) (o : Nat) (vs : List Value) : List Value := cs.take o ++ (vs ++ cs.drop (o + vs.length))
theorem spl_len (cs : List Value) (o : Nat) (vs : List Value) (h : o + vs.length ≤ cs.length) : (spl cs o vs).length = cs.length := by
  unfold spl
  rw [List.length_append, List.length_append, List.length_take, List.length_drop]
  omega
theorem spl_nil (cs : List Value) (o : Nat) : spl cs o [] = cs := by unfold spl; simp
theorem spl_cons (cs : List Value) (o : Nat) (v : Value) (vs : List Value) (h : o + (vs.length + 1) ≤ cs.length) : spl (cs.set o v) (o + 1) vs = spl cs o (v :: vs) := by
  unfold spl
  have ho : o < cs.length := by omega
  have e1 : (cs.set o v).take (o + 1) = cs.take o ++ [v] := by
    rw [List.take_succ_eq_append_getElem (by rw [List.length_set]; exact ho), List.take_set_of_le (Nat.le_refl _), List.getElem_set_self]
  have e2 : (cs.set o v).drop (o + 1 + vs.length) = cs.drop (o + 1 + vs.length) := List.drop_set_of_lt (by omega)
  rw [e1, e2, List.length_cons, List.append_assoc, show o + 1 + vs.length = o + (vs.length + 1) by omega]
  rfl
theorem spl_all (cs vs : List Value) (h : vs.length = cs.length) : spl cs 0 vs = vs := by
  unfold spl
  rw [List.take_zero, List.nil_append, Nat.zero_add, h, List.drop_length, List.append_nil]
/-- One stretch behind the other. -/
theorem spl_spl (cs : List Value) (o : Nat) (us vs : List Value) (h : o + us.length + vs.length ≤ cs.length) : spl (spl cs o us) (o + us.length) vs = spl cs o (us ++ vs) := by
  unfold spl
  have hl : (cs.take o).length = o := by rw [List.length_take]; omega
  have e1 : (cs.take o ++ (us ++ cs.drop (o + us.length))).take (o + us.length) = cs.take o ++ us := by
    rw [← List.append_assoc, List.take_left' (by rw [List.length_append, hl])]
  have e2 : (cs.take o ++ (us ++ cs.drop (o + us.length))).drop (o + us.length + vs.length) = cs.drop (o + us.length + vs.length) := by
    rw [← List.append_assoc, List.drop_append, List.drop_eq_nil_of_le (by rw [List.length_append, hl]; omega), List.nil_append, List.length_append, hl, List.drop_drop]
    congr 1
    omega
  rw [e1, e2, List.length_append, List.append_assoc, List.append_assoc, Nat.add_assoc]

section
variable {P : Program} {w w' : World} {g : Nat} {t : TypeId} {cs : List Value}
theorem Blk.range (h : Blk w g t cs) : w.rangeAt g 0 cs := fun j v hv => by
  rw [Nat.zero_add, h.cell j]; exact hv
theorem Blk.rangeMid (h : Blk w g t cs) (o : Nat) (vs : List Value) (hv : vs = (cs.drop o).take vs.length) : w.rangeAt g o vs := fun j v hj => by
  rw [hv, List.getElem?_take] at hj
  split at hj
  · rw [List.getElem?_drop] at hj
    rw [h.cell]; exact hj
  · cases hj
theorem Blk.there (h : Blk w g t cs) (o n : Nat) (hn : o + n ≤ cs.length) : w.there g o n := fun j hj => by
  refine ⟨?_, h.frozen _⟩
  rw [h.cell, List.getElem?_eq_getElem (by omega)]; rfl
theorem Blk.setCells (vs : List Value) : ∀ {w : World} {cs : List Value} (o : Nat), Blk w g t cs → o + vs.length ≤ cs.length → Blk (w.setCells g o vs) g t (spl cs o vs) := by
  induction vs with
  | nil => intro w cs o h _; rw [spl_nil]; exact h
  | cons v vs ih =>
    intro w cs o h hl
    rw [List.length_cons] at hl
    rw [← spl_cons cs o v vs hl]
    exact ih (o + 1) (h.set_ o v) (by rw [List.length_set]; omega)
theorem grown_setCells (vs : List Value) : ∀ (w : World) (o : Nat), w.grownBy (w.setCells g o vs) (some g) := by
  induction vs with
  | nil => intro w o; exact World.grownBy.refl w _
  | cons v vs ih =>
    intro w o
    refine World.grownBy.trans ?_ (ih (w.setCell ⟨g, o, none⟩ v) (o + 1))
    exact ⟨rfl, rfl, rfl, by simp, fun i hi hne => Below.heap_setCell w _ v i (fun e => hne (by rw [e]))⟩
theorem below_setCells {B : Nat} {a : World} (h : Below B a w) (hg : B ≤ g) (o : Nat) (vs : List Value) : Below B a (w.setCells g o vs) := by
  induction vs generalizing w o with
  | nil => exact h
  | cons v vs ih => exact ih (h.setCell hg v) (o + 1)

/-- A load of a struct or row, whether guarded (its guard has said yes) or not. -/
theorem wpList_load_at {ops : Array Oper} {rest : List Oper} {op : Oper} {a : Act} {w : World} {Q : Exit → Act → World → Prop} (ty : TypeId) (x : Operand) (ho : op.op = .load ty x)
    (hw : Region.wanted op (yielded ops a.tmps) = true) (b o : Nat) (hx : a.eval x = .pointer (some ⟨b, o, none⟩)) (cs : List Value) (d : TypeDesc) (hc : w.rangeAt b o cs)
    (hu : P.underlying ty = some d) (hd : d.isRow = true) (hi : (P.info? ty).map (·.size) = some cs.length)
    (h : wpList P ops Q rest (a.put op.dst (.agg cs.toArray)) w) : wpList P ops Q (op :: rest) a w :=
  wpList_step fun K hK => by
    simp only [hw, if_true]
    exact wp_load_mid ty x ho b o hx cs d hc hu hd hi (hK _ _ h)
/-- Results that are a struct or a row in memory, and a slot. -/
theorem res_cell2 {fn : Func} {tmps : Array Value} {a b : Nat} {v : Value} (cs : List Value) (d : TypeDesc) (hf : fn.results = #[.cell a t, .tmp b]) (ha : tmps.getD a undef = .pointer (some ⟨g, 0, none⟩)) (hc : w.rangeAt g 0 cs)
    (hu : P.underlying t = some d) (hd : d.isRow = true) (hi : (P.info? t).map (·.size) = some cs.length) (hb : tmps.getD b undef = v) :
    (results fn tmps).run P w = .ok (.tuple #[.agg cs.toArray, v]) w := by
  have hl := run_loadVar_mid (P := P) w g 0 t cs d hc hu hd hi
  rw [Array.getD_eq_getD_getElem?] at ha hb
  unfold results
  rw [hf]
  simp [ha, hb, hl, asAddr]
theorem res_cell1 {fn : Func} {tmps : Array Value} {a : Nat} (cs : List Value) (d : TypeDesc) (hf : fn.results = #[.cell a t]) (ha : tmps.getD a undef = .pointer (some ⟨g, 0, none⟩)) (hc : w.rangeAt g 0 cs)
    (hu : P.underlying t = some d) (hd : d.isRow = true) (hi : (P.info? t).map (·.size) = some cs.length) :
    (results fn tmps).run P w = .ok (.agg cs.toArray) w := by
  have hl := run_loadVar_mid (P := P) w g 0 t cs d hc hu hd hi
  rw [Array.getD_eq_getD_getElem?] at ha
  unfold results
  rw [hf]
  simp [ha, hl, asAddr]
end
end Go.Proofs.Ytahcbgllnoopgaa
