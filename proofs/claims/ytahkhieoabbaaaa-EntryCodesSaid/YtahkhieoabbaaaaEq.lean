/-
  Two structs or arrays of integers, to whatever depth: == tells whether their cells are the same. No program. By an AI agent.
-/
import Derived.Test.YtahkhieoabbaaaaMid
import Derived.ChangeKeysEq
namespace Go.Proofs.Ytahkhieoabbaaaa
open Go.RowKit

def tile (P : Program) : List Field → Nat → Option Nat
  | [], o => some o
  | f :: fs, o => if f.offset = o then tile P fs (o + P.cellsOf f.type) else none
/-- A type of integers alone, whose parts lie one behind the other. -/
def chkT (P : Program) : Nat → TypeId → Bool
  | 0, _ => false
  | d + 1, t => match P.underlying t with
    | some (.int _) => P.cellsOf t == 1
    | some (.struct fs) => !P.stoodInHeld t && ((P.info? t).isSome && (tile P fs.toList 0 == some (P.cellsOf t) && fs.toList.all fun f => f.name != "_" && chkT P d f.type))
    | some (.array n e) => (P.info? t).isSome && ((P.info? e).isSome && (n * P.cellsOf e == P.cellsOf t && chkT P d e))
    | _ => false
/-- Cells as a value of a type. -/
def mkV (P : Program) (t : TypeId) (cs : List Value) : Value := match P.underlying t with
  | some (.int _) => cs.headD undef
  | _ => .agg cs.toArray
/-- Integers of the same kinds, cell by cell. -/
def Kin (cs ds : List Value) : Prop := ∀ (j : Nat) a b, cs[j]? = some a → ds[j]? = some b → ∃ k m n, a = Value.int k m ∧ b = Value.int k n

theorem Kin.mid {cs ds : List Value} (h : Kin cs ds) (o n : Nat) : Kin ((cs.drop o).take n) ((ds.drop o).take n) := by
  intro j a b ha hb
  rw [List.getElem?_take] at ha hb
  split at ha
  · rename_i hj
    rw [if_pos hj] at hb
    rw [List.getElem?_drop] at ha hb
    exact h _ a b ha hb
  · cases ha
section
variable {P : Program}
theorem part_mk {d : Nat} {t : TypeId} (h : chkT P d t = true) (xs : Array Value) (off : Nat) (ho : off + P.cellsOf t ≤ xs.size) (w : World) : (part t xs off).run P w = .ok (mkV P t ((xs.toList.drop off).take (P.cellsOf t))) w := by
  cases d with
  | zero => cases h
  | succ d =>
    unfold chkT at h
    unfold mkV
    split at h
    · rename_i k hu
      rw [hu]
      simp only
      have h1 : P.cellsOf t = 1 := by simpa using h
      rw [h1] at ho ⊢
      have hx : xs[off]? = some xs[off] := Array.getElem?_eq_getElem (by omega)
      simp only [part, isAgg, Sem.run_bind, run_underlying hu, Result.andThen_ok, Sem.run_pure, Bool.false_eq_true, if_false, hx]
      congr 1
      rw [List.headD_eq_head?_getD, List.head?_take, if_neg (by decide), List.head?_drop]
      rw [Array.getElem?_toList, hx]; rfl
    · rename_i fs hu
      rw [hu]
      simp only [Bool.and_eq_true] at h
      obtain ⟨i, hi⟩ := Option.isSome_iff_exists.1 h.2.1
      simp only [part, isAgg, Sem.run_bind, run_underlying hu, Result.andThen_ok, Sem.run_pure, if_true, run_sizeOf w hi]
      congr 2
      apply Array.toList_inj.1
      simp [List.extract]
    · rename_i n e hu
      rw [hu]
      simp only [Bool.and_eq_true] at h
      obtain ⟨i, hi⟩ := Option.isSome_iff_exists.1 h.1
      simp only [part, isAgg, Sem.run_bind, run_underlying hu, Result.andThen_ok, Sem.run_pure, if_true, run_sizeOf w hi]
      congr 2
      apply Array.toList_inj.1
      simp [List.extract]
    · cases h
/-- What is owed at one type. -/
def EqOk (P : Program) (d x : Nat) (t : TypeId) : Prop := ∀ (w : World) (cs ds : List Value), cs.length = P.cellsOf t → ds.length = P.cellsOf t → Kin cs ds →
  ∃ r : Bool, (Op.equalIn (d + x) t (mkV P t cs) (mkV P t ds)).run P w = .ok r w ∧ (r = true ↔ cs = ds)
theorem eqFs_ok {d x : Nat} (xs ys : Array Value) (hk : Kin xs.toList ys.toList) (hs : xs.size = ys.size) : ∀ (fs : List Field) (o : Nat), tile P fs o = some xs.size → (∀ f ∈ fs, f.name ≠ "_" ∧ chkT P d f.type = true ∧ EqOk P d x f.type) → ∀ w : World,
    ∃ r : Bool, (Op.eqFields (d + x) xs ys fs).run P w = .ok r w ∧ (r = true ↔ xs.toList.drop o = ys.toList.drop o)
  | [], o, ht, _, w => by
    simp only [tile, Option.some.injEq] at ht
    refine ⟨true, by simp [Op.eqFields], ?_⟩
    rw [List.drop_eq_nil_of_le (by simp; omega), List.drop_eq_nil_of_le (by simp; omega)]; simp
  | f :: fs, o, ht, hall, w => by
    unfold tile at ht
    split at ht
    · rename_i hfo
      have hle : ∀ (gs : List Field) (o' m : Nat), tile P gs o' = some m → o' ≤ m := by
        intro gs
        induction gs with
        | nil => intro o' m hm; simp only [tile, Option.some.injEq] at hm; omega
        | cons g gs ih =>
          intro o' m hm
          unfold tile at hm
          split at hm
          · have := ih _ _ hm; omega
          · cases hm
      have hroom := hle _ _ _ ht
      obtain ⟨hn, hc, he⟩ := hall f List.mem_cons_self
      obtain ⟨r', hr', hiff'⟩ := eqFs_ok xs ys hk hs fs _ ht (fun g hg => hall g (List.mem_cons_of_mem _ hg)) w
      have p1 := part_mk hc xs f.offset (by omega) w
      have p2 := part_mk hc ys f.offset (by omega) w
      obtain ⟨r, hr, hiff⟩ := he w _ _ (by rw [List.length_take, List.length_drop, Array.length_toList]; omega) (by rw [List.length_take, List.length_drop, Array.length_toList]; omega) (hk.mid f.offset (P.cellsOf f.type))
      have hsplit : ∀ (l : List Value) (n : Nat), l.drop o = (l.drop o).take n ++ l.drop (o + n) := fun l n => by
        rw [← List.drop_drop]; exact (List.take_append_drop _ _).symm
      simp only [Op.eqFields, hn, ne_eq, not_false_eq_true, if_true, Sem.run_bind, p1, p2, hr, Result.andThen_ok]
      have hall2 : (xs.toList.drop o = ys.toList.drop o) ↔ ((xs.toList.drop f.offset).take (P.cellsOf f.type) = (ys.toList.drop f.offset).take (P.cellsOf f.type) ∧ xs.toList.drop (o + P.cellsOf f.type) = ys.toList.drop (o + P.cellsOf f.type)) := by
        rw [hfo, hsplit xs.toList (P.cellsOf f.type), hsplit ys.toList (P.cellsOf f.type)]
        constructor
        · intro e
          have e2 := List.append_inj e (by simp only [List.length_take, List.length_drop, Array.length_toList]; omega)
          rw [← hsplit, ← hsplit]
          exact ⟨e2.1, e2.2⟩
        · rintro ⟨e1, e2⟩
          rw [← hsplit, ← hsplit] at e1
          rw [e1, e2]
      rw [hall2]
      cases r with
      | false => exact ⟨false, by simp, by simp; intro e; exact absurd (hiff.2 e) (by simp)⟩
      | true => exact ⟨r', by simpa using hr', by rw [hiff']; simp [hiff.1 rfl]⟩
    · cases ht
theorem eqIs_ok {d x : Nat} {e : TypeId} (hc : chkT P d e = true) (he : EqOk P d x e) (xs ys : Array Value) (hk : Kin xs.toList ys.toList) (hs : xs.size = ys.size) (n : Nat) (hn : n * P.cellsOf e = xs.size) : ∀ (m i : Nat), i + m = n → ∀ w : World,
    ∃ r : Bool, (Op.eqItems (d + x) e (P.cellsOf e) xs ys (List.range' i m)).run P w = .ok r w ∧ (r = true ↔ xs.toList.drop (i * P.cellsOf e) = ys.toList.drop (i * P.cellsOf e))
  | 0, i, hi, w => by
    obtain rfl : i = n := by omega
    refine ⟨true, by simp [Op.eqItems], ?_⟩
    rw [List.drop_eq_nil_of_le (by simp; omega), List.drop_eq_nil_of_le (by simp; omega)]; simp
  | m + 1, i, hi, w => by
    have hroom : i * P.cellsOf e + P.cellsOf e ≤ xs.size := by
      rw [← hn, ← Nat.succ_mul]
      exact Nat.mul_le_mul_right _ (by omega)
    obtain ⟨r', hr', hiff'⟩ := eqIs_ok hc he xs ys hk hs n hn m (i + 1) (by omega) w
    rw [Nat.succ_mul] at hiff'
    have p1 := part_mk hc xs (i * P.cellsOf e) (by omega) w
    have p2 := part_mk hc ys (i * P.cellsOf e) (by omega) w
    obtain ⟨r, hr, hiff⟩ := he w _ _ (by rw [List.length_take, List.length_drop, Array.length_toList]; omega) (by rw [List.length_take, List.length_drop, Array.length_toList]; omega) (hk.mid (i * P.cellsOf e) (P.cellsOf e))
    rw [List.range'_succ]
    simp only [Op.eqItems, Sem.run_bind, p1, p2, hr, Result.andThen_ok]
    clear p1 p2 hr
    generalize i * P.cellsOf e = o at *
    have hsplit : ∀ (l : List Value) (n : Nat), l.drop o = (l.drop o).take n ++ l.drop (o + n) := fun l n => by
      rw [← List.drop_drop]; exact (List.take_append_drop _ _).symm
    have hall2 : (xs.toList.drop o = ys.toList.drop o) ↔ ((xs.toList.drop o).take (P.cellsOf e) = (ys.toList.drop o).take (P.cellsOf e) ∧ xs.toList.drop (o + P.cellsOf e) = ys.toList.drop (o + P.cellsOf e)) := by
      constructor
      · intro h; exact ⟨by rw [h], by rw [← List.drop_drop, h, List.drop_drop]⟩
      · rintro ⟨e1, e2⟩
        rw [hsplit xs.toList (P.cellsOf e), hsplit ys.toList (P.cellsOf e), e1, e2]
    rw [hall2]
    cases r with
    | false => exact ⟨false, by simp, by simp; intro e; exact absurd (hiff.2 e) (by simp)⟩
    | true => exact ⟨r', by simpa using hr', by rw [hiff']; simp [hiff.1 rfl]⟩
theorem eq_ok : ∀ (d x : Nat) (t : TypeId), chkT P d t = true → EqOk P d x t := by
  intro d
  induction d with
  | zero => intro x t h; cases h
  | succ d ih =>
    intro x t h w cs ds h1 h2 hk
    have h' := h
    unfold chkT at h
    rw [show d + 1 + x = d + x + 1 by omega]
    unfold mkV
    split at h
    · rename_i k hu
      rw [hu]
      have h3 : P.cellsOf t = 1 := by simpa using h
      rw [h3] at h1 h2
      match cs, ds, h1, h2 with
      | [a], [b], _, _ =>
        obtain ⟨k', m, n, rfl, rfl⟩ := hk 0 a b rfl rfl
        refine ⟨m == n, run_equalIn_int w _ t k' k m n hu, ?_⟩
        simp
    · rename_i fs hu
      rw [hu]
      simp only [Bool.and_eq_true, Bool.not_eq_true', beq_iff_eq, List.all_eq_true, bne_iff_ne, ne_eq] at h
      obtain ⟨g1, _, g3, g4⟩ := h
      have hf : P.fieldsOf t = fs := by unfold Program.fieldsOf; rw [hu]
      rw [run_equalIn_struct w (d + x) t _ _ (by rw [hf]; exact hu) g1, hf]
      obtain ⟨r, hr, hiff⟩ := eqFs_ok (d := d) (x := x) cs.toArray ds.toArray hk (by simp [h1, h2]) fs.toList 0 (by rw [g3, List.size_toArray, h1]) (fun f hf => ⟨(g4 f hf).1, (g4 f hf).2, ih x f.type (g4 f hf).2⟩) w
      exact ⟨r, hr, by simpa using hiff⟩
    · rename_i n e hu
      rw [hu]
      simp only [Bool.and_eq_true, beq_iff_eq] at h
      obtain ⟨_, g2, g3, g4⟩ := h
      obtain ⟨i, hi⟩ := Option.isSome_iff_exists.1 g2
      rw [run_equalIn_array w (d + x) _ _ hu hi, List.range_eq_range']
      obtain ⟨r, hr, hiff⟩ := eqIs_ok (d := d) (x := x) g4 (ih x e g4) cs.toArray ds.toArray hk (by simp [h1, h2]) n (by rw [g3, List.size_toArray, h1]) n 0 (by omega) w
      exact ⟨r, hr, by simpa using hiff⟩
    · cases h
/-- THE LAW. -/
theorem run_eql_cells (d : Nat) {t : TypeId} (ht : chkT P d t = true) (hd : d ≤ 10000) (hu : (P.underlying t).all (fun k => !(k matches .int _)) = true) (cs ds : List Value) (h1 : cs.length = P.cellsOf t) (h2 : ds.length = P.cellsOf t) (hk : Kin cs ds) (w : World) (b : Bool) (hb : b = true ↔ cs = ds) :
    (binOp .eql t (.agg cs.toArray) (.agg ds.toArray)).run P w = .ok (.bool b) w ∧ (binOp .neq t (.agg cs.toArray) (.agg ds.toArray)).run P w = .ok (.bool (!b)) w := by
  obtain ⟨r, hr, hiff⟩ := eq_ok d (10000 - d) t ht w cs ds h1 h2 hk
  have hm : ∀ l : List Value, mkV P t l = .agg l.toArray := by
    intro l
    unfold mkV
    split
    · rename_i k hq
      rw [hq] at hu
      simp at hu
    · rfl
  rw [hm, hm, show d + (10000 - d) = 10000 by omega] at hr
  obtain rfl : r = b := by
    cases r <;> cases b <;> simp_all
  rw [run_eql_struct, run_neq_struct, hr]
  exact ⟨rfl, rfl⟩
variable {Q : Exit → Act → World → Prop}
/-- == at one operation, by its run. -/
theorem wp_binop {o : Oper} {a : Act} {w : World} {K : Act → World → Prop} {v : Value} {xs ys : Array Value} (op : BinOp) (t ty : TypeId) (x y : Operand) (ho : o.op = .binOp op t x y ty) (hx : a.eval x = .agg xs) (hy : a.eval y = .agg ys)
    (hg : P.eqGuardType P.depth t = false) (hrun : (binOp op t (.agg xs) (.agg ys)).run P w = .ok v w) (h : K (a.put o.dst v) w) : o.wp P a w K Q := by
  unfold Oper.wp execOp
  simp only [ho, hx, hy, Sem.run_bind, run_eqGuard_agg w op t x y xs ys hg, Result.andThen_ok, hrun]
  exact h
theorem wpList_binop {ops : Array Oper} {rest : List Oper} {o : Oper} {a : Act} {w : World} {v : Value} {xs ys : Array Value} (op : BinOp) (t ty : TypeId) (x y : Operand) (ho : o.op = .binOp op t x y ty) (hw : Region.wanted o (yielded ops a.tmps) = true)
    (hx : a.eval x = .agg xs) (hy : a.eval y = .agg ys) (hg : P.eqGuardType P.depth t = false) (hrun : (binOp op t (.agg xs) (.agg ys)).run P w = .ok v w) (h : wpList P ops Q rest (a.put o.dst v) w) : wpList P ops Q (o :: rest) a w :=
  wpList_step fun K hK => by
    simp only [hw, if_true]
    exact wp_binop op t ty x y ho hx hy hg hrun (hK _ _ h)
end
end Go.Proofs.Ytahkhieoabbaaaa
