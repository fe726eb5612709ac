/-
  Two inodes compared; what a law of layer 7 needs of a new variable that holds an inode. By an AI agent.
-/
import Derived.Test.YtmabdbleakolbaaDoorInodeU
import Derived.Test.YtmabdbleakolbaaDoorInodeV
import Derived.Test.YtmabdbleakolbaaDoorEq
import Derived.Test.YtmabdbleakolbaaDoorInodeO
namespace Go.Proofs.YtmabdbleakolbaaDoor
open Go.RowKit Go.ChangeShapes Go.WideShapes Go.ChangeAt

theorem pcells_inj : ∀ (ps qs : List (Int × Nat)), pcells ps = pcells qs → ps = qs
  | [], [], _ => rfl
  | [], q :: qs, h => by rw [pcells_cons] at h; cases h
  | p :: ps, [], h => by rw [pcells_cons] at h; cases h
  | p :: ps, q :: qs, h => by
    rw [pcells_cons, pcells_cons] at h
    injection h with h1 h2
    injection h2 with h2 h3
    injection h1 with _ h1
    injection h2 with _ h2
    rw [pcells_inj ps qs h3]
    congr 1
    obtain ⟨a, b⟩ := p
    obtain ⟨c, d⟩ := q
    simp only at h1 h2
    rw [Prod.mk.injEq]
    omega
theorem icells_inj (x y : Nd.In) : icells x = icells y ↔ x = y := by
  constructor
  · intro h
    obtain ⟨a, b, c, d, k, ps⟩ := x
    obtain ⟨a', b', c', d', k', ps'⟩ := y
    unfold icells at h
    simp only [List.cons.injEq, Value.int.injEq, true_and] at h
    obtain ⟨h1, h2, h3, h4, h5, h6⟩ := h
    rw [h1, h2, h3, h4, h5, pcells_inj _ _ h6]
  · rintro rfl; rfl
theorem Kin.cons {k : IntKind} {m n : Int} {cs ds : List Value} (h : Kin cs ds) : Kin (.int k m :: cs) (.int k n :: ds) := by
  intro j a b ha hb
  cases j with
  | zero =>
    injection ha with ha
    injection hb with hb
    exact ⟨k, m, n, ha.symm, hb.symm⟩
  | succ j => exact h j a b ha hb
theorem kin_pcells : ∀ (ps qs : List (Int × Nat)), Kin (pcells ps) (pcells qs)
  | [], _ => fun j a b ha _ => by simp [pcells] at ha
  | _ :: _, [] => fun j a b _ hb => by simp [pcells] at hb
  | p :: ps, q :: qs => by
    rw [pcells_cons, pcells_cons]
    exact (kin_pcells ps qs).cons.cons
theorem run_eql_in (x y : Nd.In) (hx : x.ps.length = 9) (hy : y.ps.length = 9) (b : Bool) (hb : b = decide (x = y)) (W : World) :
    (binOp .eql 27 (.agg (icells x).toArray) (.agg (icells y).toArray)).run Tryd.prog W = .ok (.bool b) W ∧ (binOp .neq 27 (.agg (icells x).toArray) (.agg (icells y).toArray)).run Tryd.prog W = .ok (.bool (!b)) W := by
  refine run_eql_cells 4 (by kernel_rfl) (by decide) (by kernel_rfl) _ _ ?_ ?_ ?_ W b ?_
  · rw [icells_len x hx]; kernel_rfl
  · rw [icells_len y hy]; kernel_rfl
  · unfold icells
    exact (kin_pcells _ _).cons.cons.cons.cons.cons
  · rw [hb, decide_eq_true_iff, icells_inj]
theorem eqGuardI : Tryd.prog.eqGuardType Tryd.prog.depth 27 = false := by kernel_rfl

/-- A new variable, into which an inode is stored. -/
theorem Blk.var {w : World} {arr : Array Value} {x : Nd.In} (h : arr.toList.length = 23) (hx : x.ps.length = 9) : Blk ((w.alloc (.cells arr 27)).setCells w.heap.size 0 (icells x)) w.heap.size 27 (icells x) := by
  have := (Blk.new w 27 arr).setCells (icells x) 0 (by rw [icells_len x hx, h]; omega)
  rw [spl_all _ _ (by rw [icells_len x hx, h])] at this
  exact this
theorem below_var {w : World} {arr : Array Value} {x : Nd.In} : Below w.heap.size w ((w.alloc (.cells arr 27)).setCells w.heap.size 0 (icells x)) :=
  below_setCells ((Below.refl _ _).alloc (Nat.le_refl _) _) (Nat.le_refl _) _ _
/-- Integers as pointers; as an inode. -/
def pk : Nat → List IntKind
  | 0 => []
  | n + 1 => .i64 :: .u32 :: pk n
theorem ptrs_of_ints : ∀ (n : Nat) (zs : List Int), zs.length = 2 * n → (∀ (j : Nat) (k : IntKind) (z : Int), (pk n)[j]? = some k → zs[j]? = some z → (Lit.int k z).wf = true) →
    ∃ ps : List (Int × Nat), ps.length = n ∧ ((pk n).zip zs).map (fun p => Value.int p.1 p.2) = pcells ps ∧ ∀ p ∈ ps, p.2 < 4294967296
  | 0, [], _, _ => ⟨[], rfl, rfl, by simp⟩
  | n + 1, a :: b :: zs, hl, hw => by
    obtain ⟨ps, h1, h2, h3⟩ := ptrs_of_ints n zs (by simp only [List.length_cons] at hl; omega) (fun j k z hj hz => hw (j + 2) k z hj hz)
    have hb := wf_u32 (hw 1 .u32 b rfl rfl)
    obtain ⟨s, rfl⟩ := Int.eq_ofNat_of_zero_le hb.1
    refine ⟨(a, s) :: ps, by simp [h1], ?_, ?_⟩
    · rw [pcells_cons, ← h2]; rfl
    · intro p hp
      rcases List.mem_cons.1 hp with rfl | hp
      · show s < _; omega
      · exact h3 p hp
  | n + 1, [_], hl, _ => by simp only [List.length_cons, List.length_nil] at hl; omega
  | n + 1, [], hl, _ => by simp only [List.length_nil] at hl; omega
  | 0, _ :: _, hl, _ => by simp at hl
def ink : List IntKind := .i64 :: .i64 :: .i64 :: .i64 :: .i64 :: pk 9
theorem in_of_ints (zs : List Int) (hl : zs.length = ink.length) (hw : ∀ (j : Nat) (k : IntKind) (z : Int), ink[j]? = some k → zs[j]? = some z → (Lit.int k z).wf = true) :
    ∃ x : Nd.In, Nd.Good x ∧ (ink.zip zs).map (fun p => Value.int p.1 p.2) = icells x := by
  match zs, hl with
  | a :: b :: c :: d :: e :: zs, hl =>
    obtain ⟨ps, h1, h2, h3⟩ := ptrs_of_ints 9 zs (by simpa [ink, pk] using hl) (fun j k z hj hz => hw (j + 5) k z hj hz)
    refine ⟨⟨a, b, c, d, e, ps⟩, ⟨h1, h3⟩, ?_⟩
    unfold icells
    rw [← h2]; rfl
theorem inOr_len (i : Int) (l : List UInt8) : (if Nd.dErr i l = 0 then Nd.inOf l else Nd.In.zero).ps.length = 9 := by
  split
  · exact Nd.ptrsOf_len _ 9
  · rfl
end Go.Proofs.YtmabdbleakolbaaDoor
