/-
  The small walks of package summary: num, summed; numbers in memory. By an AI agent.
-/
import Derived.Test.YtieajlpkiheebaaDoorSumM
import Derived.Test.YtieajlpkiheebaaDoorRegT
namespace Go.Proofs.YtieajlpkiheebaaDoor
open Go.RowKit

/-- A block that was made. -/
def MadeS (l : List UInt8) (w : World) (e : Ending) (w' : World) : Prop := ∃ u, e = .returned (.tuple #[u, .int .i64 0]) ∧ Bs w' w'.heap.size u l ∧ Below w.heap.size w w'
def ncells (l : List (Int × Nat)) : List Value := l.flatMap fun x => [.int .i64 x.1, .int .u64 (x.2 : Int)]
theorem ncells_app (l m : List (Int × Nat)) : ncells (l ++ m) = ncells l ++ ncells m := by unfold ncells; rw [List.flatMap_append]
theorem ncells_len (l : List (Int × Nat)) : (ncells l).length = l.length * 2 := numsCells l
theorem ncells_one (l : List (Int × Nat)) : ∀ u ∈ ncells l, u.oneCell' = true := by
  intro u hu
  unfold ncells at hu
  obtain ⟨p, _, hp⟩ := List.mem_flatMap.1 hu
  simp only [List.mem_cons, List.not_mem_nil, or_false] at hp
  rcases hp with rfl | rfl <;> rfl
theorem Nums.of_own {w : World} {base e : Nat} {v : Value} {l : List (Int × Nat)} (h : w.ownsRow base e 2 v l.length (ncells l)) : Nums w w.heap.size v l := Rds.of_own h
theorem infoNum : (Tryd.prog.info? 55).map (fun i => (i.zero, i.size, i.bytes)) = some (some (.agg #[.int .i64 0, .int .u64 0]), 2, 16) := by kernel_rfl
set_option maxHeartbeats 400000 in
theorem numS_any (wd : Int) (v : Nat) (w : World) (hv : v < 9223372036854775808) :
    Calls Tryd.prog 22 #[.int .i64 wd, .int .i64 (v : Int)] w fun e w' => e = .returned (.agg #[.int .i64 wd, .int .u64 (v : Int)]) ∧ Below w.heap.size w w' := by
  go_enter Tryd.func22, Tryd.ntmps22
  go_wp2
  refine bodyPost_ret (v := .agg #[.int .i64 wd, .int .u64 (v : Int)]) (by simp [results, Tryd.results22, go_sem]) rfl ⟨rfl, ?_⟩
  exact (Below.refl _ _).alloc (Nat.le_refl _) _
theorem numS_eq (wd z : Int) (v : Nat) (hz : z = v) (w : World) (hv : v < 9223372036854775808) :
    Calls Tryd.prog 22 #[.int .i64 wd, .int .i64 z] w fun e w' => e = .returned (.agg #[.int .i64 wd, .int .u64 (v : Int)]) ∧ Below w.heap.size w w' := by
  subst hz; exact numS_any wd v w hv
/-- The numbers of a summary's head, and of its entries. -/
def hS (p : Sm.Pt) : List (Int × Nat) := [(4, 1752397165), (6, p.s.toNat), (4, p.n.toNat), (1, p.l.length), (1, p.e.toNat)]
def eS (y : Sm.En) : List (Int × Nat) := [(1, y.k.toNat), (1, y.i.toNat), (2, y.x.toNat), (4, y.s)]
def pS (l : List Sm.En) : List (Int × Nat) := l.flatMap eS
theorem pS_snoc (l : List Sm.En) (y : Sm.En) : pS (l ++ [y]) = pS l ++ eS y := by unfold pS; rw [List.flatMap_append]; simp
theorem pS_len (l : List Sm.En) : (pS l).length = 4 * l.length := by
  induction l with
  | nil => rfl
  | cons x l ih => unfold pS at ih ⊢; rw [List.flatMap_cons, List.length_append, ih, List.length_cons]; show 4 + _ = _; omega
theorem zip_eS : ∀ l : List Sm.En, (Sm.eW l.length).zip (Sm.eV l) = pS l
  | [] => rfl
  | y :: l => by
    rw [Sm.eV_cons, List.length_cons, Sm.eW, List.zip_cons_cons, List.zip_cons_cons, List.zip_cons_cons, List.zip_cons_cons, zip_eS l]
    unfold pS
    rw [List.flatMap_cons]; rfl
theorem zip_sm (p : Sm.Pt) : (Sm.smW p.l.length).zip (Sm.smV p) = hS p ++ pS p.l := by
  unfold Sm.smW Sm.smV
  rw [Sm.zip_app _ _ _ _ rfl, zip_eS]
  rfl
theorem zipS_lt {L : List (Int × Nat)} (h : ∀ x ∈ L, Pk.chk x = 0) : ∀ x ∈ L, x.2 < 18446744073709551616 := by
  intro x hx
  have h1 := Pk.chk_zero (h x hx)
  have h2 : 256 ^ x.1.toNat ≤ 256 ^ 8 := Nat.pow_le_pow_right (by omega) (by omega)
  omega
end Go.Proofs.YtieajlpkiheebaaDoor
