/-
  Words on records, stores and arrays that the walks of package imap share with those of inode and ckpt. By an AI agent.
-/
import Derived.Test.YtpgibmffgliibaaImapQ
import Derived.Test.YtpgibmffgliibaaPackW
import Derived.Test.YtpgibmffgliibaaCodeR
import Derived.Test.YtpgibmffgliibaaLeaf
import Derived.Test.YtpgibmffgliibaaEq
import Derived.Test.YtpgibmffgliibaaPlain
import Derived.Laws.Cover3
namespace Go.Proofs.Ytpgibmffgliibaa
open Go.RowKit Go.ChangeShapes Go.WideShapes Go.ChangeAt

theorem zip_lt {L : List (Int × Nat)} (h : ∀ x ∈ L, Pk.chk x = 0) : ∀ x ∈ L, x.2 < 18446744073709551616 := by
  intro x hx
  have h1 := Pk.chk_zero (h x hx)
  have h2 : 256 ^ x.1.toNat ≤ 256 ^ 8 := Nat.pow_le_pow_right (by omega) (by omega)
  omega
def ncells (l : List (Int × Nat)) : List Value := l.flatMap fun x => [.int .i64 x.1, .int .u64 (x.2 : Int)]
theorem ncells_app (l m : List (Int × Nat)) : ncells (l ++ m) = ncells l ++ ncells m := by unfold ncells; rw [List.flatMap_append]
theorem infoNum : (Try.prog.info? 68).map (fun i => (i.zero, i.size, i.bytes)) = some (some (.agg #[.int .i64 0, .int .u64 0]), 2, 16) := by kernel_rfl
theorem Nums.of_own {w : World} {base : Nat} {e : TypeId} {v : Value} {l : List (Int × Nat)} (h : w.ownsRow base e 2 v l.length (ncells l)) : Nums w w.heap.size v l := Rds.of_own h
theorem ncells_one (l : List (Int × Nat)) : ∀ u ∈ ncells l, u.oneCell' = true := by
  intro u hu
  unfold ncells at hu
  obtain ⟨p, _, hp⟩ := List.mem_flatMap.1 hu
  simp only [List.mem_cons, List.not_mem_nil, or_false] at hp
  rcases hp with rfl | rfl <;> rfl
theorem below_of_grown {a w w' : World} {B g : Nat} (h : Below B a w) (hg : w.grownBy w' (some g)) (hB : B ≤ g) (hs : B ≤ w.heap.size) : Below B a w' := h.grown hg hs (fun k hk => by injection hk with hk; omega)
/-- A store into a block that was just made. -/
theorem wpList_store_new {P : Program} {ops : Array Oper} {rest : List Oper} {op : Oper} {a : Act} {w : World} {Q : Exit → Act → World → Prop} (hgd : op.guard = none) (ty : TypeId) (x y : Operand) (ho : op.op = .store ty x y)
    {arr : Array Value} (cs : List Value) (hx : a.eval x = .pointer (some ⟨w.heap.size, 0, none⟩)) (hy : a.eval y = .agg cs.toArray) (hn : cs.length ≤ arr.size) {T : TypeId} (_ : T = ty)
    (hi : (P.info? ty).map (·.size) = some cs.length) (h1 : ∀ v ∈ cs, v.oneCell' = true)
    (h : wpList P ops Q rest (a.put op.dst undef) ((w.alloc (.cells arr T)).setCells w.heap.size 0 cs)) : wpList P ops Q (op :: rest) a (w.alloc (.cells arr T)) := by
  refine wpList_store_mid hgd ty x y ho w.heap.size 0 cs.toArray hx hy ((Blk.new w T arr).there 0 _ (by simpa using hn)) (by simpa using hi) (all_oneCell_toArray h1) ?_
  exact h
theorem recs_app (l m : List (Int × Nat)) : Pk.recs (l ++ m) = Pk.recs l ++ Pk.recs m := by unfold Pk.recs; rw [List.flatMap_append]
theorem Kin.cons {k : IntKind} {m n : Int} {cs ds : List Value} (h : Kin cs ds) : Kin (.int k m :: cs) (.int k n :: ds) := by
  intro j a b ha hb
  cases j with
  | zero =>
    injection ha with ha
    injection hb with hb
    exact ⟨k, m, n, ha.symm, hb.symm⟩
  | succ j => exact h j a b ha hb
/-- One element of an array that is a value. -/
theorem run_idx {P : Program} {t e : TypeId} {n : Nat} (d : Nat) (ht : P.underlying t = some (.array n e)) (he : chkT P d e = true) {i : TypeInfo} (hi : P.info? e = some i) (cs : List Value) (k : Nat) (hk : k < n) (hl : k * P.cellsOf e + P.cellsOf e ≤ cs.length) (z : Int) (hz : z = k) (W : World) :
    (Instr.index t (.agg cs.toArray) (.int .i64 z)).run P W = .ok (mkV P e ((cs.drop (k * P.cellsOf e)).take (P.cellsOf e))) W := by
  subst hz
  have h1 : (0 : Int) ≤ (k : Int) ∧ (k : Int) < (n : Int) := by omega
  simp only [Instr.index, asIntOf, Sem.run_bind, Sem.run_pure, Result.andThen_ok, run_underlying ht, h1, and_self, if_true, run_sizeOf W hi, Int.toNat_natCast]
  rw [part_mk he cs.toArray _ (by simpa using hl) W]
/-! ### Slots and maps as cells -/
open Im (Sl)
def scells (x : Sl) : List Value := [.int .i64 x.a, .int .u32 (x.s : Int), .int .i64 x.v]
def mcells (m : List Sl) : List Value := m.flatMap scells
def sagg (x : Sl) : Value := .agg #[.int .i64 x.a, .int .u32 (x.s : Int), .int .i64 x.v]
def magg (m : List Sl) : Value := .agg (mcells m).toArray
theorem mcells_cons (x : Sl) (m : List Sl) : mcells (x :: m) = .int .i64 x.a :: .int .u32 (x.s : Int) :: .int .i64 x.v :: mcells m := by unfold mcells; rw [List.flatMap_cons]; rfl
theorem mcells_len : ∀ m : List Sl, (mcells m).length = 3 * m.length
  | [] => rfl
  | x :: m => by rw [mcells_cons]; simp only [List.length_cons, mcells_len m]; omega
theorem mcells_app (m n : List Sl) : mcells (m ++ n) = mcells m ++ mcells n := by unfold mcells; rw [List.flatMap_append]
theorem mcells_drop : ∀ (m : List Sl) (k : Nat), (mcells m).drop (3 * k) = mcells (m.drop k)
  | m, 0 => rfl
  | [], k + 1 => by simp [mcells]
  | x :: m, k + 1 => by
    rw [mcells_cons, List.drop_succ_cons, show 3 * (k + 1) = 3 * k + 1 + 1 + 1 by omega, List.drop_succ_cons, List.drop_succ_cons, List.drop_succ_cons, mcells_drop m k]
theorem mcells_take : ∀ (m : List Sl) (k : Nat), (mcells m).take (3 * k) = mcells (m.take k)
  | m, 0 => rfl
  | [], k + 1 => by simp [mcells]
  | x :: m, k + 1 => by
    rw [mcells_cons, List.take_succ_cons, show 3 * (k + 1) = 3 * k + 1 + 1 + 1 by omega, List.take_succ_cons, List.take_succ_cons, List.take_succ_cons, mcells_take m k, mcells_cons]
theorem mcells_one : ∀ {m : List Sl}, ∀ v ∈ mcells m, v.oneCell' = true
  | [], v, h => by cases h
  | x :: m, v, h => by
    rw [mcells_cons] at h
    simp only [List.mem_cons] at h
    rcases h with rfl | rfl | rfl | h
    · rfl
    · rfl
    · rfl
    · exact mcells_one v h
theorem mcells_at : ∀ (m : List Sl) (k : Nat) (h : k < m.length), (mcells m)[3 * k]? = some (.int .i64 m[k].a) ∧ (mcells m)[3 * k + 1]? = some (.int .u32 (m[k].s : Int)) ∧ (mcells m)[3 * k + 2]? = some (.int .i64 m[k].v)
  | x :: m, 0, _ => ⟨rfl, rfl, rfl⟩
  | x :: m, k + 1, h => by
    have := mcells_at m k (by simpa using h)
    rw [mcells_cons, show 3 * (k + 1) = 3 * k + 1 + 1 + 1 by omega]
    exact this
theorem mcells_atD (m : List Sl) (k : Nat) (h : k < m.length) : (mcells m)[3 * k]? = some (.int .i64 (m.getD k Sl.zero).a) ∧ (mcells m)[3 * k + 1]? = some (.int .u32 ((m.getD k Sl.zero).s : Int)) ∧ (mcells m)[3 * k + 2]? = some (.int .i64 (m.getD k Sl.zero).v) := by
  have e : m.getD k Sl.zero = m[k] := by simp [List.getD, h]
  rw [e]; exact mcells_at m k h
theorem mcells_inj : ∀ a b : List Sl, mcells a = mcells b → a = b
  | [], [], _ => rfl
  | [], y :: b, h => by rw [mcells_cons] at h; cases h
  | x :: a, [], h => by rw [mcells_cons] at h; cases h
  | x :: a, y :: b, h => by
    rw [mcells_cons, mcells_cons] at h
    simp only [List.cons.injEq, Value.int.injEq, true_and] at h
    obtain ⟨h1, h2, h3, h4⟩ := h
    rw [mcells_inj a b h4]
    congr 1
    obtain ⟨p, q, r⟩ := x
    obtain ⟨p', q', r'⟩ := y
    simp only at h1 h2 h3
    rw [Sl.mk.injEq]
    omega
theorem kin_mcells : ∀ a b : List Sl, Kin (mcells a) (mcells b)
  | [], _ => fun j a b ha _ => by simp [mcells] at ha
  | _ :: _, [] => fun j a b _ hb => by simp [mcells] at hb
  | x :: a, y :: b => by
    rw [mcells_cons, mcells_cons]
    exact (kin_mcells a b).cons.cons.cons
theorem mcells_set (m : List Sl) (k : Nat) (x : Sl) (h : k < m.length) : spl (mcells m) (3 * k) (scells x) = mcells (m.set k x) := by
  unfold spl
  have e : m.set k x = m.take k ++ (x :: m.drop (k + 1)) := by rw [List.set_eq_take_append_cons_drop, if_pos h]
  rw [e, mcells_take, mcells_app, mcells_cons, show 3 * k + (scells x).length = 3 * (k + 1) by show 3 * k + 3 = _; omega, mcells_drop]
  rfl
theorem mcells_blk (m : List Sl) (k : Nat) : mcells (Im.blk m k) = ((mcells m).drop (30 * k)).take 30 := by
  unfold Im.blk
  rw [show 30 * k = 3 * (10 * k) by omega, mcells_drop, show 30 = 3 * 10 from rfl, mcells_take]
theorem chkSlot : chkT Try.prog 4 26 = true := by kernel_rfl
theorem cellsSlot : Try.prog.cellsOf 26 = 3 := by kernel_rfl
theorem infoM (m : List Sl) (h : m.length = 40) : (Try.prog.info? 28).map (·.size) = some (mcells m).length := by
  rw [mcells_len, h]; kernel_rfl
theorem infoB (m : List Sl) (h : m.length = 10) : (Try.prog.info? 63).map (·.size) = some (mcells m).length := by
  rw [mcells_len, h]; kernel_rfl
theorem infoS (x : Sl) : (Try.prog.info? 26).map (·.size) = some (scells x).length := by kernel_rfl
end Go.Proofs.Ytpgibmffgliibaa
