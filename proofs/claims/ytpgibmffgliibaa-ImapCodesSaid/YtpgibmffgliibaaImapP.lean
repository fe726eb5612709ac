/-
  Plain Lean: maps of inodes: what is put, dropped, given in them; the blocks of a map. No program. By an AI agent.
-/
import Derived.Test.YtpgibmffgliibaaInodeP
namespace Go.Proofs.Ytpgibmffgliibaa.Im
open Pk (isW chk rec1 recs nums need val be clr)
open Crc (pad)

/-- A slot. -/
structure Sl where
  a : Int
  s : Nat
  v : Int
deriving DecidableEq
def Sl.zero : Sl := ⟨0, 0, 0⟩
def Sl.ptr (x : Sl) : Int × Nat := (x.a, x.s)
def slB (x : Sl) : Bool := Nd.ptrB x.ptr && decide (0 ≤ x.v ∧ x.v ≤ 2147483647)

def zero : List Sl := List.replicate 40 Sl.zero
/-- The slots of block k. -/
def blk (m : List Sl) (k : Nat) : List Sl := (m.drop (10 * k)).take 10
def blkB (b : List Sl) (k : Int) : Bool := b.all slB && (decide (0 < k) || decide (b.getD 0 Sl.zero = Sl.zero))
def mayB (m : List Sl) : Bool := m.all slB && decide (m.getD 0 Sl.zero = Sl.zero)
/-- An argument's map. -/
def Good (m : List Sl) : Prop := m.length = 40 ∧ ∀ x ∈ m, x.s < 4294967296
theorem good_zero : Good zero := ⟨rfl, fun x hx => by rw [List.eq_of_mem_replicate hx]; decide⟩
theorem blk_len {m : List Sl} (h : m.length = 40) {k : Nat} (hk : k < 4) : (blk m k).length = 10 := by
  unfold blk; rw [List.length_take, List.length_drop]; omega
theorem blk_get {m : List Sl} (i k : Nat) (hi : i < 10) : (blk m k).getD i Sl.zero = m.getD (10 * k + i) Sl.zero := by
  unfold blk
  rw [List.getD_eq_getElem?_getD, List.getD_eq_getElem?_getD, List.getElem?_take, if_pos hi, List.getElem?_drop]
theorem blks {m : List Sl} (h : m.length = 40) : m = blk m 0 ++ (blk m 1 ++ (blk m 2 ++ blk m 3)) := by
  unfold blk
  have e3 : (m.drop 30).take 10 = m.drop 30 := List.take_of_length_le (by rw [List.length_drop]; omega)
  have e2 : (m.drop 20).take 10 ++ m.drop 30 = m.drop 20 := by
    rw [show m.drop 30 = (m.drop 20).drop 10 by rw [List.drop_drop], List.take_append_drop]
  have e1 : (m.drop 10).take 10 ++ m.drop 20 = m.drop 10 := by
    rw [show m.drop 20 = (m.drop 10).drop 10 by rw [List.drop_drop], List.take_append_drop]
  show m = (m.drop 0).take 10 ++ ((m.drop 10).take 10 ++ ((m.drop 20).take 10 ++ (m.drop 30).take 10))
  rw [e3, e2, e1, List.drop_zero, List.take_append_drop]
theorem may_blks {m : List Sl} (h : m.length = 40) : mayB m = (List.range 4).all fun k => blkB (blk m k) k := by
  have e : m.all slB = ((blk m 0).all slB && ((blk m 1).all slB && ((blk m 2).all slB && (blk m 3).all slB))) := by
    conv => lhs; rw [blks h]
    rw [List.all_append, List.all_append, List.all_append]
  have e0 : (blk m 0).getD 0 Sl.zero = m.getD 0 Sl.zero := blk_get 0 0 (by omega)
  unfold mayB
  rw [e]
  show _ = (blkB (blk m 0) 0 && (blkB (blk m 1) 1 && (blkB (blk m 2) 2 && (blkB (blk m 3) 3 && true))))
  unfold blkB
  rw [e0]
  cases (blk m 0).all slB <;> cases (blk m 1).all slB <;> cases (blk m 2).all slB <;> cases (blk m 3).all slB <;> cases decide (m.getD 0 Sl.zero = Sl.zero) <;> rfl
theorem may_all {m : List Sl} (h : mayB m = true) : (∀ x ∈ m, slB x = true) ∧ m.getD 0 Sl.zero = Sl.zero := by
  unfold mayB at h
  rw [Bool.and_eq_true, decide_eq_true_iff] at h
  exact ⟨fun x hx => List.all_eq_true.1 h.1 x hx, h.2⟩
theorem may_mk {m : List Sl} (h1 : ∀ x ∈ m, slB x = true) (h2 : m.getD 0 Sl.zero = Sl.zero) : mayB m = true := by
  unfold mayB
  rw [Bool.and_eq_true, decide_eq_true_iff]
  exact ⟨List.all_eq_true.2 h1, h2⟩
theorem getD_mem {m : List Sl} {i : Nat} (h : i < m.length) : m.getD i Sl.zero ∈ m := by
  rw [List.getD_eq_getElem?_getD, List.getElem?_eq_getElem h]; exact List.getElem_mem h
theorem sl_parts {x : Sl} (h : slB x = true) : 0 ≤ x.a ∧ x.a ≤ 2147483647 ∧ (x.a = 0 → x.s = 0) ∧ 0 ≤ x.v ∧ x.v ≤ 2147483647 := by
  unfold slB Nd.ptrB Sl.ptr at h
  rw [Bool.and_eq_true, decide_eq_true_iff, decide_eq_true_iff] at h
  exact ⟨h.1.1, h.1.2.1, h.1.2.2, h.2.1, h.2.2⟩
theorem at_parts {m : List Sl} (h : mayB m = true) (hl : m.length = 40) (i : Nat) (hi : i < 40) : slB (m.getD i Sl.zero) = true := (may_all h).1 _ (getD_mem (by omega))

/-! ### Free -/
/-- The least from i on that is free; 40: none. -/
def freeFrom (m : List Sl) : Nat → Nat → Nat
  | 0, i => i
  | n + 1, i => if 0 < (m.getD i Sl.zero).a then freeFrom m n (i + 1) else i
def free (m : List Sl) : Nat := freeFrom m 39 1
theorem freeFrom_le (m : List Sl) : ∀ n i, i ≤ freeFrom m n i ∧ freeFrom m n i ≤ i + n
  | 0, i => by simp [freeFrom]
  | n + 1, i => by
    have := freeFrom_le m n (i + 1)
    unfold freeFrom
    split <;> omega
theorem freeFrom_spec (m : List Sl) : ∀ n i, (∀ j, i ≤ j → j < freeFrom m n i → 0 < (m.getD j Sl.zero).a) ∧ (freeFrom m n i < i + n → ¬ 0 < (m.getD (freeFrom m n i) Sl.zero).a)
  | 0, i => by simp only [freeFrom]; exact ⟨fun j h1 h2 => by omega, fun h => by omega⟩
  | n + 1, i => by
    have ih := freeFrom_spec m n (i + 1)
    unfold freeFrom
    split
    · rename_i h
      refine ⟨fun j h1 h2 => ?_, fun h3 => ih.2 (by omega)⟩
      by_cases hj : j = i
      · rw [hj]; exact h
      · exact ih.1 j (by omega) h2
    · rename_i h
      exact ⟨fun j h1 h2 => by omega, fun _ => h⟩
theorem free_le (m : List Sl) : 1 ≤ free m ∧ free m ≤ 40 := freeFrom_le m 39 1
theorem free_ahead (m : List Sl) (j : Nat) (h1 : 1 ≤ j) (h2 : j < free m) : 0 < (m.getD j Sl.zero).a := (freeFrom_spec m 39 1).1 j h1 h2
theorem free_at (m : List Sl) (h : free m < 40) : ¬ 0 < (m.getD (free m) Sl.zero).a := (freeFrom_spec m 39 1).2 h
/-- It is the one that is free while all ahead of it are not. -/
theorem free_iff (m : List Sl) (i : Nat) (h1 : 1 ≤ i) (h2 : i < 40) : free m = i ↔ ¬ 0 < (m.getD i Sl.zero).a ∧ ∀ j, 1 ≤ j → j < i → 0 < (m.getD j Sl.zero).a := by
  constructor
  · rintro rfl
    exact ⟨free_at m h2, fun j h3 h4 => free_ahead m j h3 h4⟩
  · rintro ⟨h3, h4⟩
    rcases Nat.lt_trichotomy (free m) i with h | h | h
    · exact absurd (h4 _ (free_le m).1 h) (free_at m (by omega))
    · exact h
    · exact absurd (free_ahead m i h1 h) h3
def freeN (m : List Sl) : Nat := if mayB m then (if free m < 40 then free m else 0) else 0
def freeE (m : List Sl) : Nat := if mayB m then (if free m < 40 then 0 else 8) else 1

/-! ### Put, Drop, Give -/
def inoB (i : Int) : Bool := decide (1 ≤ i ∧ i ≤ 39)
def wrong (m : List Sl) (i : Int) : Nat := if mayB m then (if inoB i then 0 else 4) else 1
def at_ (m : List Sl) (i : Int) : Sl := m.getD i.toNat Sl.zero
def putE (m : List Sl) (i : Int) (p : Int × Nat) : Nat := if wrong m i = 0 then (if 1 ≤ p.1 ∧ Nd.ptrB p = true then 0 else 1) else wrong m i
def putM (m : List Sl) (i : Int) (p : Int × Nat) : List Sl := if putE m i p = 0 then m.set i.toNat ⟨p.1, p.2, (at_ m i).v⟩ else zero
def dropE (m : List Sl) (i : Int) : Nat := if wrong m i = 0 then (if 0 < (at_ m i).a then 0 else 6) else wrong m i
def dropM (m : List Sl) (i : Int) : List Sl := if dropE m i = 0 then m.set i.toNat ⟨0, 0, (at_ m i).v⟩ else zero
def giveE (m : List Sl) (i : Int) : Nat := if wrong m i = 0 then (if (at_ m i).v = 2147483647 then 19 else 0) else wrong m i
def giveM (m : List Sl) (i : Int) : List Sl := if giveE m i = 0 then m.set i.toNat ⟨(at_ m i).a, (at_ m i).s, (at_ m i).v + 1⟩ else zero
theorem wrong_zero {m : List Sl} {i : Int} (h : wrong m i = 0) : mayB m = true ∧ 1 ≤ i ∧ i ≤ 39 := by
  unfold wrong inoB at h
  split at h
  · rename_i hm
    split at h
    · rename_i hi
      exact ⟨hm, of_decide_eq_true hi⟩
    · cases h
  · cases h
theorem good_set {m : List Sl} (h : Good m) (i : Nat) (x : Sl) (hx : x.s < 4294967296) : Good (m.set i x) := by
  refine ⟨by rw [List.length_set]; exact h.1, fun y hy => ?_⟩
  rcases List.mem_or_eq_of_mem_set hy with hy | rfl
  · exact h.2 y hy
  · exact hx
theorem good_at {m : List Sl} (h : Good m) (i : Int) : (at_ m i).s < 4294967296 := by
  unfold at_
  by_cases hi : i.toNat < m.length
  · exact h.2 _ (getD_mem hi)
  · rw [List.getD_eq_getElem?_getD, List.getElem?_eq_none (by omega)]; decide
theorem good_put {m : List Sl} (h : Good m) (i : Int) (p : Int × Nat) (hp : p.2 < 4294967296) : Good (putM m i p) := by
  unfold putM; split
  · exact good_set h _ _ hp
  · exact good_zero
theorem good_drop {m : List Sl} (h : Good m) (i : Int) : Good (dropM m i) := by
  unfold dropM; split
  · exact good_set h _ _ (by show 0 < 4294967296; decide)
  · exact good_zero
theorem good_give {m : List Sl} (h : Good m) (i : Int) : Good (giveM m i) := by
  unfold giveM; split
  · exact good_set h _ _ (good_at h i)
  · exact good_zero
end Go.Proofs.Ytpgibmffgliibaa.Im
