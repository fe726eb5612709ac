/-
  Words on pointers, records and stores that the walks of package ckpt share with those of inode. By an AI agent.
-/
import Derived.Test.YtkkbmhlmgbepjaaDoorCkptP
import Derived.Test.YtkkbmhlmgbepjaaDoorPackW
import Derived.Test.YtkkbmhlmgbepjaaDoorCrcW
import Derived.Test.YtkkbmhlmgbepjaaDoorCodeR
import Derived.Test.YtkkbmhlmgbepjaaDoorCrcR
import Derived.Test.YtkkbmhlmgbepjaaDoorDoor
import Derived.Test.YtkkbmhlmgbepjaaDoorLeaf
import Derived.Test.YtkkbmhlmgbepjaaDoorEq
namespace Go.Proofs.YtkkbmhlmgbepjaaDoor
open Go.RowKit Go.ChangeShapes Go.WideShapes Go.ChangeAt

/-- Pointers in memory. -/
def pcells (ps : List (Int × Nat)) : List Value := ps.flatMap fun p => [.int .i64 p.1, .int .u32 (p.2 : Int)]
def Ptrs (w : World) (B : Nat) (v : Value) (ps : List (Int × Nat)) : Prop := Rds w B 2 v ps.length (pcells ps)
theorem pcells_len (l : List (Int × Nat)) : (pcells l).length = l.length * 2 := by
  induction l with
  | nil => rfl
  | cons x l ih =>
    unfold pcells at ih ⊢
    rw [List.flatMap_cons, List.length_append, ih, List.length_cons, List.length_cons, List.length_cons, List.length_nil]; omega
theorem pcells_cons (p : Int × Nat) (l : List (Int × Nat)) : pcells (p :: l) = .int .i64 p.1 :: .int .u32 (p.2 : Int) :: pcells l := by unfold pcells; rw [List.flatMap_cons]; rfl
theorem pcells_app (l m : List (Int × Nat)) : pcells (l ++ m) = pcells l ++ pcells m := by unfold pcells; rw [List.flatMap_append]
theorem pcells_at : ∀ (l : List (Int × Nat)) (k : Nat) (h : k < l.length), (pcells l)[k * 2]? = some (.int .i64 l[k].1) ∧ (pcells l)[k * 2 + 1]? = some (.int .u32 (l[k].2 : Int))
  | x :: l, 0, _ => ⟨rfl, rfl⟩
  | x :: l, k + 1, h => by
    have := pcells_at l k (by simpa using h)
    rw [pcells_cons, show (k + 1) * 2 = k * 2 + 1 + 1 by omega]
    exact this
theorem Ptrs.open_ {w : World} {B : Nat} {v : Value} {l : List (Int × Nat)} (h : Ptrs w B v l) : ∃ (A : Option Addr) (c : Nat), v = .slice A l.length c ∧ l.length ≤ c ∧ c ≤ 9223372036854775807 ∧
    ∀ (j : Nat) (hj : j < l.length), ∃ b off, A = some ⟨b, off, none⟩ ∧ b < B ∧ w.cell? ⟨b, off + j * 2, none⟩ = some (.int .i64 l[j].1) ∧ w.cell? ⟨b, off + j * 2 + 1, none⟩ = some (.int .u32 (l[j].2 : Int)) := by
  obtain ⟨A, c, h1, h2, h3, h4, h5⟩ := h
  refine ⟨A, c, h1, h2, h3, fun j hj => ?_⟩
  obtain ⟨b, off, e, hb, hc⟩ := h5 (by omega)
  have := pcells_at l j hj
  exact ⟨b, off, e, hb, hc _ _ this.1, by have := hc _ _ this.2; rw [Nat.add_assoc]; exact this⟩
theorem zip_lt {L : List (Int × Nat)} (h : ∀ x ∈ L, Pk.chk x = 0) : ∀ x ∈ L, x.2 < 18446744073709551616 := by
  intro x hx
  have h1 := Pk.chk_zero (h x hx)
  have h2 : 256 ^ x.1.toNat ≤ 256 ^ 8 := Nat.pow_le_pow_right (by omega) (by omega)
  omega
/-- A block that was made. -/
def Made (l : List UInt8) (w : World) (e : Ending) (w' : World) : Prop := ∃ u, e = .returned (.tuple #[u, .int .i64 0]) ∧ Bs w' w'.heap.size u l ∧ Below w.heap.size w w'
def pN (ps : List (Int × Nat)) : List (Int × Nat) := (Nd.pW ps.length).zip (Nd.pV ps)
theorem pN_cons (p : Int × Nat) (ps : List (Int × Nat)) : pN (p :: ps) = (4, p.1.toNat) :: (4, p.2) :: pN ps := by
  unfold pN
  rw [Nd.pV_cons, List.length_cons, Nd.pW, List.zip_cons_cons, List.zip_cons_cons]
theorem pN_app : ∀ (ps qs : List (Int × Nat)), pN (ps ++ qs) = pN ps ++ pN qs
  | [], _ => rfl
  | p :: ps, qs => by rw [List.cons_append, pN_cons, pN_cons, pN_app ps qs]; rfl
theorem pN_len (ps : List (Int × Nat)) : (pN ps).length = 2 * ps.length := by
  unfold pN
  rw [List.length_zip, Nd.pW_len, Nd.pV_len, Nat.min_self]
def ncells (l : List (Int × Nat)) : List Value := l.flatMap fun x => [.int .i64 x.1, .int .u64 (x.2 : Int)]
theorem ncells_app (l m : List (Int × Nat)) : ncells (l ++ m) = ncells l ++ ncells m := by unfold ncells; rw [List.flatMap_append]
theorem infoNum : (Tryd.prog.info? 58).map (fun i => (i.zero, i.size, i.bytes)) = some (some (.agg #[.int .i64 0, .int .u64 0]), 2, 16) := by kernel_rfl
theorem Nums.of_own {w : World} {base : Nat} {e : TypeId} {v : Value} {l : List (Int × Nat)} (h : w.ownsRow base e 2 v l.length (ncells l)) : Nums w w.heap.size v l := Rds.of_own h
theorem ncells_one (l : List (Int × Nat)) : ∀ u ∈ ncells l, u.oneCell' = true := by
  intro u hu
  unfold ncells at hu
  obtain ⟨p, _, hp⟩ := List.mem_flatMap.1 hu
  simp only [List.mem_cons, List.not_mem_nil, or_false] at hp
  rcases hp with rfl | rfl <;> rfl
theorem Blk.ptr_set {w : World} {g : Nat} {T : TypeId} {cs : List Value} {l : List UInt8} {k off : Nat} (h : Blk w g T (spl cs off (pcells (Nd.ptrsOf l k)))) (hl : off + (k + 1) * 2 ≤ cs.length) (z : Int) (s : Nat) (hz : Nd.ptrAt l k = (z, s)) :
    Blk (w.setCells g (off + k * 2) [.int .i64 z, .int .u32 (s : Int)]) g T (spl cs off (pcells (Nd.ptrsOf l (k + 1)))) := by
  have hp : (pcells (Nd.ptrsOf l k)).length = k * 2 := by rw [pcells_len, Nd.ptrsOf_len]
  have h1 := h.setCells [.int .i64 z, .int .u32 (s : Int)] (off + k * 2) (by rw [spl_len _ _ _ (by rw [hp]; omega)]; simp; omega)
  have h2 := spl_spl cs off (pcells (Nd.ptrsOf l k)) [.int .i64 z, .int .u32 (s : Int)] (by rw [hp]; simp; omega)
  rw [hp] at h2
  rw [h2] at h1
  rw [Nd.ptrsOf_snoc, pcells_app, hz]
  exact h1
theorem grown_drew {a w : World} {row : Option Nat} (h : a.grownBy w row) : a.grownBy w.drew row := ⟨h.os, h.tape, h.output, h.size, h.block⟩
theorem ptrsOf_take (l : List UInt8) (m n k : Nat) (h : k + 8 * n ≤ m) : Nd.ptrsOf ((l.take m).drop k) n = Nd.ptrsOf (l.drop k) n := by
  unfold Nd.ptrsOf
  refine List.map_congr_left fun i hi => ?_
  have hin := List.mem_range.1 hi
  unfold Nd.ptrAt
  simp only [List.drop_drop, List.drop_take, List.take_take]
  rw [Nat.min_eq_left (by omega), Nat.min_eq_left (by omega)]
theorem below_of_grown {a w w' : World} {B g : Nat} (h : Below B a w) (hg : w.grownBy w' (some g)) (hB : B ≤ g) (hs : B ≤ w.heap.size) : Below B a w' := h.grown hg hs (fun k hk => by injection hk with hk; omega)
/-- A store into a block that was just made. -/
theorem wpList_store_new {P : Program} {ops : Array Oper} {rest : List Oper} {op : Oper} {a : Act} {w : World} {Q : Exit → Act → World → Prop} (hgd : op.guard = none) (ty : TypeId) (x y : Operand) (ho : op.op = .store ty x y)
    {arr : Array Value} (cs : List Value) (hx : a.eval x = .pointer (some ⟨w.heap.size, 0, none⟩)) (hy : a.eval y = .agg cs.toArray) (hn : cs.length ≤ arr.size) {T : TypeId} (_ : T = ty)
    (hi : (P.info? ty).map (·.size) = some cs.length) (h1 : ∀ v ∈ cs, v.oneCell' = true)
    (h : wpList P ops Q rest (a.put op.dst undef) ((w.alloc (.cells arr T)).setCells w.heap.size 0 cs)) : wpList P ops Q (op :: rest) a (w.alloc (.cells arr T)) := by
  refine wpList_store_mid hgd ty x y ho w.heap.size 0 cs.toArray hx hy ((Blk.new w T arr).there 0 _ (by simpa using hn)) (by simpa using hi) (all_oneCell_toArray h1) ?_
  exact h
theorem recs_app (l m : List (Int × Nat)) : Pk.recs (l ++ m) = Pk.recs l ++ Pk.recs m := by unfold Pk.recs; rw [List.flatMap_append]
theorem recs_pN_snoc (ps : List (Int × Nat)) (j : Nat) (hj : j < ps.length) : Pk.recs (pN (ps.take (j + 1))) = Pk.recs (pN (ps.take j)) ++ (Pk.be ps[j].1.toNat 4 ++ Pk.be ps[j].2 4) := by
  rw [List.take_succ_eq_append_getElem hj, pN_app, recs_app, pN_cons]
  congr 1
theorem recs_pN_len : ∀ ps : List (Int × Nat), (Pk.recs (pN ps)).length = 8 * ps.length
  | [] => rfl
  | p :: ps => by
    rw [pN_cons]
    show (Pk.be p.1.toNat 4 ++ (Pk.be p.2 4 ++ Pk.recs (pN ps))).length = _
    rw [List.length_append, List.length_append, Pk.length_be, Pk.length_be, recs_pN_len ps, List.length_cons]
    omega
theorem val_one (l : List UInt8) (j : Nat) (hj : j < l.length) : Pk.val ((l.drop j).take 1) = l[j].toNat := by
  rw [List.drop_eq_getElem_cons hj, List.take_succ_cons, List.take_zero]
  simp [Pk.val]
/-- s[j]. -/
theorem run_at (l : List UInt8) (j : Nat) (hj : j < l.length) (z : Int) (hz : z = j) (W : World) : (Instr.index 9 (.string ⟨l.toArray⟩) (.int .i64 z)).run Tryd.prog W = .ok (.int .u8 (Pk.val ((l.drop j).take 1) : Nat)) W := by
  subst hz
  rw [run_index_string W _ _ _ _ Tryd.underlying9]
  have h1 : ((j : Int) < ((⟨l.toArray⟩ : ByteArray).size : Int)) := by rw [ba_size]; omega
  rw [dif_pos ⟨Int.natCast_nonneg _, h1⟩, val_one l j hj]
  rfl
theorem pcells_inj : ∀ (ps qs : List (Int × Nat)), pcells ps = pcells qs → ps = qs
  | [], [], _ => rfl
  | [], q :: qs, h => by rw [pcells_cons] at h; cases h
  | p :: ps, [], h => by rw [pcells_cons] at h; cases h
  | p :: ps, q :: qs, h => by
    rw [pcells_cons, pcells_cons] at h
    injection h with h1 h2
    injection h2 with h2 h3
    injection h1 with _ h1
    injection h2 with _ h2
    rw [pcells_inj ps qs h3]
    congr 1
    obtain ⟨a, b⟩ := p
    obtain ⟨c, d⟩ := q
    simp only at h1 h2
    rw [Prod.mk.injEq]
    omega
theorem Kin.cons {k : IntKind} {m n : Int} {cs ds : List Value} (h : Kin cs ds) : Kin (.int k m :: cs) (.int k n :: ds) := by
  intro j a b ha hb
  cases j with
  | zero =>
    injection ha with ha
    injection hb with hb
    exact ⟨k, m, n, ha.symm, hb.symm⟩
  | succ j => exact h j a b ha hb
theorem kin_pcells : ∀ (ps qs : List (Int × Nat)), Kin (pcells ps) (pcells qs)
  | [], _ => fun j a b ha _ => by simp [pcells] at ha
  | _ :: _, [] => fun j a b _ hb => by simp [pcells] at hb
  | p :: ps, q :: qs => by
    rw [pcells_cons, pcells_cons]
    exact (kin_pcells ps qs).cons.cons
/-- Integers as pointers; as an inode. -/
def pk : Nat → List IntKind
  | 0 => []
  | n + 1 => .i64 :: .u32 :: pk n
theorem ptrs_of_ints : ∀ (n : Nat) (zs : List Int), zs.length = 2 * n → (∀ (j : Nat) (k : IntKind) (z : Int), (pk n)[j]? = some k → zs[j]? = some z → (Lit.int k z).wf = true) →
    ∃ ps : List (Int × Nat), ps.length = n ∧ ((pk n).zip zs).map (fun p => Value.int p.1 p.2) = pcells ps ∧ ∀ p ∈ ps, p.2 < 4294967296
  | 0, [], _, _ => ⟨[], rfl, rfl, by simp⟩
  | n + 1, a :: b :: zs, hl, hw => by
    obtain ⟨ps, h1, h2, h3⟩ := ptrs_of_ints n zs (by simp only [List.length_cons] at hl; omega) (fun j k z hj hz => hw (j + 2) k z hj hz)
    have hb := wf_u32 (hw 1 .u32 b rfl rfl)
    obtain ⟨s, rfl⟩ := Int.eq_ofNat_of_zero_le hb.1
    refine ⟨(a, s) :: ps, by simp [h1], ?_, ?_⟩
    · rw [pcells_cons, ← h2]; rfl
    · intro p hp
      rcases List.mem_cons.1 hp with rfl | hp
      · show s < _; omega
      · exact h3 p hp
  | n + 1, [_], hl, _ => by simp only [List.length_cons, List.length_nil] at hl; omega
  | n + 1, [], hl, _ => by simp only [List.length_nil] at hl; omega
  | 0, _ :: _, hl, _ => by simp at hl
theorem all_oneP (ps : List (Int × Nat)) : ∀ v ∈ pcells ps, v.oneCell' = true := by
  intro v hv
  unfold pcells at hv
  obtain ⟨p, _, hp⟩ := List.mem_flatMap.1 hv
  simp only [List.mem_cons, List.not_mem_nil, or_false] at hp
  rcases hp with rfl | rfl <;> rfl
end Go.Proofs.YtkkbmhlmgbepjaaDoor
