/-
  Words for memory that all walks of this seat use: a slice that reads as a list of cells, of octets, of numbers, of lists of octets; kept where memory grows. No condition of their own. By an AI agent.
-/
import Derived.WalkKit
import Derived.ProofKit
import Derived.OpenShut
import Derived.ShutString
import Derived.ChangeOld
import Derived.Lib.Hide
import Derived.Deep.QuietTactic
import Derived.BigQuiet
import Derived.Deep.Draws
import Derived.Lib.ConvBytes
import Derived.Maps.AppendAt
import Derived.Deep.Matrix
import Derived.Lib.SlBytesConst
namespace Go.Proofs.Ytahcbgllnoopgaa
open Go.RowKit Go.ChangeShapes Go.WideShapes Go.ChangeAt

theorem maxLen_eq : maxLen = 9223372036854775807 := rfl

theorem below_drewN {B : Nat} {a w : World} (h : Below B a w) (n : Nat) : Below B a (w.drewN n) := ⟨h.os, h.tape, h.output, h.size, h.block⟩

theorem ba_size (l : List UInt8) : (⟨l.toArray⟩ : ByteArray).size = l.length := by show l.toArray.size = _; simp
theorem ba_get (l : List UInt8) (k : Nat) (h : k < l.length) : (⟨l.toArray⟩ : ByteArray)[k]'(by rw [ba_size]; exact h) = l[k] := rfl

/-- The slice value v has n elements of sz cells each, the cells xs, in a block below B. -/
def Rds (w : World) (B sz : Nat) (v : Value) (n : Nat) (xs : List Value) : Prop :=
  ∃ (A : Option Addr) (c : Nat), v = .slice A n c ∧ n ≤ c ∧ c ≤ maxLen ∧ xs.length = n * sz ∧
    (0 < n → ∃ b off, A = some ⟨b, off, none⟩ ∧ b < B ∧ ∀ j u, xs[j]? = some u → w.cell? ⟨b, off + j, none⟩ = some u)

section
variable {w w' : World} {B B' sz n : Nat} {v : Value} {xs : List Value}
theorem Rds.keep (h : Rds w B sz v n xs) (hk : ∀ p : Addr, p.block < B → w'.cell? p = w.cell? p) : Rds w' B sz v n xs := by
  obtain ⟨A, c, h1, h2, h3, h4, h5⟩ := h
  refine ⟨A, c, h1, h2, h3, h4, fun hn => ?_⟩
  obtain ⟨b, off, e, hb, hc⟩ := h5 hn
  exact ⟨b, off, e, hb, fun j u hu => (hk _ hb).trans (hc j u hu)⟩
theorem Rds.more (h : Rds w B sz v n xs) (hB : B ≤ B') : Rds w B' sz v n xs := by
  obtain ⟨A, c, h1, h2, h3, h4, h5⟩ := h
  refine ⟨A, c, h1, h2, h3, h4, fun hn => ?_⟩
  obtain ⟨b, off, e, hb, hc⟩ := h5 hn
  exact ⟨b, off, e, Nat.lt_of_lt_of_le hb hB, hc⟩
theorem Rds.below (h : Rds w B sz v n xs) (hb : Below B w w') : Rds w' B sz v n xs := h.keep fun _ hp => hb.cell hp
theorem Rds.ext (h : Rds w B sz v n xs) (hB : B ≤ w.heap.size) (hb : Below w.heap.size w w') : Rds w' B sz v n xs := h.below (hb.mono hB)
theorem Rds.alloc (h : Rds w B sz v n xs) (hB : B ≤ w.heap.size) (o : Obj) : Rds (w.alloc o) B sz v n xs := h.keep fun p hp => World.cell?_alloc_lt w o p (by omega)
theorem Rds.setCell (h : Rds w B sz v n xs) {p : Addr} (hB : B ≤ p.block) (u : Value) : Rds (w.setCell p u) B sz v n xs :=
  h.keep fun q hq => World.cell?_setCell_other w p q u (fun e => by subst e; omega)
theorem Rds.grown (h : Rds w B sz v n xs) {row : Option Nat} (hg : w.grownBy w' row) (hB : B ≤ w.heap.size) (hr : ∀ g, row = some g → B ≤ g) : Rds w' B sz v n xs :=
  h.keep fun p hp => World.cell?_of_block (hg.block p.block (by omega) (fun e => by have := hr _ e.symm; omega))
theorem Rds.drew (h : Rds w B sz v n xs) : Rds w.drew B sz v n xs := h
theorem Rds.drewN (h : Rds w B sz v n xs) (k : Nat) : Rds (w.drewN k) B sz v n xs := h
theorem Rds.nil_ (w : World) (B sz : Nat) : Rds w B sz (.slice none 0 0) 0 [] := ⟨none, 0, rfl, Nat.le_refl _, by simp [maxLen], by simp, fun h => absurd h (by omega)⟩
theorem Rds.of_own {base : Nat} {e : TypeId} (h : w.ownsRow base e sz v n xs) : Rds w w.heap.size sz v n xs := by
  rcases h.2 with ⟨rfl, rfl⟩ | ⟨g, cap, cur, rfl, _, hg, hnc, hcm, _, _⟩
  · exact ⟨none, 0, rfl, Nat.le_refl _, by simp [maxLen], h.1, fun hn => absurd hn (by omega)⟩
  · refine ⟨_, _, rfl, hnc, hcm, h.1, fun hn => ⟨g, 0, rfl, ?_, fun j u hu => ?_⟩⟩
    · exact (h.lt g rfl).2
    · have := h.cells (g := g) rfl j u hu
      rw [Nat.zero_add]
      unfold Addr.add at this
      by_cases hj : j = 0
      · subst hj; simpa using this
      · simpa [hj] using this
/-- The first k elements. -/
theorem Rds.head {A : Option Addr} {c k : Nat} (h : Rds w B sz (.slice A n c) n xs) (hk : k ≤ n) : Rds w B sz (.slice A k c) k (xs.take (k * sz)) := by
  obtain ⟨A', c', he, h2, h3, h4, h5⟩ := h
  injection he with e1 e2 e3
  subst e1 e3
  refine ⟨A, c, rfl, by omega, h3, ?_, fun hn => ?_⟩
  · rw [List.length_take, h4]
    have := Nat.mul_le_mul_right sz hk
    omega
  · obtain ⟨b, off, e, hb, hc⟩ := h5 (by omega)
    refine ⟨b, off, e, hb, fun j u hu => hc j u ?_⟩
    rw [List.getElem?_take] at hu
    split at hu
    · exact hu
    · cases hu
/-- From element k on: as the walk spells it where the element is one cell. -/
theorem Rds.tail {A : Option Addr} {c k : Nat} (h : Rds w B sz (.slice A n c) n xs) (hk : k ≤ n) :
    Rds w B sz (.slice (if c = k then A else A.map (·.add (k * sz))) (n - k) (c - k)) (n - k) (xs.drop (k * sz)) := by
  obtain ⟨A', c', he, h2, h3, h4, h5⟩ := h
  injection he with e1 e2 e3
  subst e1 e3
  refine ⟨_, _, rfl, by omega, by omega, ?_, fun hn => ?_⟩
  · rw [List.length_drop, h4, Nat.sub_mul]
  · obtain ⟨b, off, rfl, hb, hc⟩ := h5 (by omega)
    rw [if_neg (by omega)]
    refine ⟨b, off + k * sz, ?_, hb, fun j u hu => ?_⟩
    · unfold Addr.add
      by_cases h0 : k * sz = 0
      · simp [h0]
      · simp [h0]
    · rw [Nat.add_assoc]
      exact hc _ u (by rw [← hu, List.getElem?_drop])
theorem Rds.len (h : Rds w B sz v n xs) : n ≤ 9223372036854775807 := by
  obtain ⟨A, c, h1, h2, h3, h4, h5⟩ := h
  rw [maxLen_eq] at h3; omega
end

/-! ### A block of the call's own, known whole -/
def Blk (w : World) (g : Nat) (t : TypeId) (cs : List Value) : Prop := w.heap[g]? = some (.cells cs.toArray t (0, 0))
section
variable {w w' : World} {g : Nat} {t : TypeId} {cs : List Value}
theorem Blk.lt (h : Blk w g t cs) : g < w.heap.size := by
  rcases Nat.lt_or_ge g w.heap.size with hlt | hge
  · exact hlt
  · unfold Blk at h; rw [Array.getElem?_eq_none hge] at h; cases h
theorem Blk.cell (h : Blk w g t cs) (i : Nat) : w.cell? ⟨g, i, none⟩ = cs[i]? := by
  rw [cell_of_row w g i cs.toArray t (0, 0) h]; simp
theorem Blk.frozen (h : Blk w g t cs) (i : Nat) : w.frozen? ⟨g, i, none⟩ = false := by
  unfold Blk at h
  simp [World.frozen?, h]
theorem Blk.new (w : World) (t : TypeId) (a : Array Value) : Blk (w.alloc (.cells a t)) w.heap.size t a.toList := heap_alloc_new w _
theorem Blk.drew (h : Blk w g t cs) : Blk w.drew g t cs := h
theorem Blk.drewN (h : Blk w g t cs) (n : Nat) : Blk (w.drewN n) g t cs := h
theorem Blk.alloc (h : Blk w g t cs) (o : Obj) : Blk (w.alloc o) g t cs := (Below.heap_alloc w o g h.lt).trans h
theorem Blk.set_ (h : Blk w g t cs) (i : Nat) (u : Value) : Blk (w.setCell ⟨g, i, none⟩ u) g t (cs.set i u) := by
  unfold Blk at h ⊢
  simp [World.setCell, Array.getElem?_modify, h]
theorem Blk.far (h : Blk w g t cs) {p : Addr} (hp : g ≠ p.block) (u : Value) : Blk (w.setCell p u) g t cs := (Below.heap_setCell w p u g hp).trans h
theorem Blk.below {B : Nat} (h : Blk w g t cs) (hb : Below B w w') (hg : g < B) : Blk w' g t cs := (hb.block g hg).trans h
theorem Blk.ext (h : Blk w g t cs) (hb : Below w.heap.size w w') : Blk w' g t cs := h.below hb h.lt
theorem Blk.grown {row : Option Nat} (h : Blk w g t cs) (hb : w.grownBy w' row) (hg : some g ≠ row) : Blk w' g t cs := (hb.block g h.lt hg).trans h
theorem Blk.row (h : Blk w g t cs) (a : Array Value) : Blk (w.setRow g a) g t a.toList := setRow_heap w g _ a t _ h
theorem below_setRow {B : Nat} {a w : World} (h : Below B a w) {g : Nat} (hg : B ≤ g) (cs : Array Value) : Below B a (w.setRow g cs) :=
  h.trans ⟨rfl, rfl, rfl, by simp, fun k hk => setRow_other w g k cs (by omega)⟩
/-- The n elements from cell off on. -/
theorem Blk.rds (h : Blk w g t cs) (off n c sz : Nat) (hn : off + n * sz ≤ cs.length) (hc : n ≤ c) (hm : c ≤ maxLen) :
    Rds w (g + 1) sz (.slice (some ⟨g, off, none⟩) n c) n ((cs.drop off).take (n * sz)) := by
  refine ⟨_, _, rfl, hc, hm, by rw [List.length_take, List.length_drop]; omega, fun _ => ⟨g, off, rfl, by omega, fun j u hu => ?_⟩⟩
  rw [List.getElem?_take] at hu
  split at hu
  · rw [List.getElem?_drop] at hu
    rw [h.cell, hu]
  · cases hu
theorem Blk.own (h : Blk w g t cs) {base : Nat} (hb : base ≤ g) (n cap sz : Nat) (hs : cs.length = cap * sz) (hn : n ≤ cap) (hm : cap ≤ maxLen) :
    w.ownsRow base t sz (.slice (some ⟨g, 0, none⟩) n cap) n (cs.take (n * sz)) := by
  refine ⟨?_, .inr ⟨g, cap, cs.toArray, rfl, hb, h, hn, hm, by simpa using hs, by simp⟩⟩
  rw [List.length_take, hs]
  have := Nat.mul_le_mul_right sz hn
  omega
/-- copy onto a whole block, of octets (or whatever is one cell wide). -/
theorem run_copy_rds {P : Program} (h : Blk w g t cs) {B n m c c' : Nat} {A : Option Addr} {xs : List Value} (dT ty elem : TypeId)
    (hu : P.underlying dT = some (.slice elem)) (hs : (P.info? elem).map (·.size) = some 1) (hr : Rds w B 1 (.slice A m c) m xs) (h1 : ∀ u ∈ xs, u.oneCell' = true) (hmn : m ≤ n) (hn : n = cs.length) :
    ∃ w2, (Builtin.copy_ #[dT, dT] ty #[.slice (some ⟨g, 0, none⟩) n c', .slice A m c]).run P w = .ok (.int .i64 (m : Int)) w2 ∧ Blk w2 g t (xs ++ cs.drop m) ∧ ∀ (B' : Nat) (a : World), B' ≤ g → Below B' a w → Below B' a w2 := by
  obtain ⟨A', c2, he, h2, h3, h4, h5⟩ := hr
  injection he with e1 e2 e3
  subst e1 e3
  rw [Nat.mul_one] at h4
  by_cases hm : m = 0
  · subst hm
    have hx : xs = [] := List.eq_nil_of_length_eq_zero h4
    subst hx
    exact ⟨w, run_copy_none w dT dT ty elem _ _ _ _ _ _ hu hs (by simp), by simpa using h, fun _ _ _ hb => hb⟩
  · obtain ⟨b, off, rfl, hb, hc⟩ := h5 (by omega)
    have hr := run_copy_row (P := P) w dT dT ty elem g 0 n c' ⟨b, off, none⟩ m c cs.toArray t xs hu hs h (by rw [h4]; exact (Nat.min_eq_left hmn).symm)
      (fun j v hv => by rw [add_plain]; exact hc j v hv) (by simp; omega) h1
    refine ⟨w.setRow g (cs.toArray.toList.take 0 ++ xs ++ cs.toArray.toList.drop (0 + xs.length)).toArray, ?_, ?_, fun _ _ hg hb => below_setRow hb hg _⟩
    · rw [hr, h4]; rfl
    · have := h.row (cs.toArray.toList.take 0 ++ xs ++ cs.toArray.toList.drop (0 + xs.length)).toArray
      rw [h4]  at this ⊢
      simpa using this
end

/-- make([]T, n, c). -/
theorem run_mk {P : Program} {t e size bytes : Nat} {z : Value} (ht : P.underlying t = some (.slice e)) (hinfo : (P.info? e).map (fun i => (i.zero, i.size, i.bytes)) = some (some z, size, bytes)) (n c : Nat) (hnc : n ≤ c) (hb : bytes * c ≤ 281474976710656) (hc : c ≤ 9223372036854775807) (w : World) :
    (Instr.makeSlice t (.int .i64 (n : Int)) (.int .i64 (c : Int))).run P w = .ok (.slice (some ⟨w.heap.size, 0, none⟩) n c) (w.alloc (.cells (madeCells z.cells (c * size)) e)) := by
  obtain ⟨i, hi, hz, hs, hby⟩ := info_parts hinfo
  have hb' : (i.bytes : Int) * (c : Int) ≤ 281474976710656 := by
    rw [hby]
    have h : ((bytes * c : Nat) : Int) ≤ 281474976710656 := by omega
    rwa [Int.natCast_mul] at h
  have hr := run_make (P := P) w t e i z ht hi hz .i64 .i64 n c (by omega) (by omega) hb' (by omega)
  simp only [Int.toNat_natCast, hs] at hr
  exact hr
/-- append onto a row of the call's own, whatever the source (nil, empty or not). -/
theorem run_append_rds {P : Program} {w : World} {base t ty e size bytes : Nat} {z : Value} (ht : P.underlying t = some (.slice e)) (hinfo : (P.info? e).map (fun i => (i.zero, i.size, i.bytes)) = some (some z, size, bytes)) (hzs : z.cells.size = size) (hsz : 0 < size)
    {v : Value} {n : Nat} {xs : List Value} (hown : w.ownsRow base e size v n xs) {B m c : Nat} {A : Option Addr} {news : List Value} (hr : Rds w B size (.slice A m c) m news) (h1 : ∀ u ∈ news, u.oneCell' = true)
    (h63 : n + m ≤ maxLen) (hbytes : (n + m) * bytes ≤ 140737488355328) (hbase : base ≤ w.heap.size) :
    ∃ v' w', (Builtin.append_ #[t, t] ty #[v, .slice A m c]).run P w = .ok v' w' ∧ w'.ownsRow base e size v' (n + m) (xs ++ news) ∧ w.grownBy w' v.ownBlock ∧ (v'.ownBlock = v.ownBlock ∨ v'.ownBlock = some w.heap.size) := by
  obtain ⟨i, hi, hz, hs, hby⟩ := info_parts hinfo
  obtain ⟨A', c', he, h2, h3, h4, h5⟩ := hr
  injection he with e1 e2 e3
  subst e1 e3
  cases A with
  | none =>
    have hm : m = 0 := by
      rcases Nat.eq_zero_or_pos m with h0 | h0
      · exact h0
      · obtain ⟨b, off, hA, _⟩ := h5 h0
        cases hA
    subst hm
    have hx : news = [] := List.eq_nil_of_length_eq_zero (by rw [h4, Nat.zero_mul])
    subst hx
    refine ⟨v, w, ?_, by simpa using hown, World.grownBy.refl w _, .inl rfl⟩
    rcases hown.2 with ⟨rfl, rfl⟩ | ⟨g, cap, cur, rfl, _, _, hnc, _⟩
    · simp [Builtin.append_, run_underlying ht, sizeOf, typeInfo, hi, Builtin.lenOf, Builtin.firstCells]
    · simp [Builtin.append_, run_underlying ht, sizeOf, typeInfo, hi, Builtin.lenOf, Builtin.firstCells, hnc, storeCells]
  | some ad =>
    have hnews : ∀ j u, news[j]? = some u → w.cell? (ad.add j) = some u := by
      intro j u hu
      rcases Nat.eq_zero_or_pos m with h0 | h0
      · subst h0
        have hx : news = [] := List.eq_nil_of_length_eq_zero (by rw [h4, Nat.zero_mul])
        subst hx
        simp at hu
      · obtain ⟨b, off, hA, _, hc⟩ := h5 h0
        injection hA with hA
        subst hA
        rw [add_plain]
        exact hc j u hu
    obtain ⟨v', w', hrun, g2, g3, _, g5⟩ := run_append_own_at (P := P) w base t ty e i z size bytes ht hi hz hs hby hzs hsz v n xs hown ad m c news h4 hnews h1 h63 hbytes hbase
    exact ⟨v', w', hrun, g2, g3, g5⟩
theorem grown_of_below {a w : World} (h : Below a.heap.size a w) (row : Option Nat) : a.grownBy w row := ⟨h.os, h.tape, h.output, h.size, fun i hi _ => h.block i hi⟩

/-- A row of the call's own, and a block of another element type, are two. -/
theorem own_blk_ne {w : World} {g : Nat} {t : TypeId} {cs : List Value} {base : Nat} {e : TypeId} {sz n : Nat} {v : Value} {xs : List Value} (h : w.ownsRow base e sz v n xs) (hg : Blk w g t cs) (hne : e ≠ t) : some g ≠ v.ownBlock := by
  rcases h.2 with ⟨rfl, _⟩ | ⟨g', cap, cur, rfl, _, hh, _⟩
  · simp [Value.ownBlock]
  · intro he
    have e1 : g = g' := by simpa [Value.ownBlock] using he
    subst e1
    unfold Blk at hg
    rw [hh] at hg
    injection hg with hg
    injection hg with _ ht
    exact hne ht
/-- Two rows of the call's own of different element types: what is appended to one leaves the other. -/
theorem own_other {w w' : World} {base base' : Nat} {e e' : TypeId} {sz sz' n n' : Nat} {v v' : Value} {xs xs' : List Value} (h : w.ownsRow base e sz v n xs) (h' : w.ownsRow base' e' sz' v' n' xs') (hne : e ≠ e') (hg : w.grownBy w' v'.ownBlock) : w'.ownsRow base e sz v n xs := by
  refine h.kept hg ?_
  rcases h.2 with ⟨rfl, _⟩ | ⟨g, cap, cur, rfl, _, hh, _⟩
  · exact .inl rfl
  · right
    exact own_blk_ne (t := e) (cs := cur.toList) h' (by unfold Blk; simpa using hh) (Ne.symm hne)
theorem own_ext {w w' : World} {base : Nat} {e : TypeId} {sz n : Nat} {v : Value} {xs : List Value} (h : w.ownsRow base e sz v n xs) (hb : Below w.heap.size w w') : w'.ownsRow base e sz v n xs :=
  h.kept (grown_of_below hb none) (by cases v.ownBlock <;> simp)

/-- Octets. -/
def Bs (w : World) (B : Nat) (v : Value) (l : List UInt8) : Prop := Rds w B 1 v l.length (l.map fun c => .int .u8 (c.toNat : Int))
/-- Integers of a kind. -/
def Is (k : IntKind) (w : World) (B : Nat) (v : Value) (l : List Int) : Prop := Rds w B 1 v l.length (l.map fun c => .int k c)
/-- Lists of octets. -/
def Bss (w : World) (B : Nat) (v : Value) (ls : List (List UInt8)) : Prop :=
  ∃ us : List Value, us.length = ls.length ∧ Rds w B 1 v ls.length us ∧ ∀ (j : Nat) u l, us[j]? = some u → ls[j]? = some l → Bs w B u l

section
variable {w w' : World} {B B' : Nat} {v : Value} {l : List UInt8} {ls : List (List UInt8)}
/-- What a walk opens: the value's form, its size, and each octet's cell. -/
theorem Bs.open_ (h : Bs w B v l) : ∃ (A : Option Addr) (c : Nat), v = .slice A l.length c ∧ l.length ≤ c ∧ c ≤ 9223372036854775807 ∧
    ∀ (j : Nat) (hj : j < l.length), ∃ b off, A = some ⟨b, off, none⟩ ∧ b < B ∧ w.cell? ⟨b, off + j, none⟩ = some (.int .u8 (l[j].toNat : Int)) := by
  obtain ⟨A, c, h1, h2, h3, h4, h5⟩ := h
  refine ⟨A, c, h1, h2, h3, fun j hj => ?_⟩
  obtain ⟨b, off, e, hb, hc⟩ := h5 (by omega)
  exact ⟨b, off, e, hb, hc j _ (by simp [hj])⟩
theorem Is.open_ {k : IntKind} {l : List Int} (h : Is k w B v l) : ∃ (A : Option Addr) (c : Nat), v = .slice A l.length c ∧ l.length ≤ c ∧ c ≤ 9223372036854775807 ∧
    ∀ (j : Nat) (hj : j < l.length), ∃ b off, A = some ⟨b, off, none⟩ ∧ b < B ∧ w.cell? ⟨b, off + j, none⟩ = some (.int k l[j]) := by
  obtain ⟨A, c, h1, h2, h3, h4, h5⟩ := h
  refine ⟨A, c, h1, h2, h3, fun j hj => ?_⟩
  obtain ⟨b, off, e, hb, hc⟩ := h5 (by omega)
  exact ⟨b, off, e, hb, hc j _ (by simp [hj])⟩
theorem Bss.open_ (h : Bss w B v ls) : ∃ (A : Option Addr) (c : Nat), v = .slice A ls.length c ∧ ls.length ≤ c ∧ c ≤ 9223372036854775807 ∧
    ∀ (j : Nat) (hj : j < ls.length), ∃ b off u, A = some ⟨b, off, none⟩ ∧ b < B ∧ w.cell? ⟨b, off + j, none⟩ = some u ∧ Bs w B u ls[j] := by
  obtain ⟨us, hu, ⟨A, c, h1, h2, h3, h4, h5⟩, hb⟩ := h
  refine ⟨A, c, h1, h2, h3, fun j hj => ?_⟩
  obtain ⟨b, off, e, hb', hc⟩ := h5 (by omega)
  have hj' : j < us.length := by omega
  exact ⟨b, off, us[j], e, hb', hc j _ (by simp [hj']), hb j _ _ (by simp [hj']) (by simp [hj])⟩
theorem Bs.openD (h : Bs w B v l) : ∃ (A : Option Addr) (c : Nat), v = .slice A l.length c ∧ l.length ≤ c ∧ c ≤ 9223372036854775807 ∧
    ∀ (j : Nat), j < l.length → ∃ b off, A = some ⟨b, off, none⟩ ∧ b < B ∧ w.cell? ⟨b, off + j, none⟩ = some (.int .u8 ((l.getD j 0).toNat : Int)) := by
  obtain ⟨A, c, h1, h2, h3, h4⟩ := h.open_
  refine ⟨A, c, h1, h2, h3, fun j hj => ?_⟩
  obtain ⟨b, off, e, hb, hc⟩ := h4 j hj
  exact ⟨b, off, e, hb, by rw [hc]; simp [List.getD, hj]⟩
theorem Bs.len (h : Bs w B v l) : l.length ≤ 9223372036854775807 := Rds.len h
theorem Bs.more (h : Bs w B v l) (hB : B ≤ B') : Bs w B' v l := Rds.more h hB
theorem Bs.ext (h : Bs w B v l) (hB : B ≤ w.heap.size) (hb : Below w.heap.size w w') : Bs w' B v l := Rds.ext h hB hb
theorem Bs.back (h : Bs w' B v l) (hb : Below B w w') : Bs w B v l := Rds.keep h fun _ hp => (hb.cell hp).symm
theorem Bs.head {A : Option Addr} {c k : Nat} (h : Bs w B (.slice A l.length c) l) (hk : k ≤ l.length) : Bs w B (.slice A k c) (l.take k) := by
  have := Rds.head h hk
  unfold Bs
  rw [List.length_take, Nat.min_eq_left hk, List.map_take]
  simpa using this
theorem Bs.tail {A : Option Addr} {c k : Nat} (h : Bs w B (.slice A l.length c) l) (hk : k ≤ l.length) :
    Bs w B (.slice (if c = k then A else A.map (·.add k)) (l.length - k) (c - k)) (l.drop k) := by
  have := Rds.tail h hk
  unfold Bs
  rw [List.length_drop, List.map_drop]
  simpa using this
theorem Is.head {k' : IntKind} {z : List Int} {A : Option Addr} {c k : Nat} (h : Is k' w B (.slice A z.length c) z) (hk : k ≤ z.length) : Is k' w B (.slice A k c) (z.take k) := by
  have := Rds.head h hk
  unfold Is
  rw [List.length_take, Nat.min_eq_left hk, List.map_take]
  simpa using this
theorem Bs.of_own {base : Nat} {e : TypeId} (h : w.ownsRow base e 1 v l.length (l.map fun c => .int .u8 (c.toNat : Int))) : Bs w w.heap.size v l := Rds.of_own h
theorem Bss.ext (h : Bss w B v ls) (hB : B ≤ w.heap.size) (hb : Below w.heap.size w w') : Bss w' B v ls := by
  obtain ⟨us, h1, h2, h3⟩ := h
  exact ⟨us, h1, h2.ext hB hb, fun j u l hu hl => (h3 j u l hu hl).ext hB hb⟩
theorem Bss.more (h : Bss w B v ls) (hB : B ≤ B') : Bss w B' v ls := by
  obtain ⟨us, h1, h2, h3⟩ := h
  exact ⟨us, h1, h2.more hB, fun j u l hu hl => (h3 j u l hu hl).more hB⟩
end

theorem ba_append (l m : List UInt8) : (⟨l.toArray⟩ : ByteArray) ++ ⟨m.toArray⟩ = ⟨(l ++ m).toArray⟩ := by
  apply ByteArray.ext
  simp

theorem flatten_le (n : Nat) (ls : List (List UInt8)) (h : ∀ l ∈ ls, l.length ≤ n) : ls.flatten.length ≤ n * ls.length := by
  induction ls with
  | nil => simp
  | cons l ls ih =>
    have h1 := h l List.mem_cons_self
    have h2 := ih fun m hm => h m (List.mem_cons_of_mem _ hm)
    rw [List.flatten_cons, List.length_append, List.length_cons, Nat.mul_add]; omega
theorem bytesLess_lt : ∀ (l m : List UInt8), Op.bytesLess l m = decide (l < m)
  | [], [] => by simp [Op.bytesLess]
  | [], _ :: _ => by simp [Op.bytesLess]
  | _ :: _, [] => by simp [Op.bytesLess]
  | a :: l, b :: m => by
    have ih := bytesLess_lt l m
    rw [Bool.eq_iff_iff, decide_eq_true_iff, List.cons_lt_cons_iff]
    rw [Bool.eq_iff_iff, decide_eq_true_iff] at ih
    simp only [Op.bytesLess, Bool.or_eq_true, Bool.and_eq_true, decide_eq_true_eq, beq_iff_eq, ih]
theorem ba_extract (l : List UInt8) (i j : Nat) : (⟨l.toArray⟩ : ByteArray).extract i j = ⟨((l.take j).drop i).toArray⟩ := by
  apply ByteArray.ext
  rw [ByteArray.data_extract]
  apply Array.toList_inj.1
  simp [List.extract, List.drop_take]
theorem ba_take (l : List UInt8) (j : Nat) : (⟨l.toArray⟩ : ByteArray).extract 0 j = ⟨(l.take j).toArray⟩ := by rw [ba_extract, List.drop_zero]
/-- string(b). -/
theorem run_string_of {P : Program} {w : World} {B : Nat} {v : Value} {l : List UInt8} (h : Bs w B v l) (src dst e : TypeId) (hs : P.underlying src = some (.slice e)) (he : P.underlying e = some (.int .u8)) (hd : P.underlying dst = some .string) :
    (convert src dst v).run P w = .ok (.string ⟨l.toArray⟩) w := by
  obtain ⟨A, c, rfl, h2, h3, h4⟩ := h.open_
  by_cases hn : 0 < l.length
  · obtain ⟨b, off, rfl, _, _⟩ := h4 0 hn
    refine run_convert_bytes_back w src dst e ⟨b, off, none⟩ c l hs he hd fun j hj => ?_
    obtain ⟨b', off', e', _, hc⟩ := h4 j hj
    injection e' with e'
    injection e' with e1 e2
    subst e1 e2
    rw [add_plain]; exact hc
  · have : l = [] := List.eq_nil_of_length_eq_zero (by omega)
    subst this
    cases A with
    | none => exact run_convert_bytes_nil w src e hs he 0 c dst hd
    | some a => exact run_convert_bytes_back w src dst e a c [] hs he hd fun j hj => absurd hj (by simp)

/-- []byte(s). -/
theorem run_bytes_of {P : Program} (w : World) (l : List UInt8) (hl : l.length ≤ maxLen) (src dst e : TypeId) (hs : P.underlying src = some .string) (hd : P.underlying dst = some (.slice e)) (he : P.underlying e = some (.int .u8)) :
    ∃ v w', (convert src dst (.string ⟨l.toArray⟩)).run P w = .ok v w' ∧ Bs w' w'.heap.size v l ∧ Below w.heap.size w w' := by
  refine ⟨_, _, Lib.run_convert_string_bytes w src dst e ⟨l.toArray⟩ hs hd he, ?_, rfl, rfl, rfl, by rw [Lib.bytesWorld_size]; omega, fun k hk => Lib.bytesWorld_at_old w e _ k hk⟩
  refine ⟨some ⟨w.heap.size, 0, none⟩, grownCap w (⟨l.toArray⟩ : ByteArray).size 0 e, by rw [ba_size], ?_, ?_, by simp, fun hn => ⟨w.heap.size, 0, rfl, by rw [Lib.bytesWorld_size]; omega, fun j u hu => ?_⟩⟩
  · have := grownCap_ge w (⟨l.toArray⟩ : ByteArray).size 0 e
    rw [ba_size] at this ⊢; exact this
  · exact grownCap_le_maxLen w _ 0 e (by rw [ba_size]; exact hl)
  · rw [List.getElem?_map] at hu
    by_cases hj : j < l.length
    · rw [List.getElem?_eq_getElem hj] at hu
      injection hu with hu
      rw [Nat.zero_add, Lib.bytesWorld_cell w e _ j (by rw [ba_size]; exact hj), ← hu]
      simp [List.getD, hj]
    · rw [List.getElem?_eq_none (by omega)] at hu
      cases hu

/-- A slice literal of octets. -/
theorem Bs.lit (w : World) (t : TypeId) (a : Array Value) (l : List UInt8) (n : Nat) (ha : a.toList = l.map fun c => .int .u8 (c.toNat : Int)) (hn : n = l.length) (hm : n ≤ maxLen) :
    Bs (w.alloc (.cells a t)) (w.heap.size + 1) (.slice (some ⟨w.heap.size, 0, none⟩) n n) l := by
  have := (Blk.new w t a).rds 0 n n 1 (by rw [ha, List.length_map]; omega) (Nat.le_refl _) hm
  subst hn
  unfold Bs
  rw [ha, List.drop_zero, List.take_of_length_le (by rw [List.length_map]; omega)] at this
  exact this
theorem Is.lit (k : IntKind) (w : World) (t : TypeId) (a : Array Value) (l : List Int) (n : Nat) (ha : a.toList = l.map fun c => .int k c) (hn : n = l.length) (hm : n ≤ maxLen) :
    Is k (w.alloc (.cells a t)) (w.heap.size + 1) (.slice (some ⟨w.heap.size, 0, none⟩) n n) l := by
  have := (Blk.new w t a).rds 0 n n 1 (by rw [ha, List.length_map]; omega) (Nat.le_refl _) hm
  subst hn
  unfold Is
  rw [ha, List.drop_zero, List.take_of_length_le (by rw [List.length_map]; omega)] at this
  exact this

theorem Is.lit' (k : IntKind) (w : World) (t : TypeId) (a : Array Value) (l : List Int) (n : Nat) {g : Nat} (hg : g = w.heap.size) (ha : a.toList = l.map fun c => .int k c) (hn : n = l.length) (hm : n ≤ maxLen) :
    Is k (w.alloc (.cells a t)) (g + 1) (.slice (some ⟨g, 0, none⟩) n n) l := by subst hg; exact Is.lit k w t a l n ha hn hm
/-- Octets at the head of a block, whatever is frozen of it. -/
theorem Bs.at_block {w : World} {g n c : Nat} {t : TypeId} {a : Array Value} {fr : Nat × Nat} (hg : w.heap[g]? = some (.cells a t fr)) (l : List UInt8) (ha : a.toList = l.map fun c => .int .u8 (c.toNat : Int)) (hn : n = l.length) (hc : n ≤ c) (hm : c ≤ maxLen) :
    Bs w (g + 1) (.slice (some ⟨g, 0, none⟩) n c) l := by
  subst hn
  refine ⟨_, _, rfl, hc, hm, by simp, fun _ => ⟨g, 0, rfl, by omega, fun j u hu => ?_⟩⟩
  rw [cell_of_row w g _ a t fr hg, Nat.zero_add, ← Array.getElem?_toList, ha, hu]

/-- A slice literal of one slice. -/
theorem Bss.lit1 {w : World} {u : Value} {l : List UInt8} (t : TypeId) (h : Bs w w.heap.size u l) :
    Bss (w.alloc (.cells #[u] t)) (w.heap.size + 1) (.slice (some ⟨w.heap.size, 0, none⟩) 1 1) [l] := by
  refine ⟨[u], rfl, ⟨some ⟨w.heap.size, 0, none⟩, 1, rfl, Nat.le_refl _, by simp [maxLen], rfl, fun _ => ⟨w.heap.size, 0, rfl, by omega, fun j x hx => ?_⟩⟩, fun j x m hx hm => ?_⟩
  · match j, hx with
    | 0, hx =>
      injection hx with hx
      subst hx
      simp [go_sem]
  · match j, hx, hm with
    | 0, hx, hm =>
      injection hx with hx
      injection hm with hm
      subst hx hm
      exact (Rds.alloc h (Nat.le_refl _) _).more (Nat.le_succ _)

theorem Bss.lit1' {w : World} {u : Value} {l : List UInt8} (t : TypeId) (h : Bs w w.heap.size u l) {g : Nat} (hg : g = w.heap.size) :
    Bss (w.alloc (.cells #[u] t)) (g + 1) (.slice (some ⟨g, 0, none⟩) 1 1) [l] := by
  subst hg; exact Bss.lit1 t h
theorem Bss.nil_ (w : World) (B : Nat) : Bss w B (.slice none 0 0) [] := ⟨[], rfl, Rds.nil_ _ _ _, fun j u l hu => by simp at hu⟩

/-! ### From the reading of an argument -/
section
variable {H : Type} {enc : TypeId × Value → H} {P : Program} {W : World} {base b0 : Nat} {r : Reach}
theorem wf_u8 {n : Int} (h : (Lit.int .u8 n).wf = true) : 0 ≤ n ∧ n < 256 := by
  have : 0 ≤ n ∧ n ≤ 255 := by simpa [Lit.wf, IntKind.min, IntKind.max, IntKind.signed, IntKind.bits] using h
  omega
theorem wf_i64 {n : Int} (h : (Lit.int .i64 n).wf = true) : -9223372036854775808 ≤ n ∧ n ≤ 9223372036854775807 := by
  simpa [Lit.wf, IntKind.min, IntKind.max, IntKind.signed, IntKind.bits] using h
theorem wf_u64 {n : Int} (h : (Lit.int .u64 n).wf = true) : 0 ≤ n ∧ n ≤ 18446744073709551615 := by
  simpa [Lit.wf, IntKind.min, IntKind.max, IntKind.signed, IntKind.bits] using h
theorem wf_u32 {n : Int} (h : (Lit.int .u32 n).wf = true) : 0 ≤ n ∧ n ≤ 4294967295 := by
  simpa [Lit.wf, IntKind.min, IntKind.max, IntKind.signed, IntKind.bits] using h

theorem addr_none {w : World} {a : Addr} {u : Value} (h : w.cell? a = some u) : a.spot = none := by
  simpa using World.cell?_spot h

/-- A slice of integers that came in. -/
theorem is_of_trod {k : IntKind} {t e : TypeId} (ht : P.underlying t = some (.slice e)) (he : P.underlying e = some (.int k)) (hc : P.cellsOf e = 1)
    {v : Value} {d : DataW H} {ps : List MemPlace} (hv : Value.okWide P W r b0 t v) (h : DataW.Trod enc P W base (fun _ => true) true t v d ps) :
    ∃ zs : List Int, Is k W W.heap.size v zs ∧ ∀ n ∈ zs, (Lit.int k n).wf = true := by
  obtain ⟨a0, len0, cap0, rfl⟩ := okWide_slice ht hv
  obtain ⟨fuel, hf⟩ := h
  rcases open_ints ht he hc hf with ⟨hcs, _⟩ | ⟨x, l, c, zs, hcs, _, hl, hm, hz, _, hcell, hwz⟩
  · simp [Value.cells] at hcs
    obtain ⟨rfl, rfl, rfl⟩ := hcs
    exact ⟨[], Rds.nil_ _ _ _, by simp⟩
  · simp [Value.cells] at hcs
    obtain ⟨rfl, rfl, rfl⟩ := hcs
    simp only [if_true] at hz
    have hlen : (zs.take len0).length = len0 := by rw [List.length_take, hz]; omega
    refine ⟨zs.take len0, ⟨some x, cap0, by rw [hlen], by rw [hlen]; exact hl, hm, by simp, fun hn => ?_⟩, fun n hn => hwz n (List.mem_of_mem_take hn)⟩
    rw [hlen] at hn
    obtain ⟨b, off, spot⟩ := x
    have h0 := hcell 0 (by omega)
    obtain rfl : spot = none := by simpa [Addr.add] using addr_none h0
    refine ⟨b, off, rfl, World.block_lt_of_cell? W _ (by simpa [Addr.add] using h0), fun j u hu => ?_⟩
    rw [List.getElem?_map] at hu
    by_cases hj : j < (zs.take len0).length
    · rw [List.getElem?_eq_getElem hj] at hu
      have hj' : j < zs.length := by rw [hlen] at hj; omega
      have hcj := hcell j hj'
      rw [add_plain] at hcj
      rw [hcj, ← hu]
      simp [List.getD, hj', List.getElem_take]
    · rw [List.getElem?_eq_none (by omega)] at hu
      cases hu

theorem bs_of_is {w : World} {B : Nat} {v : Value} {zs : List Int} (h : Is .u8 w B v zs) (hw : ∀ n ∈ zs, (Lit.int .u8 n).wf = true) : ∃ l : List UInt8, Bs w B v l := by
  refine ⟨zs.map fun z => UInt8.ofNat z.toNat, ?_⟩
  unfold Bs
  unfold Is at h
  have e : ((zs.map fun z => UInt8.ofNat z.toNat).map fun c => Value.int .u8 (c.toNat : Int)) = zs.map fun c => Value.int .u8 c := by
    rw [List.map_map]
    refine List.map_congr_left fun z hz => ?_
    have := wf_u8 (hw z hz)
    have hn : z.toNat < 256 := by omega
    have hz' : ((UInt8.ofNat z.toNat).toNat : Int) = z := by
      rw [UInt8.toNat_ofNat']
      omega
    show Value.int .u8 ((UInt8.ofNat z.toNat).toNat : Int) = _
    rw [hz']
  rw [e, List.length_map]
  exact h

/-- Octets that came in. -/
theorem bs_of_trod {t e : TypeId} (ht : P.underlying t = some (.slice e)) (he : P.underlying e = some (.int .u8)) (hc : P.cellsOf e = 1)
    {v : Value} {d : DataW H} {ps : List MemPlace} (hv : Value.okWide P W r b0 t v) (h : DataW.Trod enc P W base (fun _ => true) true t v d ps) :
    ∃ l : List UInt8, Bs W W.heap.size v l := by
  obtain ⟨zs, h1, h2⟩ := is_of_trod ht he hc hv h
  exact bs_of_is h1 h2

/-- Lists of octets that came in. -/
theorem bss_of_trod {t e q : TypeId} (ht : P.underlying t = some (.slice e)) (he : P.underlying e = some (.slice q)) (hq : P.underlying q = some (.int .u8)) (ce : P.cellsOf e = 1) (cq : P.cellsOf q = 1)
    {v : Value} {d : DataW H} {ps : List MemPlace} (hv : Value.okWide P W r b0 t v) (h : DataW.Trod enc P W base (fun _ => true) true t v d ps) :
    ∃ ls : List (List UInt8), Bss W W.heap.size v ls := by
  obtain ⟨a0, len0, cap0, rfl⟩ := okWide_slice ht hv
  obtain ⟨fuel, hf⟩ := h
  rcases Go.Deep.open_int_rows ht he hq ce cq hf with ⟨hcs, _⟩ | ⟨x, len, cap, A, L, C, Z, hcs, _, hl, hm, _, hrow⟩
  · simp [Value.cells] at hcs
    obtain ⟨rfl, rfl, rfl⟩ := hcs
    exact ⟨[], [], rfl, Rds.nil_ _ _ _, fun j u l hu => by simp at hu⟩
  · simp [Value.cells] at hcs
    obtain ⟨rfl, rfl, rfl⟩ := hcs
    have row : ∀ r', r' < cap0 → Is .u8 W W.heap.size (.slice (A r') (L r') (C r')) ((Z r').take (L r')) ∧ ∀ n ∈ (Z r').take (L r'), (Lit.int .u8 n).wf = true := by
      intro r' hr'
      obtain ⟨_, hLC, hCm, hZ, hwf, hnone, hsome⟩ := hrow r' hr'
      have hlen : ((Z r').take (L r')).length = L r' := by rw [List.length_take, hZ]; omega
      refine ⟨⟨A r', C r', by rw [hlen], by rw [hlen]; exact hLC, hCm, by simp, fun hn => ?_⟩, fun n hn => hwf n (List.mem_of_mem_take hn)⟩
      rw [hlen] at hn
      cases hA : A r' with
      | none => have := hnone hA; omega
      | some y =>
        obtain ⟨_, hc⟩ := hsome y hA
        obtain ⟨b, off, spot⟩ := y
        have h0 := hc 0 (by omega)
        obtain rfl : spot = none := by simpa [Addr.add] using addr_none h0
        refine ⟨b, off, rfl, World.block_lt_of_cell? W _ (by simpa [Addr.add] using h0), fun j u hu => ?_⟩
        rw [List.getElem?_map] at hu
        by_cases hj : j < ((Z r').take (L r')).length
        · rw [List.getElem?_eq_getElem hj] at hu
          have hj' : j < (Z r').length := by rw [hlen] at hj; omega
          have hcj := hc j (by omega)
          rw [add_plain] at hcj
          rw [hcj, ← hu]
          simp [List.getD, hj', List.getElem_take]
        · rw [List.getElem?_eq_none (by omega)] at hu
          cases hu
    have row' : ∀ r', r' < cap0 → ∃ l : List UInt8, Bs W W.heap.size (.slice (A r') (L r') (C r')) l := fun r' hr' => bs_of_is (row r' hr').1 (row r' hr').2
    have key : ∀ n, n ≤ len0 → ∃ ls : List (List UInt8), ls.length = n ∧ ∀ j l, ls[j]? = some l → Bs W W.heap.size (.slice (A j) (L j) (C j)) l := by
      intro n
      induction n with
      | zero => exact fun _ => ⟨[], rfl, fun j l hj => by simp at hj⟩
      | succ n ih =>
        intro hn
        obtain ⟨ls, h1, h2⟩ := ih (by omega)
        obtain ⟨l, hl'⟩ := row' n (by omega)
        refine ⟨ls ++ [l], by simp [h1], fun j m hj => ?_⟩
        by_cases hjn : j < ls.length
        · rw [List.getElem?_append_left hjn] at hj; exact h2 j m hj
        · rw [List.getElem?_append_right (by omega)] at hj
          by_cases hjj : j = ls.length
          · subst hjj
            simp at hj
            subst hj
            rw [h1]; exact hl'
          · have : j - ls.length ≠ 0 := by omega
            cases hq' : j - ls.length with
            | zero => exact absurd hq' this
            | succ q' => rw [hq'] at hj; simp at hj
    obtain ⟨ls, hls, hbs⟩ := key len0 (Nat.le_refl _)
    refine ⟨ls, (List.range len0).map fun j => .slice (A j) (L j) (C j), by simp [hls], ⟨some x, cap0, by rw [hls], by rw [hls]; exact hl, hm, by simp [hls], fun hn => ?_⟩, fun j u l hu hl' => ?_⟩
    · rw [hls] at hn
      obtain ⟨b, off, spot⟩ := x
      have h0 := (hrow 0 (by omega)).1
      obtain rfl : spot = none := by simpa [Addr.add] using addr_none h0
      refine ⟨b, off, rfl, World.block_lt_of_cell? W _ (by simpa [Addr.add] using h0), fun j u hu => ?_⟩
      rw [List.getElem?_map] at hu
      by_cases hj : j < len0
      · rw [List.getElem?_range hj] at hu
        have hcj := (hrow j (by omega)).1
        rw [add_plain] at hcj
        rw [hcj]; exact hu
      · rw [List.getElem?_eq_none (by simpa using hj)] at hu
        cases hu
    · have hj : j < len0 := by
        rcases Nat.lt_or_ge j len0 with h' | h'
        · exact h'
        · rw [List.getElem?_eq_none (by simpa using h')] at hu; cases hu
      rw [List.getElem?_map, List.getElem?_range hj] at hu
      injection hu with hu
      rw [← hu]
      exact hbs j l hl'

/-- All arguments read behind the call as they did before it. -/
theorem trodAll_below (hl : laidOutB P = true) {W' : World} (hb : Below W.heap.size W W') {sp : Nat → Bool} : ∀ (ts : List TypeId) (_ : ∀ t ∈ ts, P.readableRec t = true ∧ t < P.types.size) (vs : List Value) (ds : List (DataW H)) (ps : List MemPlace),
    DataW.TrodAll enc P W 0 (fun _ => true) true ts vs ds ps → (∀ x ∈ ps, x.block < W.heap.size) → (∀ x ∈ ps, sp x.block = true) → DataW.TrodAll enc P W' 0 sp true ts vs ds ps
  | [], _, [], [], _, h, _, _ => h
  | t :: ts, ht, v :: vs, d :: ds, ps, h, hlt, hsp => by
    obtain ⟨p, q, h1, h2, rfl⟩ := h
    refine ⟨p, q, ?_, trodAll_below hl hb ts (fun t' h' => ht t' (List.mem_cons_of_mem _ h')) vs ds q h2 (fun x hx => hlt x (List.mem_append_right _ hx)) (fun x hx => hsp x (List.mem_append_right _ hx)), rfl⟩
    obtain ⟨hr, hrow⟩ := ht t List.mem_cons_self
    exact WideElems.Trod_stays hl hr hrow h1 (fun x hx => hb.same (hlt x (List.mem_append_left _ hx))) (fun x hx => hsp x (List.mem_append_left _ hx))
  | _ :: _, _, [], _, _, h, _, _ => by cases h
  | _ :: _, _, _ :: _, [], _, h, _, _ => by cases h
  | [], _, _ :: _, _, _, h, _, _ => by cases h
  | [], _, [], _ :: _, _, h, _, _ => by cases h

/-- THE LAW's LAST STEP: it returned true, and what was there has not turned. -/
theorem law_post (hl : laidOutB P = true) {f : Func} {s : ChangeSpec} {tb : TypeId} {W' : World} {args : Array Value} {ds : List (DataW H)} {before : List MemPlace}
    (hp : ∀ t ∈ f.params.toList, P.readableRec t = true ∧ t < P.types.size) (hres : f.resultTypes = #[tb]) (hbool : P.underlying tb = some .bool) (hv : s.vars = [])
    (hspec : s.fn H (ds ++ []) = { results := [.lit (.bool true)], args := ds })
    (hW : DataW.Whole enc P f.params.toList s.vars false W args.toList ds [] before) (hb : Below W.heap.size W W') :
    s.post enc P f false true false false W args (.bool true) W' := by
  have hW' := hW
  obtain ⟨p, q, hA0, hV, hps, hfz, hnd⟩ := hW
  have hA : DataW.TrodAll enc P W 0 (fun _ => true) true f.params.toList args.toList ds p := hA0
  rw [hv] at hV
  obtain ⟨_, rfl⟩ := trodVars_none hV
  have hlt : ∀ x ∈ p, x.block < W.heap.size := fun x hx => hW'.lt x (by rw [hps]; exact List.mem_append_left _ hx)
  refine ⟨ds, [], before, [], p, [], hW', ?_, ?_, ?_, hb.frame _, fun h => by cases h⟩
  · rw [hres, hspec]
    exact trodAll_mk1 (shut_bool hbool _)
  · rw [hspec]
    exact trodAll_below hl hb _ hp _ _ _ hA hlt (fun x hx => by simpa using hlt x hx)
  · rw [hspec, hv]
    rfl
end
end Go.Proofs.Ytahcbgllnoopgaa
