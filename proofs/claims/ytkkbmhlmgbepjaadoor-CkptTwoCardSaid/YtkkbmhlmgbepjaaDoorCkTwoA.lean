/-
  The walk of CkptTwo. By an AI agent.
-/
import Derived.Test.YtkkbmhlmgbepjaaDoorCkTwoP
import Derived.RegionTactic
namespace Go.Proofs.YtkkbmhlmgbepjaaDoor
open Go.ChangeShapes Go.WideShapes Go.ChangeAt Go.RowKit

/-- What the loop's head knows. -/
structure TwoAt (X : Ck.Ck) (B g2 g5 : Nat) (w : World) (k : Nat) (wr : World) : Prop where
  c : Blk wr g2 28 (ccells (nthC X k))
  at_ : ∃ u0 u1, Blk wr g5 47 [u0, u1] ∧ Bs wr wr.heap.size u0 (plcAt X k 0) ∧ Bs wr wr.heap.size u1 (plcAt X k 1)
  b : Below B w wr
  m : ∀ j, j < k → Ck.mayB (nthC X j) = true

def nslc (g : Nat) : Value := .slice (some ⟨g, 0, none⟩) 128 128
theorem two_made {w w1 : World} {g2 g5 : Nat} {X : Ck.Ck} {a b v0 v1 : Value} (j1 : Blk w1 g5 47 [a, b]) (i1 : Blk w1 g2 28 (ccells X)) (hne : g2 ≠ g5) (c1 : Below w.heap.size w w1) (hg : w.heap.size ≤ g5)
    (hv : (v0 = nslc w1.heap.size ∧ v1 = nslc (w1.heap.size + 1)) ∨ (v0 = nslc (w1.heap.size + 1) ∧ v1 = nslc w1.heap.size)) :
    ∃ x0 x1, Blk ((((w1.setCell ⟨g5, 0, none⟩ v0).setCell ⟨g5, 1, none⟩ v1).alloc (.cells (madeCells #[.int .u8 0] 128) 5)).alloc (.cells (madeCells #[.int .u8 0] 128) 5)).drew g5 47 [x0, x1] ∧
      Noug x0 ((((w1.setCell ⟨g5, 0, none⟩ v0).setCell ⟨g5, 1, none⟩ v1).alloc (.cells (madeCells #[.int .u8 0] 128) 5)).alloc (.cells (madeCells #[.int .u8 0] 128) 5)).drew ∧
      Noug x1 ((((w1.setCell ⟨g5, 0, none⟩ v0).setCell ⟨g5, 1, none⟩ v1).alloc (.cells (madeCells #[.int .u8 0] 128) 5)).alloc (.cells (madeCells #[.int .u8 0] 128) 5)).drew ∧
      Blk ((((w1.setCell ⟨g5, 0, none⟩ v0).setCell ⟨g5, 1, none⟩ v1).alloc (.cells (madeCells #[.int .u8 0] 128) 5)).alloc (.cells (madeCells #[.int .u8 0] 128) 5)).drew g2 28 (ccells X) ∧
      Below w.heap.size w ((((w1.setCell ⟨g5, 0, none⟩ v0).setCell ⟨g5, 1, none⟩ v1).alloc (.cells (madeCells #[.int .u8 0] 128) 5)).alloc (.cells (madeCells #[.int .u8 0] 128) 5)).drew := by
  have k := ((j1.set_ 0 v0).set_ 1 v1)
  have i := (i1.far (p := ⟨g5, 0, none⟩) hne v0).far (p := ⟨g5, 1, none⟩) hne v1
  have c := (c1.setCell (p := ⟨g5, 0, none⟩) hg v0).setCell (p := ⟨g5, 1, none⟩) hg v1
  have hsz : ((w1.setCell ⟨g5, 0, none⟩ v0).setCell ⟨g5, 1, none⟩ v1).heap.size = w1.heap.size := by simp
  generalize (w1.setCell ⟨g5, 0, none⟩ v0).setCell ⟨g5, 1, none⟩ v1 = W at *
  rw [← hsz] at hv
  clear hsz
  have n0 := Blk.new W 5 (madeCells #[.int .u8 0] (128 * 1))
  rw [made_zer] at n0
  have n1 := Blk.new (W.alloc (.cells (madeCells #[.int .u8 0] (128 * 1)) 5)) 5 (madeCells #[.int .u8 0] (128 * 1))
  rw [made_zer, World.size_alloc] at n1
  have m0 := n0.alloc (.cells (madeCells #[.int .u8 0] (128 * 1)) 5)
  have kk := (k.alloc (.cells (madeCells #[.int .u8 0] (128 * 1)) 5)).alloc (.cells (madeCells #[.int .u8 0] (128 * 1)) 5)
  have ii := (i.alloc (.cells (madeCells #[.int .u8 0] (128 * 1)) 5)).alloc (.cells (madeCells #[.int .u8 0] (128 * 1)) 5)
  have s0 := c.alloc c.size (.cells (madeCells #[.int .u8 0] (128 * 1)) 5)
  have cc := s0.alloc s0.size (.cells (madeCells #[.int .u8 0] (128 * 1)) 5)
  rcases hv with ⟨rfl, rfl⟩ | ⟨rfl, rfl⟩
  · exact ⟨_, _, kk.drew, ⟨_, rfl, m0.drew⟩, ⟨_, rfl, n1.drew⟩, ii.drew, cc.drew⟩
  · exact ⟨_, _, kk.drew, ⟨_, rfl, n1.drew⟩, ⟨_, rfl, m0.drew⟩, ii.drew, cc.drew⟩

theorem two_far {w : World} {g2 g5 : Nat} {cs : List Value} {v0 v1 : Value} (j : Blk w g5 47 [v0, v1]) (n : Noug v0 w ∧ Noug v1 w) (hne : g2 ≠ g5) (i : Blk w g2 28 cs) (u : Value) :
    Blk (w.setCell ⟨g2, 0, none⟩ u) g5 47 [v0, v1] ∧ Noug v0 (w.setCell ⟨g2, 0, none⟩ u) ∧ Noug v1 (w.setCell ⟨g2, 0, none⟩ u) :=
  ⟨j.far (p := ⟨g2, 0, none⟩) (Ne.symm hne) u, n.1.far (vs := [u]) i, n.2.far (vs := [u]) i⟩
theorem nthC_zero (X : Ck.Ck) : nthC X 0 = X := by
  unfold nthC
  simp
theorem TwoAt.start {X : Ck.Ck} {B g2 g5 : Nat} {w wr : World} {v0 v1 : Value} (i : Blk wr g2 28 (ccells X)) (h : Blk wr g5 47 [v0, v1] ∧ Noug v0 wr ∧ Noug v1 wr) (hb : Below B w wr) : TwoAt X B g2 g5 w 0 wr :=
  ⟨by rw [nthC_zero]; exact i, ⟨v0, v1, h.1, by rw [plcAt_zero]; exact h.2.1.bs, by rw [plcAt_zero]; exact h.2.2.bs⟩, hb, fun j hj => absurd hj (by omega)⟩

/-- No cell of octets. -/
def NoU8 (cs : List Value) : Prop := ∀ u ∈ cs, ∀ x, u ≠ .int .u8 x
theorem Bs.off {w : World} {B : Nat} {v : Value} {l : List UInt8} {g : Nat} {t : TypeId} {cs : List Value} (h : Bs w B v l) (k : Blk w g t cs) (hn : NoU8 cs) (o : Nat) (u : Value) : Bs (w.setCell ⟨g, o, none⟩ u) B v l := by
  obtain ⟨A, c, h1, h2, h3, h4, h5⟩ := h
  refine ⟨A, c, h1, h2, h3, h4, fun hn0 => ?_⟩
  obtain ⟨b, off, e, hb, hc⟩ := h5 hn0
  refine ⟨b, off, e, hb, fun j x hx => ?_⟩
  have hcx := hc j x hx
  rw [World.cell?_setCell_other w ⟨g, o, none⟩ ⟨b, off + j, none⟩ u ?_]
  · exact hcx
  · intro he
    injection he with he1 he2
    subst he1
    rw [k.cell] at hcx
    have hm := List.mem_of_getElem? hcx
    have hx' := List.mem_of_getElem? hx
    obtain ⟨y, _, rfl⟩ := List.mem_map.1 hx'
    exact hn _ hm _ rfl
theorem noU8_ccells (X : Ck.Ck) : NoU8 (ccells X) := by
  intro u hu x
  unfold ccells at hu
  simp only [List.mem_cons, List.mem_append] at hu
  rcases hu with rfl | rfl | rfl | hu | hu
  · simp
  · simp
  · simp
  · unfold pcells at hu
    obtain ⟨p, _, hp⟩ := List.mem_flatMap.1 hu
    simp only [List.mem_cons, List.not_mem_nil, or_false] at hp
    rcases hp with rfl | rfl <;> simp
  · unfold ucells at hu
    obtain ⟨p, _, rfl⟩ := List.mem_map.1 hu
    simp
theorem noU8_two {w : World} {B : Nat} {a b : Value} {l m : List UInt8} (ha : Bs w B a l) (hb : Bs w B b m) : NoU8 [a, b] := by
  obtain ⟨_, _, rfl, _⟩ := ha
  obtain ⟨_, _, rfl, _⟩ := hb
  intro u hu x
  simp only [List.mem_cons, List.not_mem_nil, or_false] at hu
  rcases hu with rfl | rfl <;> simp
theorem TwoAt.next {X : Ck.Ck} {B g2 g5 k : Nat} {w wr : World} (c : Blk wr g2 28 (ccells (nthC X k)))
    (a : ∃ u0 u1, Blk wr g5 47 [u0, u1] ∧ Bs wr wr.heap.size u0 (plcAt X (k + 1) 0) ∧ Bs wr wr.heap.size u1 (plcAt X (k + 1) 1)) (hb : Below B w wr) (hB : B ≤ g2) (hne : g2 ≠ g5) (m : ∀ j, j < k + 1 → Ck.mayB (nthC X j) = true) {z1 z2 : Int} (h1 : z1 = (nthC X k).s + 1) (h2 : z2 = (nthC X k).a + 1) :
    TwoAt X B g2 g5 w (k + 1) ((wr.setCell ⟨g2, 0, none⟩ (.int .i64 z1)).setCell ⟨g2, 2, none⟩ (.int .i64 z2)) := by
  subst h1 h2
  obtain ⟨u0, u1, j, b0, b1⟩ := a
  have c1 : Blk (wr.setCell ⟨g2, 0, none⟩ (.int .i64 ((nthC X k).s + 1))) g2 28 (ccells ⟨(nthC X k).s + 1, X.n, (nthC X k).a, X.mp, X.us⟩) := c.set_ 0 _
  have e : (ccells ⟨(nthC X k).s + 1, X.n, (nthC X k).a, X.mp, X.us⟩).set 2 (.int .i64 ((nthC X k).a + 1)) = ccells (nthC X (k + 1)) := by
    unfold nthC ccells
    simp only [List.set_cons_succ, List.set_cons_zero]
    rw [show X.s + (k : Int) + 1 = X.s + ((k + 1 : Nat) : Int) by omega, show X.a + (k : Int) + 1 = X.a + ((k + 1 : Nat) : Int) by omega]
  have c2 := c1.set_ 2 (.int .i64 ((nthC X k).a + 1))
  rw [e] at c2
  refine ⟨c2, ⟨u0, u1, (j.far (p := ⟨g2, 0, none⟩) (Ne.symm hne) _).far (p := ⟨g2, 2, none⟩) (Ne.symm hne) _, ?_, ?_⟩, (hb.setCell (p := ⟨g2, 0, none⟩) hB _).setCell (p := ⟨g2, 2, none⟩) hB _, m⟩
  · have := (b0.off c (noU8_ccells _) 0 _).off c1 (noU8_ccells _) 2 (.int .i64 ((nthC X k).a + 1))
    simpa using this
  · have := (b1.off c (noU8_ccells _) 0 _).off c1 (noU8_ccells _) 2 (.int .i64 ((nthC X k).a + 1))
    simpa using this
/-- The store into a place. -/
theorem two_store {X : Ck.Ck} {B g2 g5 k : Nat} {w wr : World} {u0 u1 s1 : Value} (c : Blk wr g2 28 (ccells (nthC X k))) (j : Blk wr g5 47 [u0, u1]) (b0 : Bs wr wr.heap.size u0 (plcAt X k 0)) (b1 : Bs wr wr.heap.size u1 (plcAt X k 1))
    (hs : Bs wr wr.heap.size s1 (Ck.ckE (nthC X k))) (hb : Below B w wr) (hB : B ≤ g5) (hne : g2 ≠ g5) (p : Nat) (hp : (X.s + k) % 2 = p) (h2 : p < 2) :
    Blk (wr.setCell ⟨g5, p, none⟩ s1) g2 28 (ccells (nthC X k)) ∧ (∃ v0 v1, Blk (wr.setCell ⟨g5, p, none⟩ s1) g5 47 [v0, v1] ∧ Bs (wr.setCell ⟨g5, p, none⟩ s1) (wr.setCell ⟨g5, p, none⟩ s1).heap.size v0 (plcAt X (k + 1) 0) ∧ Bs (wr.setCell ⟨g5, p, none⟩ s1) (wr.setCell ⟨g5, p, none⟩ s1).heap.size v1 (plcAt X (k + 1) 1)) ∧ Below B w (wr.setCell ⟨g5, p, none⟩ s1) := by
  have hn := noU8_two b0 b1
  have d0 := b0.off j hn p s1
  have d1 := b1.off j hn p s1
  have ds := hs.off j hn p s1
  have hz : (wr.setCell ⟨g5, p, none⟩ s1).heap.size = wr.heap.size := by simp
  refine ⟨c.far (p := ⟨g5, p, none⟩) hne s1, ?_, hb.setCell (p := ⟨g5, p, none⟩) hB s1⟩
  rw [hz]
  rcases (by omega : p = 0 ∨ p = 1) with rfl | rfl
  · refine ⟨s1, u1, j.set_ 0 s1, ?_, ?_⟩
    · rw [plcAt_hit X k 0 hp]; exact ds
    · rw [plcAt_miss X k 1 (by omega) (.inr rfl)]; exact d1
  · refine ⟨u0, s1, j.set_ 1 s1, ?_, ?_⟩
    · rw [plcAt_miss X k 0 (by omega) (.inl rfl)]; exact d0
    · rw [plcAt_hit X k 1 hp]; exact ds

/-- Noughts into the last one's place. -/
theorem two_spoil {X : Ck.Ck} {B g2 g5 n : Nat} {w wr : World} {u0 u1 : Value} (c : Blk wr g2 28 (ccells (nthC X n))) (j : Blk wr g5 47 [u0, u1]) (b0 : Bs wr wr.heap.size u0 (plcAt X n 0)) (b1 : Bs wr wr.heap.size u1 (plcAt X n 1))
    (hb : Below B w wr) (hB : B ≤ g5) (hne : g2 ≠ g5) (p : Nat) (hp : (X.s + n - 1) % 2 = p) (h2 : p < 2) :
    Blk (((wr.setCell ⟨g5, p, none⟩ (nslc wr.heap.size)).alloc (.cells (madeCells #[.int .u8 0] 128) 5)).drew) g2 28 (ccells (nthC X n)) ∧
      (∃ v0 v1, Blk (((wr.setCell ⟨g5, p, none⟩ (nslc wr.heap.size)).alloc (.cells (madeCells #[.int .u8 0] 128) 5)).drew) g5 47 [v0, v1] ∧
        Bs (((wr.setCell ⟨g5, p, none⟩ (nslc wr.heap.size)).alloc (.cells (madeCells #[.int .u8 0] 128) 5)).drew) (((wr.setCell ⟨g5, p, none⟩ (nslc wr.heap.size)).alloc (.cells (madeCells #[.int .u8 0] 128) 5)).drew).heap.size v0 (spoil X n 0) ∧
        Bs (((wr.setCell ⟨g5, p, none⟩ (nslc wr.heap.size)).alloc (.cells (madeCells #[.int .u8 0] 128) 5)).drew) (((wr.setCell ⟨g5, p, none⟩ (nslc wr.heap.size)).alloc (.cells (madeCells #[.int .u8 0] 128) 5)).drew).heap.size v1 (spoil X n 1)) ∧
      Below B w (((wr.setCell ⟨g5, p, none⟩ (nslc wr.heap.size)).alloc (.cells (madeCells #[.int .u8 0] 128) 5)).drew) := by
  have hn := noU8_two b0 b1
  have hz : (wr.setCell ⟨g5, p, none⟩ (nslc wr.heap.size)).heap.size = wr.heap.size := by simp
  have d0 := (b0.off j hn p (nslc wr.heap.size)).more (Nat.le_of_eq hz.symm)
  have d1 := (b1.off j hn p (nslc wr.heap.size)).more (Nat.le_of_eq hz.symm)
  have jj := j.set_ p (nslc wr.heap.size)
  have cc := c.far (p := ⟨g5, p, none⟩) hne (nslc wr.heap.size)
  have bb := hb.setCell (p := ⟨g5, p, none⟩) hB (nslc wr.heap.size)
  have hz' : nslc wr.heap.size = nslc (wr.setCell ⟨g5, p, none⟩ (nslc wr.heap.size)).heap.size := by rw [hz]
  generalize wr.setCell ⟨g5, p, none⟩ (nslc wr.heap.size) = W at *
  rw [hz'] at jj
  have n0 : Noug (nslc W.heap.size) (W.alloc (.cells (madeCells #[.int .u8 0] (128 * 1)) 5)) := Noug.new W
  have al : Below W.heap.size W (W.alloc (.cells (madeCells #[.int .u8 0] (128 * 1)) 5)) := (Below.refl _ _).alloc (Nat.le_refl _) _
  have e0 := (d0.ext (Nat.le_refl _) al).more al.size
  have e1 := (d1.ext (Nat.le_refl _) al).more al.size
  refine ⟨(cc.alloc _).drew, ?_, (bb.alloc (Nat.le_trans hB (Nat.le_of_lt jj.lt)) _).drew⟩
  have jd := (jj.alloc (.cells (madeCells #[.int .u8 0] (128 * 1)) 5)).drew
  rcases (by omega : p = 0 ∨ p = 1) with rfl | rfl
  · refine ⟨nslc W.heap.size, u1, jd, ?_, ?_⟩
    · unfold spoil; rw [if_pos (by omega)]; exact n0.bs
    · unfold spoil; rw [if_neg (by omega)]; exact e1
  · refine ⟨u0, nslc W.heap.size, jd, ?_, ?_⟩
    · unfold spoil; rw [if_neg (by omega)]; exact e0
    · unfold spoil; rw [if_pos (by omega)]; exact n0.bs
/-- What is chosen at the end. -/
theorem two_end (X : Ck.Ck) (n : Nat) (h1 : 1 ≤ n) (hg : Ck.Good X) (hm : ∀ j, j < n → Ck.mayB (nthC X j) = true) :
    ∃ Z : Ck.Ck, chs (spoil X n 0) (spoil X n 1) 2 = Z ∧ Z.mp.length = 4 ∧ Z.us.length = 8 ∧ ((n = 1 ∧ Z.s = 0) ∨ (n ≠ 1 ∧ Z.s ≠ 0 ∧ Z.s = (nthC X n).s - 2 ∧ Z.a = (nthC X n).a - 2)) := by
  rcases (show n = 1 ∨ ∃ k, n = k + 2 from if h : n = 1 then .inl h else .inr ⟨n - 2, by omega⟩) with rfl | ⟨k, rfl⟩
  · exact ⟨_, spoil_one X, rfl, rfl, .inl ⟨rfl, rfl⟩⟩
  · have hp := (Ck.may_parts (hm k (by omega))).1
    refine ⟨_, spoil_two X k hg hm, hg.1, hg.2.1, .inr ⟨by omega, by omega, ?_, ?_⟩⟩
    · show X.s + (k : Int) = X.s + ((k + 2 : Nat) : Int) - 2
      omega
    · show X.a + (k : Int) = X.a + ((k + 2 : Nat) : Int) - 2
      omega

set_option maxRecDepth 100000 in
set_option maxHeartbeats 16000000 in
theorem ckptTwo_walk (w : World) (X0 : Ck.Ck) (z : Int) (hgd : Ck.Good X0) (hH : Halves w) (hz : 0 ≤ z ∧ z < 256) :
    Calls Tryd.prog 6 #[cagg X0, .int .u8 z] w fun e w' => e = .returned (.bool true) ∧ Below w.heap.size w w' := by
  obtain ⟨m, rfl⟩ := Int.eq_ofNat_of_zero_le hz.1
  have hm256 : m < 256 := by omega
  have HGD := Lib.hid hgd
  clear hgd hz
  unfold cagg
  go_enter Tryd.func6, Tryd.ntmps6
  go_upto_region 1 with (fail)
  have i0 := Blk.new w 28 (ccells X0).toArray
  have c0 := (Below.refl w.heap.size w).alloc (Nat.le_refl _) (.cells (ccells X0).toArray 28)
  change Blk _ _ _ (ccells X0) at i0
  generalize w.alloc (.cells (ccells X0).toArray 28) = w0 at *
  obtain ⟨g2, hg2⟩ : ∃ g, g = w.heap.size := ⟨_, rfl⟩
  rw [← hg2] at i0 ⊢
  have hg2' : w.heap.size ≤ g2 := by omega
  clear hg2
  go_upto_region 2 with (fail)
  have i1 := i0.alloc (.cells #[.slice none 0 0, .slice none 0 0] 47)
  have j1 := Blk.new w0 47 #[.slice none 0 0, .slice none 0 0]
  have c1 := c0.alloc c0.size (.cells #[.slice none 0 0, .slice none 0 0] 47)
  have hlt := i0.lt
  have hsz := c0.size
  generalize w0.alloc (.cells #[.slice none 0 0, .slice none 0 0] 47) = w1 at *
  obtain ⟨g5, hg5⟩ : ∃ g, g = w0.heap.size := ⟨_, rfl⟩
  rw [← hg5] at j1 ⊢
  have hg5' : w.heap.size ≤ g5 := by omega
  have hne : g2 ≠ g5 := by omega
  clear hg5 hlt hsz i0 c0
  have hj5 := j1.lt
  have y0 := j1.cell 0
  have y1 := j1.cell 1
  simp only [List.getElem?_cons_zero, List.getElem?_cons_succ] at y0 y1
  have f0 := j1.frozen 0
  have f1 := j1.frozen 1
  have hmk := run_mk128
  go_cut [] (fun wx => ∃ v0 v1, Blk wx g5 47 [v0, v1] ∧ Noug v0 wx ∧ Noug v1 wx ∧ Blk wx g2 28 (ccells X0) ∧ Below w.heap.size w wx)
  case first =>
    go_region
    all_goals
      go_wp2
      go_meet
      refine two_made j1 i1 hne c1 hg5' ?_
      first | exact .inl ⟨rfl, rfl⟩ | exact .inr ⟨rfl, rfl⟩
  obtain ⟨v0, v1, j2, n0, n1, i2, c2⟩ := hcut
  clear y0 y1 f0 f1 hmk j1 i1 c1 hj5
  obtain ⟨n, hn⟩ : ∃ n : Nat, (1 : Int) + (m : Int) % 6 = n := ⟨1 + m % 6, by omega⟩
  have hn1 : 1 ≤ n := by omega
  have hn2 : n ≤ 6 := by omega
  have x0 := i2.cell 0
  unfold ccells at x0
  simp only [List.getElem?_cons_zero] at x0
  go_upto_region 4 with (fail)
  clear hn hm256
  have f0 := i2.frozen 0
  have HN2 := Lib.hid (And.intro n0 n1)
  have HJ2 := Lib.hid j2
  clear n0 n1 j2
  obtain ⟨bb, hbb⟩ : ∃ bb, bb = !decide (1 ≤ X0.s ∧ X0.s ≤ 140737488355328) := ⟨_, rfl⟩
  have HBB := Lib.hid hbb
  clear hbb
  go_cut [30] (fun t wx => t = .bool bb ∧ wc = wx)
  case first =>
    go_wp2
    all_goals
      go_meet
      refine ⟨?_, rfl⟩
      rw [HBB.out]
      congr 1
      rw [Bool.eq_iff_iff]
      simp
      try omega
  obtain ⟨rfl, rfl⟩ := hcut
  go_upto_if 30 with (fail)
  go_cut [] (fun wx => ∃ s : Int, Hid (1 ≤ s ∧ s ≤ 140737488355328) ∧ Blk wx g2 28 (ccells ⟨s, X0.n, X0.a, X0.mp, X0.us⟩) ∧ Hid (Blk wx g5 47 [v0, v1] ∧ Noug v0 wx ∧ Noug v1 wx) ∧ Below w.heap.size w wx)
  case first =>
    cases bb with
    | false =>
      have hs : 1 ≤ X0.s ∧ X0.s ≤ 140737488355328 := by
        have := HBB.out
        simpa using this
      have HS := Lib.hid hs
      clear hs
      go_wp2
      go_meet
      exact ⟨X0.s, HS, i2, Lib.hid ⟨HJ2.out, HN2.out⟩, c2⟩
    | true =>
      go_wp2
      go_meet
      exact ⟨1, Lib.hid (by decide), i2.set_ 0 (.int .i64 1), Lib.hid (two_far HJ2.out HN2.out hne i2 _), c2.setCell (p := ⟨g2, 0, none⟩) hg2' _⟩
  obtain ⟨s, HS, i3, H3, c3⟩ := hcut
  clear x0 f0 HN2 HJ2 i2 c2
  have HG := Lib.hid (show Ck.Good (⟨s, X0.n, X0.a, X0.mp, X0.us⟩ : Ck.Ck) from HGD.out)
  generalize hX : (⟨s, X0.n, X0.a, X0.mp, X0.us⟩ : Ck.Ck) = X at *
  have HSX := Lib.hid (show 1 ≤ X.s ∧ X.s ≤ 140737488355328 by rw [← hX]; exact HS.out)
  clear hX HS HGD
  go_wp2
  go_loopw [7] (fun i wr => ∃ k : Nat, k ≤ n ∧ i = .int .i64 k ∧ TwoAt X w.heap.size g2 g5 w k wr) (fun i _ => n - (intOf i).toNat)
  case atStart =>
    exact ⟨0, by omega, rfl, TwoAt.start i3 H3.out c3⟩
  case round =>
    obtain ⟨k, hk, rfl, ht⟩ := hrel
    clear i3 H3 c3
    by_cases hlt : k < n
    · obtain ⟨ic, ⟨u0, u1, jk, hs0, hs1⟩, cb, hmj⟩ := ht
      have hsb := HSX.out
      have HTL := Lib.hid (fun h => two_last X k HG.out h)
      have HST := Lib.hid (fun (wr : World) (s1 : Value) => two_store (X := X) (B := w.heap.size) (g2 := g2) (g5 := g5) (k := k) (w := w) (wr := wr) (u0 := u0) (u1 := u1) (s1 := s1))
      have HNX := Lib.hid (fun (wr : World) => TwoAt.next (X := X) (B := w.heap.size) (g2 := g2) (g5 := g5) (k := k) (w := w) (wr := wr))
      have HGC := Lib.hid (nthC_good HG.out k)
      have HMJ := Lib.hid hmj
      have HS01 := Lib.hid (And.intro hs0 hs1)
      have es : (nthC X k).s = X.s + k := rfl
      have HES := Lib.hid es
      have z1 : 1 ≤ (nthC X k).s := by omega
      have z2 : (nthC X k).s ≤ 140737488355428 := by omega
      clear hmj hs0 hs1 hsb es
      generalize hC : nthC X k = C at *
      have HC := Lib.hid hC
      clear hC
      have HXL := Lib.hid (And.intro HGC.out.1 HGC.out.2.1)
      have r0 := ic.range
      go_wp2_with (refine wpList_load_at 28 (.tmp 2) rfl rfl g2 0 rfl (ccells C) _ r0 Tryd.underlying28 rfl (infoC _ HXL.out.1 HXL.out.2) ?_)
      clear r0
      cases hm : Ck.mayB C with
      | false =>
        have HM := Lib.hid hm
        clear hm
        refine (encodeC_no C _ HXL.out.1 HXL.out.2 HM.out).mono ?_
        rintro e w1 ⟨rfl, b1⟩
        have i1 := ic.ext b1
        have c1 := cb.trans (b1.mono cb.size)
        have r1 := i1.range
        clear ic jk cb b1
        go_wp2_with (refine wpList_load_at 28 (.tmp 2) rfl rfl g2 0 rfl (ccells C) _ r1 Tryd.underlying28 rfl (infoC _ HXL.out.1 HXL.out.2) ?_)
        refine (mayC_any C _ HXL.out.1 HXL.out.2).mono ?_
        rintro e w2 ⟨rfl, b2⟩
        rw [HM.out]
        have c2 := c1.trans (b2.mono c1.size)
        clear r1
        go_wp2_with fail
        refine (awakeC_any _ (hH.ext c2)).mono ?_
        rintro e w3 ⟨rfl, b3⟩
        go_wp2
        go_ret
        exact ⟨rfl, c2.trans (b3.mono c2.size)⟩
      | true =>
        have HM := Lib.hid hm
        obtain ⟨P, hP⟩ : ∃ P, P = C.s % 2 := ⟨_, rfl⟩
        have HPL := Lib.hid (show plc C = P by unfold plc; rw [hm, hP]; rfl)
        have hP0 : 0 ≤ P := by omega
        have hP1 : P ≤ 1 := by omega
        have HP := Lib.hid hP
        have hbd := (Ck.may_parts hm).1
        have za1 : 1 ≤ C.a := by omega
        have za2 : C.a ≤ 2147483647 := by omega
        clear hm hbd hP
        refine (encodeC_yes C _ HGC.out HM.out (hH.ext cb)).mono ?_
        rintro e w1 ⟨s1, rfl, hbs, b1⟩
        obtain ⟨A1, L1, q1, rfl⟩ : ∃ A1 L1 q1, s1 = .slice A1 L1 q1 := by
          obtain ⟨A, c, h1, _⟩ := hbs
          exact ⟨A, _, c, h1⟩
        have HS1 := Lib.hid hbs
        have HS2 := Lib.hid (And.intro ((HS01.out.1.ext (Nat.le_refl _) b1).more b1.size) ((HS01.out.2.ext (Nat.le_refl _) b1).more b1.size))
        have i1 := ic.ext b1
        have j1 := jk.ext b1
        have c1 := cb.trans (b1.mono cb.size)
        have r1 := i1.range
        clear ic jk cb b1 HS01 hbs
        go_wp2_with (refine wpList_load_at 28 (.tmp 2) rfl rfl g2 0 rfl (ccells C) _ r1 Tryd.underlying28 rfl (infoC _ HXL.out.1 HXL.out.2) ?_)
        refine (place_any C _ HXL.out.1 HXL.out.2).mono ?_
        rintro e w2 ⟨rfl, b2⟩
        rw [HPL.out]
        have i2 := i1.ext b2
        have j2 := j1.ext b2
        have c2 := c1.trans (b2.mono c1.size)
        have HT1 := Lib.hid ((HS1.out.ext (Nat.le_refl _) b2).more b2.size)
        have HT2 := Lib.hid (And.intro ((HS2.out.1.ext (Nat.le_refl _) b2).more b2.size) ((HS2.out.2.ext (Nat.le_refl _) b2).more b2.size))
        clear i1 j1 c1 b2 r1 HS1 HS2
        go_upto_region 15 with (fail)
        have y0 := j2.cell 0
        have y1 := j2.cell 1
        simp only [List.getElem?_cons_zero, List.getElem?_cons_succ] at y0 y1
        have f0 := j2.frozen 0
        have f1 := j2.frozen 1
        go_cut [] (fun wx => Blk wx g2 28 (ccells C) ∧ (∃ v0 v1, Blk wx g5 47 [v0, v1] ∧ Bs wx wx.heap.size v0 (plcAt X (k + 1) 0) ∧ Bs wx wx.heap.size v1 (plcAt X (k + 1) 1)) ∧ Below w.heap.size w wx)
        case first =>
          have HR := Lib.hid (fun p hp h2 => HST.out w2 _ i2 j2 HT2.out.1 HT2.out.2 HT1.out c2 hg5' hne p hp h2)
          rcases (by omega : P = 0 ∨ P = 1) with rfl | rfl
          · go_wp2
            go_meet
            exact HR.out 0 (by rw [← HES.out]; exact HP.out.symm) (by omega)
          · go_wp2
            go_meet
            exact HR.out 1 (by rw [← HES.out]; exact HP.out.symm) (by omega)
        clear y0 y1 f0 f1 i2 j2 c2 HT1 HT2
        obtain ⟨i3, ⟨v0, v1, j3, d0, d1⟩, c3⟩ := hcut
        have HMK : Hid (∀ j, j < k + 1 → Ck.mayB (nthC X j) = true) := Lib.hid (fun j hj => by
          by_cases h : j = k
          · rw [h, HC.out]; exact HM.out
          · exact HMJ.out j (by omega))
        have HCH := Lib.hid (HTL.out HMK.out)
        have y0 := j3.cell 0
        have y1 := j3.cell 1
        simp only [List.getElem?_cons_zero, List.getElem?_cons_succ] at y0 y1
        go_wp2_with fail
        refine (chooseC_any _ v0 v1 _ _ (hH.ext c3) d0 d1).mono ?_
        rintro e w4 ⟨rfl, b4⟩
        rw [HCH.out, if_neg (show ¬ C.s = 0 by omega)]
        have i4 := i3.ext b4
        have j4 := j3.ext b4
        have c4 := c3.trans (b4.mono c3.size)
        have HD4 := Lib.hid (And.intro ((d0.ext (Nat.le_refl _) b4).more b4.size) ((d1.ext (Nat.le_refl _) b4).more b4.size))
        clear y0 y1 i3 j3 d0 d1 c3 b4
        unfold cagg
        go_upto_region 17 with (with_reducible refine wpList_store_new rfl 28 (.tmp 11) (.tmp 67) rfl (ccells C) rfl rfl ?_ rfl (infoC _ HXL.out.1 HXL.out.2) ccells_one ?_)
        · rw [ccells_len _ HXL.out.1 HXL.out.2]; exact Nat.le_refl 19
        generalize hW : (w4.alloc (.cells _ 28)).setCells w4.heap.size 0 _ = w5
        have k5 : Blk w5 w4.heap.size 28 (ccells C) := by rw [← hW]; exact Blk.varC rfl HXL.out.1 HXL.out.2
        have b5 : Below w4.heap.size w4 w5 := by rw [← hW]; exact below_varC
        clear hW
        have i5 := i4.ext b5
        have j5 := j4.ext b5
        have c5 := c4.trans (b5.mono c4.size)
        have HD5 := Lib.hid (And.intro ((HD4.out.1.ext (Nat.le_refl _) b5).more b5.size) ((HD4.out.2.ext (Nat.le_refl _) b5).more b5.size))
        clear i4 j4 c4 b5 HD4
        generalize w4.heap.size = g11 at *
        have rx := i5.range
        have ry := k5.range
        have HD := Lib.hid (show true = decide (C = C) by simp)
        go_upto_region 19 with (first | refine wpList_load_at 28 (.tmp 11) rfl rfl g11 0 rfl (ccells C) _ ry Tryd.underlying28 rfl (infoC _ HXL.out.1 HXL.out.2) ?_ | refine wpList_load_at 28 (.tmp 2) rfl rfl g2 0 rfl (ccells C) _ rx Tryd.underlying28 rfl (infoC _ HXL.out.1 HXL.out.2) ?_ | refine wpList_binop .neq 28 28 (.tmp 69) (.tmp 70) rfl rfl rfl rfl eqGuardC (run_eql_ck C C HXL.out HXL.out true HD.out _).2 ?_)
        clear rx ry
        have x0 := i5.cell 0
        have x2 := i5.cell 2
        unfold ccells at x0 x2
        simp only [List.getElem?_cons_zero, List.getElem?_cons_succ] at x0 x2
        have f0 := i5.frozen 0
        have f2 := i5.frozen 2
        go_wp2
        go_roundw
        case rel => exact ⟨k + 1, by omega, by go_num, HNX.out _ i5 ⟨v0, v1, j5, HD5.out.1, HD5.out.2⟩ c5 hg2' hne HMK.out rfl rfl⟩
        case measure => simp [intOf]; omega
    · obtain rfl : k = n := by omega
      obtain ⟨ic, ⟨u0, u1, jk, hs0, hs1⟩, cb, hmj⟩ := ht
      have hsb := HSX.out
      have HST := Lib.hid (fun p hp h2 => two_spoil ic jk hs0 hs1 cb hg5' hne p hp h2)
      obtain ⟨Z, hz, hzm, hzu, hzz⟩ := two_end X k hn1 HG.out hmj
      have HZ := Lib.hid hz
      have HZL := Lib.hid (And.intro hzm hzu)
      have hap := (Ck.may_parts (hmj (k - 1) (by omega))).1
      have es : (nthC X k).s = X.s + k := rfl
      have ea : (nthC X k).a = (nthC X (k - 1)).a + 1 := by
        show X.a + (k : Int) = X.a + ((k - 1 : Nat) : Int) + 1
        omega
      have t1 : 1 ≤ (nthC X k).s := by omega
      have t2 : (nthC X k).s ≤ 140737488355428 := by omega
      have t3 : 2 ≤ (nthC X k).a := by omega
      have t4 : (nthC X k).a ≤ 2147483648 := by omega
      have x0 := ic.cell 0
      have y0 := jk.cell 0
      have y1 := jk.cell 1
      unfold ccells at x0
      simp only [List.getElem?_cons_zero, List.getElem?_cons_succ] at x0 y0 y1
      have f0 := jk.frozen 0
      have f1 := jk.frozen 1
      obtain ⟨S, hS⟩ : ∃ S, S = (nthC X k).s := ⟨_, rfl⟩
      obtain ⟨T, hT⟩ : ∃ T, T = (nthC X k).a := ⟨_, rfl⟩
      rw [← hS] at x0 t1 t2 es hzz
      rw [← hT] at t3 t4 hzz
      have HS := Lib.hid hS
      have HT := Lib.hid hT
      have HES := Lib.hid es
      have HZZ := Lib.hid hzz
      have hl2 := ic.lt
      have hl5 := jk.lt
      have HIC := Lib.hid ic
      have hmk := run_mk128
      clear hz hzm hzu hap ea hS hT es hs0 hs1 hmj hsb ic jk hzz
      go_upto_region 21 with (fail)
      go_cut [] (fun wx => Blk wx g2 28 (ccells (nthC X k)) ∧ (∃ v0 v1, Blk wx g5 47 [v0, v1] ∧ Bs wx wx.heap.size v0 (spoil X k 0) ∧ Bs wx wx.heap.size v1 (spoil X k 1)) ∧ Below w.heap.size w wx)
      case first =>
        rcases (by omega : (S - 1) % 2 = 0 ∨ (S - 1) % 2 = 1) with hp | hp
        · go_region
          all_goals
            go_wp2
            go_meet
            exact HST.out 0 (by rw [← HES.out]; exact hp) (by omega)
        · go_region
          all_goals
            go_wp2
            go_meet
            exact HST.out 1 (by rw [← HES.out]; exact hp) (by omega)
      clear x0 y0 y1 f0 f1 hl2 hl5 hmk HIC cb
      obtain ⟨i3, ⟨v0, v1, j3, d0, d1⟩, c3⟩ := hcut
      have y0 := j3.cell 0
      have y1 := j3.cell 1
      simp only [List.getElem?_cons_zero, List.getElem?_cons_succ] at y0 y1
      go_wp2_with fail
      refine (chooseC_any _ v0 v1 _ _ (hH.ext c3) d0 d1).mono ?_
      rintro e w4 ⟨rfl, b4⟩
      rw [HZ.out]
      have i4 := i3.ext b4
      have c4 := c3.trans (b4.mono c3.size)
      clear y0 y1 i3 j3 d0 d1 c3 b4
      generalize hE : (if Z.s = 0 then (6 : Int) else 0) = E
      have HE := Lib.hid hE
      clear hE
      unfold cagg
      go_upto_region 23 with (with_reducible refine wpList_store_new rfl 28 (.tmp 13) (.tmp 96) rfl (ccells Z) rfl rfl ?_ rfl (infoC _ HZL.out.1 HZL.out.2) ccells_one ?_)
      · rw [ccells_len _ HZL.out.1 HZL.out.2]; exact Nat.le_refl 19
      generalize hW : (w4.alloc (.cells _ 28)).setCells w4.heap.size 0 _ = w5
      have k5 : Blk w5 w4.heap.size 28 (ccells Z) := by rw [← hW]; exact Blk.varC rfl HZL.out.1 HZL.out.2
      have b5 : Below w4.heap.size w4 w5 := by rw [← hW]; exact below_varC
      clear hW
      have i5 := i4.ext b5
      have c5 := c4.trans (b5.mono c4.size)
      clear i4 c4 b5
      generalize w4.heap.size = g13 at *
      have x0 := i5.cell 0
      have x2 := i5.cell 2
      have z0 := k5.cell 0
      have z2 := k5.cell 2
      unfold ccells at x0 x2 z0 z2
      simp only [List.getElem?_cons_zero, List.getElem?_cons_succ] at x0 x2 z0 z2
      rw [← HS.out] at x0
      rw [← HT.out] at x2
      clear i5 k5
      rcases HZZ.out with ⟨hk1, hq⟩ | ⟨hk1, hq, hqs, hqa⟩
      · obtain rfl : E = 6 := by rw [← HE.out, if_pos hq]
        have e1 : ((k : Int) == 1) = true := by rw [beq_iff_eq]; omega
        clear hk1 hq hlt hk
        go_wp2_with fail
        refine (awakeC_any _ (hH.ext c5)).mono ?_
        rintro e w9 ⟨rfl, b9⟩
        go_wp2
        go_ret
        exact ⟨rfl, c5.trans (b9.mono c5.size)⟩
      · obtain rfl : E = 0 := by rw [← HE.out, if_neg hq]
        have e1 : ((k : Int) == 1) = false := by rw [beq_eq_false_iff_ne]; omega
        have e2 : (Z.s == S - 2) = true := by rw [beq_iff_eq]; omega
        have e3 : (Z.a == T - 2) = true := by rw [beq_iff_eq]; omega
        clear hk1 hq hqs hqa hlt hk
        go_wp2_with fail
        refine (awakeC_any _ (hH.ext c5)).mono ?_
        rintro e w9 ⟨rfl, b9⟩
        go_wp2
        go_ret
        exact ⟨rfl, c5.trans (b9.mono c5.size)⟩


end Go.Proofs.YtkkbmhlmgbepjaaDoor
