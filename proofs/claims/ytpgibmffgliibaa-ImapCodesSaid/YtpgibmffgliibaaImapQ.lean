/-
  Plain Lean: which blocks of two maps differ, which inodes are there; the blocks of a map as octets. No program. By an AI agent.
-/
import Derived.Test.YtpgibmffgliibaaImapP
namespace Go.Proofs.Ytpgibmffgliibaa.Im
open Pk (isW chk rec1 recs nums need val be clr)
open Crc (pad)

/-! ### Changed, There -/
def chg (a b : List Sl) : List Nat := (List.range 4).filter fun k => decide (blk a k ≠ blk b k)
def changed (a b : List Sl) : List Nat := if mayB a && mayB b then chg a b else []
def thr (m : List Sl) : List Nat := (List.range 40).filter fun i => decide (0 < (m.getD i Sl.zero).a)
def there (m : List Sl) : List Nat := if mayB m then thr m else []
theorem blk_set_far (m : List Sl) (i k : Nat) (x : Sl) (h : k ≠ i / 10) : blk (m.set i x) k = blk m k := by
  apply List.ext_getElem?
  intro j
  unfold blk
  rw [List.getElem?_take, List.getElem?_take]
  split
  · rw [List.getElem?_drop, List.getElem?_drop, List.getElem?_set_ne (by omega)]
  · rfl
theorem chg_le (m : List Sl) (i : Nat) (x : Sl) : (chg m (m.set i x)).length ≤ 1 := by
  have h : ∀ k, k ≠ i / 10 → decide (blk m k ≠ blk (m.set i x) k) = false := fun k hk => by
    rw [blk_set_far m i k x hk]; simp
  have e : ∀ p : Nat → Bool, (∀ k, k ≠ i / 10 → p k = false) → ((List.range 4).filter p).length ≤ 1 := by
    intro p hp
    show ([0, 1, 2, 3].filter p).length ≤ 1
    have h0 := hp 0
    have h1 := hp 1
    have h2 := hp 2
    have h3 := hp 3
    generalize i / 10 = c at *
    rcases (by omega : c = 0 ∨ c = 1 ∨ c = 2 ∨ c ≥ 3) with rfl | rfl | rfl | hc
    · simp only [List.filter_cons, List.filter_nil, h1 (by omega), h2 (by omega), h3 (by omega)]
      cases p 0 <;> decide
    · simp only [List.filter_cons, List.filter_nil, h0 (by omega), h2 (by omega), h3 (by omega)]
      cases p 1 <;> decide
    · simp only [List.filter_cons, List.filter_nil, h0 (by omega), h1 (by omega), h3 (by omega)]
      cases p 2 <;> decide
    · simp only [List.filter_cons, List.filter_nil, h0 (by omega), h1 (by omega), h2 (by omega)]
      cases p 3 <;> decide
  exact e _ h
theorem ext_blks {a b : List Sl} (ha : a.length = 40) (hb : b.length = 40) : a = b ↔ ∀ k, k < 4 → blk a k = blk b k := by
  constructor
  · rintro rfl k _; rfl
  · intro h
    rw [blks ha, blks hb, h 0 (by omega), h 1 (by omega), h 2 (by omega), h 3 (by omega)]
theorem chg_nil {a b : List Sl} (ha : a.length = 40) (hb : b.length = 40) : (chg a b).length = 0 ↔ a = b := by
  rw [ext_blks ha hb, List.length_eq_zero_iff]
  unfold chg
  rw [List.filter_eq_nil_iff]
  constructor
  · intro h k hk
    have := h k (List.mem_range.2 hk)
    simpa using this
  · intro h k hk
    have := h k (List.mem_range.1 hk)
    simpa using this
theorem map_getD (m : List Sl) : m = (List.range m.length).map fun i => m.getD i Sl.zero := by
  apply List.ext_getElem?
  intro j
  rw [List.getElem?_map]
  by_cases h : j < m.length
  · rw [List.getElem?_range h, List.getElem?_eq_getElem h]
    simp [List.getD, h]
  · rw [List.getElem?_eq_none (by omega), List.getElem?_eq_none (by simpa using h)]
    rfl
theorem thr_count {m : List Sl} (h : m.length = 40) : (thr m).length = m.countP fun s => decide (0 < s.a) := by
  have e : m.countP (fun s => decide (0 < s.a)) = ((List.range m.length).map fun i => m.getD i Sl.zero).countP fun s => decide (0 < s.a) := by rw [← map_getD m]
  rw [e, List.countP_map, List.countP_eq_length_filter, h]
  rfl
theorem thr_drop {m : List Sl} (h : m.length = 40) (i : Nat) (hi : i < 40) (x : Sl) (h1 : 0 < (m.getD i Sl.zero).a) (h2 : x.a = 0) : (thr (m.set i x)).length + 1 = (thr m).length := by
  rw [thr_count h, thr_count (by rw [List.length_set]; exact h), List.countP_set (by omega)]
  have h3 : 0 < (m[i]'(by omega)).a := by
    have : m.getD i Sl.zero = m[i]'(by omega) := by simp [List.getD, h, hi]
    rw [this] at h1; exact h1
  have h4 : 0 < m.countP fun s => decide (0 < s.a) := List.countP_pos_iff.2 ⟨m[i]'(by omega), List.getElem_mem (l := m) (n := i) (by omega), by simpa using h3⟩
  rw [if_pos (by simpa using h3), if_neg (by rw [h2]; decide)]
  omega

/-! ### The blocks as octets -/
def tW : Nat → List Int
  | 0 => []
  | n + 1 => 4 :: 4 :: 4 :: tW n
def sV (b : List Sl) : List Nat := b.flatMap fun y => [y.a.toNat, y.s, y.v.toNat]
def imW : List Int := [4, 1] ++ tW 10
def imV (b : List Sl) (k : Nat) : List Nat := [1768776048, k] ++ sV b
def imB (b : List Sl) (k : Nat) : List UInt8 := pad 128 (recs (imW.zip (imV b k)))
def imE (m : List Sl) (k : Nat) : List UInt8 := imB (blk m k) k
def slAt (l : List UInt8) (i : Nat) : Sl := ⟨(val ((l.drop (12 * i)).take 4) : Nat), val ((l.drop (12 * i + 4)).take 4), (val ((l.drop (12 * i + 8)).take 4) : Nat)⟩
def slsOf (l : List UInt8) (n : Nat) : List Sl := (List.range n).map (slAt l)
def bkOf (l : List UInt8) : List Sl := slsOf (l.drop 5) 10
def hdB (k : Nat) (l : List UInt8) : Bool := decide (val (l.take 4) = 1768776048 ∧ val ((l.drop 4).take 1) = k)
def rdB (k : Nat) (l : List UInt8) : Bool := clr l (125 : Nat) && hdB k l
def setBlk (m : List Sl) (k : Nat) (b : List Sl) : List Sl := m.take (10 * k) ++ (b ++ m.drop (10 * k + 10))
def kB (k : Int) : Bool := decide (0 ≤ k ∧ k ≤ 3)
def rdOk (k : Nat) (l : List UInt8) : Bool := decide (l.length = 128) && (rdB k l && blkB (bkOf l) k)
def decE (m : List Sl) (k : Int) (l : List UInt8) : Nat := if mayB m then (if kB k then (if rdOk k.toNat l then 0 else 3) else 4) else 1
def decM (m : List Sl) (k : Int) (l : List UInt8) : List Sl := if decE m k l = 0 then setBlk m k.toNat (bkOf l) else zero
theorem tW_len : ∀ n, (tW n).length = 3 * n
  | 0 => rfl
  | n + 1 => by simp only [tW, List.length_cons, tW_len n]; omega
theorem sV_cons (y : Sl) (l : List Sl) : sV (y :: l) = y.a.toNat :: y.s :: y.v.toNat :: sV l := by unfold sV; rw [List.flatMap_cons]; rfl
theorem sV_len : ∀ l, (sV l).length = 3 * l.length
  | [] => rfl
  | p :: l => by rw [sV_cons]; simp only [List.length_cons, sV_len l]; omega
theorem need_imW : need imW = 125 := rfl
theorem slAt_drop (l : List UInt8) (i : Nat) : slAt (l.drop 12) i = slAt l (i + 1) := by
  unfold slAt
  simp only [List.drop_drop]
  rw [show 12 + 12 * i = 12 * (i + 1) by omega, show 12 + (12 * i + 4) = 12 * (i + 1) + 4 by omega, show 12 + (12 * i + 8) = 12 * (i + 1) + 8 by omega]
theorem slsOf_succ (l : List UInt8) (n : Nat) : slsOf l (n + 1) = slAt l 0 :: slsOf (l.drop 12) n := by
  unfold slsOf
  rw [List.range_succ_eq_map, List.map_cons, List.map_map]
  congr 1
  refine List.map_congr_left fun i _ => ?_
  rw [slAt_drop]; rfl
theorem slsOf_len (l : List UInt8) (n : Nat) : (slsOf l n).length = n := by unfold slsOf; simp
theorem slsOf_snoc (l : List UInt8) (n : Nat) : slsOf l (n + 1) = slsOf l n ++ [slAt l n] := by unfold slsOf; rw [List.range_succ, List.map_append]; rfl
theorem sV_of : ∀ (n : Nat) (l : List UInt8), sV (slsOf l n) = nums l (tW n)
  | 0, _ => rfl
  | n + 1, l => by
    rw [slsOf_succ, sV_cons, sV_of n, tW, nums, nums, nums, List.drop_drop, List.drop_drop]
    rfl
theorem sl_lt (l : List UInt8) (n : Nat) : ∀ x ∈ slsOf l n, x.s < 4294967296 := by
  intro x hx
  unfold slsOf at hx
  obtain ⟨i, _, rfl⟩ := List.mem_map.1 hx
  exact Nd.val_lt_of _ 4
def Pos (l : List Sl) : Prop := ∀ y ∈ l, 0 ≤ y.a ∧ 0 ≤ y.v
theorem pos_sls (l : List UInt8) (n : Nat) : Pos (slsOf l n) := by
  intro y hy
  unfold slsOf at hy
  obtain ⟨i, _, rfl⟩ := List.mem_map.1 hy
  exact ⟨Int.natCast_nonneg _, Int.natCast_nonneg _⟩
theorem pos_all {l : List Sl} (h : ∀ y ∈ l, slB y = true) : Pos l := fun y hy => ⟨(sl_parts (h y hy)).1, (sl_parts (h y hy)).2.2.2.1⟩
theorem sV_inj : ∀ (l m : List Sl), Pos l → Pos m → sV l = sV m → l = m
  | [], [], _, _, _ => rfl
  | [], q :: qs, _, _, h => by rw [sV_cons] at h; cases h
  | p :: ps, [], _, _, h => by rw [sV_cons] at h; cases h
  | p :: ps, q :: qs, hp, hq, h => by
    rw [sV_cons, sV_cons] at h
    simp only [List.cons.injEq] at h
    rw [sV_inj ps qs (fun x hx => hp x (List.mem_cons_of_mem _ hx)) (fun x hx => hq x (List.mem_cons_of_mem _ hx)) h.2.2.2]
    congr 1
    have h1 := hp p List.mem_cons_self
    have h2 := hq q List.mem_cons_self
    obtain ⟨a, b, c⟩ := p
    obtain ⟨a', b', c'⟩ := q
    simp only at h h1 h2
    rw [Sl.mk.injEq]
    omega
theorem sV_chk : ∀ (l : List Sl), (∀ y ∈ l, slB y = true) → (∀ y ∈ l, y.s < 4294967296) → ∀ x ∈ (tW l.length).zip (sV l), chk x = 0
  | [], _, _, x, hx => by simp [tW, sV] at hx
  | p :: ps, hp, hs, x, hx => by
    rw [sV_cons, List.length_cons, tW, List.zip_cons_cons, List.zip_cons_cons, List.zip_cons_cons] at hx
    have h1 := sl_parts (hp p List.mem_cons_self)
    have h2 := hs p List.mem_cons_self
    rcases List.mem_cons.1 hx with rfl | hx
    · refine Pk.chk_ok rfl ?_
      simp; omega
    rcases List.mem_cons.1 hx with rfl | hx
    · refine Pk.chk_ok rfl ?_
      simp; omega
    rcases List.mem_cons.1 hx with rfl | hx
    · refine Pk.chk_ok rfl ?_
      simp; omega
    exact sV_chk ps (fun q hq => hp q (List.mem_cons_of_mem _ hq)) (fun q hq => hs q (List.mem_cons_of_mem _ hq)) x hx
theorem imV_len {b : List Sl} (h : b.length = 10) (k : Nat) : (imV b k).length = imW.length := by
  unfold imV imW
  simp only [List.length_append, sV_len, tW_len, h]
  rfl
theorem im_chk {b : List Sl} (hl : b.length = 10) (k : Nat) (hk : k < 256) (hb : ∀ y ∈ b, slB y = true) (hs : ∀ y ∈ b, y.s < 4294967296) : ∀ y ∈ imW.zip (imV b k), chk y = 0 := by
  intro y hy
  unfold imW imV at hy
  rw [Nd.zip_app _ _ _ _ rfl] at hy
  rcases List.mem_append.1 hy with hy | hy
  · simp only [List.zip_cons_cons, List.zip_nil_right, List.mem_cons, List.not_mem_nil, or_false] at hy
    rcases hy with rfl | rfl <;> refine Pk.chk_ok rfl ?_ <;> simp <;> omega
  · rw [← hl] at hy
    exact sV_chk b hb hs y hy
theorem imR_len {b : List Sl} (h : b.length = 10) (k : Nat) : (recs (imW.zip (imV b k))).length = 125 := Cd.recs_len imW _ (imV_len h k)
theorem imB_len {b : List Sl} (h : b.length = 10) (k : Nat) : (imB b k).length = 128 := Crc.length_pad _ _ (by rw [imR_len h]; omega)
theorem nums_im (l : List UInt8) : nums l imW = val (l.take 4) :: val ((l.drop 4).take 1) :: sV (bkOf l) := by
  unfold imW bkOf
  rw [sV_of]
  simp only [List.cons_append, List.nil_append, nums, List.drop_drop]
  rfl
theorem bk_len (l : List UInt8) : (bkOf l).length = 10 := slsOf_len _ _
theorem blk_all {b : List Sl} {k : Int} (h : blkB b k = true) : ∀ y ∈ b, slB y = true := by
  unfold blkB at h
  rw [Bool.and_eq_true] at h
  exact fun y hy => List.all_eq_true.1 h.1 y hy
/-- Octets are the block of the slots that they hold just if they are of the form. -/
theorem im_iff (l : List UInt8) (hl : l.length = 128) (k : Nat) (hk : k < 256) (hb : ∀ y ∈ bkOf l, slB y = true) : imB (bkOf l) k = l ↔ rdB k l = true := by
  unfold imB
  rw [Cd.fill_iff l imW _ (imV_len (bk_len l) k) (im_chk (bk_len l) k hk hb (sl_lt _ _)) 128 (by rw [need_imW]; omega) hl, nums_im, need_imW]
  unfold rdB hdB imV
  simp only [List.cons_append, List.nil_append, List.cons.injEq, and_true, Bool.and_eq_true, decide_eq_true_iff]
  exact And.comm
theorem im_back {b : List Sl} (hl : b.length = 10) (k : Nat) (hk : k < 256) (hb : ∀ y ∈ b, slB y = true) (hs : ∀ y ∈ b, y.s < 4294967296) : bkOf (imB b k) = b ∧ rdB k (imB b k) = true := by
  have h := (Cd.fill_iff (imB b k) imW (imV b k) (imV_len hl k) (im_chk hl k hk hb hs) 128 (by rw [need_imW]; omega) (imB_len hl k)).1 rfl
  rw [need_imW] at h
  revert h
  generalize imB b k = l
  intro h
  rw [nums_im] at h
  unfold imV at h
  simp only [List.cons_append, List.nil_append, List.cons.injEq] at h
  obtain ⟨⟨e1, e2, e3⟩, h3⟩ := h
  refine ⟨sV_inj _ _ (pos_sls _ _) (pos_all hb) e3, ?_⟩
  unfold rdB hdB
  rw [h3, decide_eq_true ⟨e1, e2⟩]
  rfl
theorem mem_blk {m : List Sl} {k : Nat} {x : Sl} (h : x ∈ blk m k) : x ∈ m := List.mem_of_mem_drop (List.mem_of_mem_take h)
theorem imE_inj {a b : List Sl} (ha : Good a) (hb : Good b) (ma : mayB a = true) (mb : mayB b = true) (k : Nat) (hk : k < 4) : imE a k = imE b k ↔ blk a k = blk b k := by
  constructor
  · intro h
    have h1 := (im_back (blk_len ha.1 hk) k (by omega) (fun y hy => (may_all ma).1 y (mem_blk hy)) (fun y hy => ha.2 y (mem_blk hy))).1
    have h2 := (im_back (blk_len hb.1 hk) k (by omega) (fun y hy => (may_all mb).1 y (mem_blk hy)) (fun y hy => hb.2 y (mem_blk hy))).1
    unfold imE at h
    rw [← h1, h, h2]
  · intro h
    unfold imE
    rw [h]

/-! ### A block put into a map -/
theorem setBlk_get {m b : List Sl} (hm : m.length = 40) (hb : b.length = 10) {k : Nat} (hk : k < 4) (i : Nat) : (setBlk m k b)[i]? = if i < 10 * k then m[i]? else if i < 10 * k + 10 then b[i - 10 * k]? else m[i]? := by
  unfold setBlk
  have ht : (m.take (10 * k)).length = 10 * k := by rw [List.length_take]; omega
  by_cases h1 : i < 10 * k
  · rw [if_pos h1, List.getElem?_append_left (by omega), List.getElem?_take, if_pos h1]
  · rw [if_neg h1, List.getElem?_append_right (by omega), ht]
    by_cases h2 : i < 10 * k + 10
    · rw [if_pos h2, List.getElem?_append_left (by omega)]
    · rw [if_neg h2, List.getElem?_append_right (by omega), hb, List.getElem?_drop]
      congr 1
      omega
theorem setBlk_len {m b : List Sl} (hm : m.length = 40) (hb : b.length = 10) {k : Nat} (hk : k < 4) : (setBlk m k b).length = 40 := by
  unfold setBlk
  rw [List.length_append, List.length_append, List.length_take, List.length_drop]
  omega
theorem blk_setBlk {m b : List Sl} (hm : m.length = 40) (hb : b.length = 10) {k : Nat} (hk : k < 4) : blk (setBlk m k b) k = b := by
  apply List.ext_getElem?
  intro i
  unfold blk
  rw [List.getElem?_take]
  split
  · rw [List.getElem?_drop, setBlk_get hm hb hk, if_neg (by omega), if_pos (by omega)]
    congr 1
    omega
  · rw [List.getElem?_eq_none (by omega)]
theorem blk_setBlk_far {m b : List Sl} (hm : m.length = 40) (hb : b.length = 10) {k j : Nat} (hk : k < 4) (hj : j ≠ k) : blk (setBlk m k b) j = blk m j := by
  apply List.ext_getElem?
  intro i
  unfold blk
  rw [List.getElem?_take, List.getElem?_take]
  split
  · rw [List.getElem?_drop, List.getElem?_drop, setBlk_get hm hb hk]
    by_cases h1 : 10 * j + i < 10 * k
    · rw [if_pos h1]
    · rw [if_neg h1, if_neg (by omega)]
  · rfl
theorem may_setBlk {m b : List Sl} (hm : m.length = 40) (hb : b.length = 10) {k : Nat} (hk : k < 4) (h : mayB m = true) : mayB (setBlk m k b) = blkB b k := by
  rw [may_blks (setBlk_len hm hb hk)]
  rw [may_blks hm] at h
  have hj : ∀ j, j < 4 → blkB (blk m j) j = true := fun j hj => List.all_eq_true.1 h j (List.mem_range.2 hj)
  have hj' : ∀ j, j < 4 → j ≠ k → blkB (blk (setBlk m k b) j) j = true := fun j h1 h2 => by rw [blk_setBlk_far hm hb hk h2]; exact hj j h1
  have hk' : blkB (blk (setBlk m k b) k) k = blkB b k := by rw [blk_setBlk hm hb hk]
  rw [Bool.eq_iff_iff, List.all_eq_true]
  constructor
  · intro h2
    rw [← hk']
    exact h2 k (List.mem_range.2 hk)
  · intro h2 j hj2
    by_cases e : j = k
    · rw [e, hk']; exact h2
    · exact hj' j (List.mem_range.1 hj2) e
theorem good_setBlk {m b : List Sl} (hm : Good m) (hb : b.length = 10) (hs : ∀ y ∈ b, y.s < 4294967296) {k : Nat} (hk : k < 4) : Good (setBlk m k b) := by
  refine ⟨setBlk_len hm.1 hb hk, fun x hx => ?_⟩
  unfold setBlk at hx
  rcases List.mem_append.1 hx with hx | hx
  · exact hm.2 x (List.mem_of_mem_take hx)
  · rcases List.mem_append.1 hx with hx | hx
    · exact hs x hx
    · exact hm.2 x (List.mem_of_mem_drop hx)
theorem good_decM {m : List Sl} (hm : Good m) (k : Int) (l : List UInt8) : Good (decM m k l) := by
  unfold decM
  split
  · rename_i h
    unfold decE kB at h
    split at h
    · split at h
      · rename_i hk
        have := of_decide_eq_true hk
        exact good_setBlk hm (bk_len l) (sl_lt _ _) (by omega)
      · cases h
    · cases h
  · exact good_zero
/-- As the document says it. -/
theorem dec_doc {m : List Sl} (hm : m.length = 40) (k : Nat) (hk : k < 4) (h : mayB m = true) (l : List UInt8) : rdOk k l = true ↔ l.length = 128 ∧ mayB (setBlk m k (bkOf l)) = true ∧ imE (setBlk m k (bkOf l)) k = l := by
  unfold rdOk imE
  rw [may_setBlk hm (bk_len l) hk h, blk_setBlk hm (bk_len l) hk, Bool.and_eq_true, Bool.and_eq_true, decide_eq_true_iff]
  constructor
  · rintro ⟨h1, h2, h3⟩
    exact ⟨h1, h3, (im_iff l h1 k (by omega) (blk_all h3)).2 h2⟩
  · rintro ⟨h1, h2, h3⟩
    exact ⟨h1, (im_iff l h1 k (by omega) (blk_all h2)).1 h3, h2⟩

/-! ### Read one by one -/
def backAt (m : List Sl) (i : Nat) : List Sl := m.take (10 * i) ++ zero.drop (10 * i)
theorem backAt_get {m : List Sl} (hm : m.length = 40) (i : Nat) (hi : i ≤ 4) (j : Nat) : (backAt m i)[j]? = if j < 10 * i then m[j]? else zero[j]? := by
  unfold backAt
  have ht : (m.take (10 * i)).length = 10 * i := by rw [List.length_take]; omega
  by_cases h1 : j < 10 * i
  · rw [if_pos h1, List.getElem?_append_left (by omega), List.getElem?_take, if_pos h1]
  · rw [if_neg h1, List.getElem?_append_right (by omega), ht, List.getElem?_drop]
    congr 1
    omega
theorem zero_len : zero.length = 40 := rfl
theorem backAt_len {m : List Sl} (hm : m.length = 40) (i : Nat) (hi : i ≤ 4) : (backAt m i).length = 40 := by
  unfold backAt
  rw [List.length_append, List.length_take, List.length_drop, zero_len]
  omega
theorem backAt_zero (m : List Sl) : backAt m 0 = zero := by unfold backAt; simp
theorem backAt_four {m : List Sl} (hm : m.length = 40) : backAt m 4 = m := by
  unfold backAt
  rw [List.take_of_length_le (by omega), List.drop_of_length_le (by rw [zero_len]; omega), List.append_nil]
theorem backAt_succ {m : List Sl} (hm : m.length = 40) (i : Nat) (hi : i < 4) : setBlk (backAt m i) i (blk m i) = backAt m (i + 1) := by
  apply List.ext_getElem?
  intro j
  rw [setBlk_get (backAt_len hm i (by omega)) (blk_len hm hi) hi, backAt_get hm i (by omega), backAt_get hm (i + 1) (by omega)]
  by_cases h1 : j < 10 * i
  · rw [if_pos h1, if_pos h1, if_pos (by omega)]
  · rw [if_neg h1, if_neg h1]
    by_cases h2 : j < 10 * i + 10
    · rw [if_pos h2, if_pos (by omega)]
      unfold blk
      rw [List.getElem?_take, if_pos (by omega), List.getElem?_drop]
      congr 1
      omega
    · rw [if_neg h2, if_neg (by omega)]
theorem may_zero : mayB zero = true := by decide +kernel
theorem good_back {m : List Sl} (hm : Good m) (i : Nat) (hi : i ≤ 4) : Good (backAt m i) := by
  refine ⟨backAt_len hm.1 i hi, fun x hx => ?_⟩
  unfold backAt at hx
  rcases List.mem_append.1 hx with hx | hx
  · exact hm.2 x (List.mem_of_mem_take hx)
  · exact good_zero.2 x (List.mem_of_mem_drop hx)
theorem may_back {m : List Sl} (hm : m.length = 40) (h : mayB m = true) (i : Nat) (hi : i ≤ 4) : mayB (backAt m i) = true := by
  refine may_mk (fun x hx => ?_) ?_
  · unfold backAt at hx
    rcases List.mem_append.1 hx with hx | hx
    · exact (may_all h).1 x (List.mem_of_mem_take hx)
    · exact (may_all may_zero).1 x (List.mem_of_mem_drop hx)
  · have h0 := (may_all h).2
    rw [List.getD_eq_getElem?_getD] at h0 ⊢
    rw [backAt_get hm i hi]
    split
    · exact h0
    · rfl
/-- Block i of a map, read into what was read of it till then. -/
theorem back_step {m : List Sl} (hm : Good m) (h : mayB m = true) (i : Nat) (hi : i < 4) : decE (backAt m i) i (imE m i) = 0 ∧ decM (backAt m i) i (imE m i) = backAt m (i + 1) := by
  have hb := im_back (blk_len hm.1 hi) i (by omega) (fun y hy => (may_all h).1 y (mem_blk hy)) (fun y hy => hm.2 y (mem_blk hy))
  have hbk : blkB (blk m i) i = true := by
    rw [may_blks hm.1] at h
    exact List.all_eq_true.1 h i (List.mem_range.2 hi)
  have e : decE (backAt m i) i (imE m i) = 0 := by
    unfold decE
    rw [may_back hm.1 h i (by omega), if_pos rfl, show kB (i : Int) = true by unfold kB; exact decide_eq_true ⟨by omega, by omega⟩, if_pos rfl, Int.toNat_natCast]
    have : rdOk i (imE m i) = true := by
      unfold rdOk imE
      rw [imB_len (blk_len hm.1 hi), hb.2, hb.1, hbk]
      rfl
    rw [this, if_pos rfl]
  refine ⟨e, ?_⟩
  unfold decM
  rw [e, if_pos rfl, Int.toNat_natCast]
  unfold imE
  rw [hb.1, backAt_succ hm.1 i hi]
end Go.Proofs.Ytpgibmffgliibaa.Im
