/-
  The walks of package inode that are small: isIno, num, seal, all, numbers. By an AI agent.
-/
import Derived.Test.YtmabdbleakolbaaDoorInodeP
import Derived.Test.YtmabdbleakolbaaDoorPackW
import Derived.Test.YtmabdbleakolbaaDoorCrcW
namespace Go.Proofs.YtmabdbleakolbaaDoor
open Go.RowKit

/-- Pointers in memory. -/
def pcells (ps : List (Int × Nat)) : List Value := ps.flatMap fun p => [.int .i64 p.1, .int .u32 (p.2 : Int)]
def Ptrs (w : World) (B : Nat) (v : Value) (ps : List (Int × Nat)) : Prop := Rds w B 2 v ps.length (pcells ps)
theorem pcells_len (l : List (Int × Nat)) : (pcells l).length = l.length * 2 := by
  induction l with
  | nil => rfl
  | cons x l ih =>
    unfold pcells at ih ⊢
    rw [List.flatMap_cons, List.length_append, ih, List.length_cons, List.length_cons, List.length_cons, List.length_nil]; omega
theorem pcells_cons (p : Int × Nat) (l : List (Int × Nat)) : pcells (p :: l) = .int .i64 p.1 :: .int .u32 (p.2 : Int) :: pcells l := by unfold pcells; rw [List.flatMap_cons]; rfl
theorem pcells_app (l m : List (Int × Nat)) : pcells (l ++ m) = pcells l ++ pcells m := by unfold pcells; rw [List.flatMap_append]
theorem pcells_at : ∀ (l : List (Int × Nat)) (k : Nat) (h : k < l.length), (pcells l)[k * 2]? = some (.int .i64 l[k].1) ∧ (pcells l)[k * 2 + 1]? = some (.int .u32 (l[k].2 : Int))
  | x :: l, 0, _ => ⟨rfl, rfl⟩
  | x :: l, k + 1, h => by
    have := pcells_at l k (by simpa using h)
    rw [pcells_cons, show (k + 1) * 2 = k * 2 + 1 + 1 by omega]
    exact this
theorem Ptrs.open_ {w : World} {B : Nat} {v : Value} {l : List (Int × Nat)} (h : Ptrs w B v l) : ∃ (A : Option Addr) (c : Nat), v = .slice A l.length c ∧ l.length ≤ c ∧ c ≤ 9223372036854775807 ∧
    ∀ (j : Nat) (hj : j < l.length), ∃ b off, A = some ⟨b, off, none⟩ ∧ b < B ∧ w.cell? ⟨b, off + j * 2, none⟩ = some (.int .i64 l[j].1) ∧ w.cell? ⟨b, off + j * 2 + 1, none⟩ = some (.int .u32 (l[j].2 : Int)) := by
  obtain ⟨A, c, h1, h2, h3, h4, h5⟩ := h
  refine ⟨A, c, h1, h2, h3, fun j hj => ?_⟩
  obtain ⟨b, off, e, hb, hc⟩ := h5 (by omega)
  have := pcells_at l j hj
  exact ⟨b, off, e, hb, hc _ _ this.1, by have := hc _ _ this.2; rw [Nat.add_assoc]; exact this⟩

set_option maxHeartbeats 400000 in
theorem isIno_any (n : Int) (w : World) :
    Calls Tryd.prog 25 #[.int .i64 n] w fun e w' => e = .returned (.bool (Nd.inoB n)) ∧ w = w' := by
  by_cases h : 1 ≤ n
  · have H := Lib.hid (show Nd.inoB n = decide (n ≤ 39) by unfold Nd.inoB; simp [h])
    go_enter Tryd.func25, Tryd.ntmps25
    go_wp2
    go_ret
    exact ⟨by rw [H.out]; rfl, rfl⟩
  · have H := Lib.hid (show Nd.inoB n = false by unfold Nd.inoB; simp [h])
    go_enter Tryd.func25, Tryd.ntmps25
    go_wp2
    go_ret
    exact ⟨by rw [H.out]; rfl, rfl⟩
set_option maxHeartbeats 400000 in
theorem numN_any (wd : Int) (v : Nat) (w : World) (hv : v < 9223372036854775808) :
    Calls Tryd.prog 26 #[.int .i64 wd, .int .i64 (v : Int)] w fun e w' => e = .returned (.agg #[.int .i64 wd, .int .u64 (v : Int)]) ∧ Below w.heap.size w w' := by
  go_enter Tryd.func26, Tryd.ntmps26
  go_wp2
  refine bodyPost_ret (v := .agg #[.int .i64 wd, .int .u64 (v : Int)]) (by simp [results, Tryd.results26, go_sem]) rfl ⟨rfl, ?_⟩
  exact (Below.refl _ _).alloc (Nat.le_refl _) _
theorem numN_eq (wd z : Int) (v : Nat) (hz : z = v) (w : World) (hv : v < 9223372036854775808) :
    Calls Tryd.prog 26 #[.int .i64 wd, .int .i64 z] w fun e w' => e = .returned (.agg #[.int .i64 wd, .int .u64 (v : Int)]) ∧ Below w.heap.size w w' := by
  subst hz; exact numN_any wd v w hv
theorem zip_lt {L : List (Int × Nat)} (h : ∀ x ∈ L, Pk.chk x = 0) : ∀ x ∈ L, x.2 < 18446744073709551616 := by
  intro x hx
  have h1 := Pk.chk_zero (h x hx)
  have h2 : 256 ^ x.1.toNat ≤ 256 ^ 8 := Nat.pow_le_pow_right (by omega) (by omega)
  omega
/-- A block that was made. -/
def Made (l : List UInt8) (w : World) (e : Ending) (w' : World) : Prop := ∃ u, e = .returned (.tuple #[u, .int .i64 0]) ∧ Bs w' w'.heap.size u l ∧ Below w.heap.size w w'

set_option maxHeartbeats 400000 in
theorem sealN_any (w : World) (v : Value) (L : List (Int × Nat)) (hG : Halves w) (h : Nums w w.heap.size v L) (hn : L.length ≤ 100) (hc : ∀ x ∈ L, Pk.chk x = 0) (hl : (Pk.recs L).length ≤ 124) :
    Calls Tryd.prog 27 #[v] w (Made (Crc.sealed (Pk.recs L)) w) := by
  have hu := zip_lt hc
  have hp := Pk.perr_of hc
  have hk : Pk.packed L = Pk.recs L := by unfold Pk.packed; rw [if_pos hp]
  go_enter Tryd.func27, Tryd.ntmps27
  go_wp2_with fail
  refine (pack_any _ _ _ L h (Nat.le_refl _) (by omega) hu).mono ?_
  rintro e w1 ⟨u, rfl, hown, hb⟩
  rw [hp]
  rw [hk] at hown
  have hs : Bs w1 w1.heap.size u (Pk.recs L) := Bs.of_own hown
  clear hown hp hk
  go_wp2_with fail
  refine (seal_any _ _ _ _ (hG.ext hb) hs (Nat.le_refl _) hl).mono ?_
  rintro e w2 ⟨u2, rfl, hown2, hb2⟩
  have hs2 : Bs w2 w2.heap.size u2 (Crc.sealed (Pk.recs L)) := Bs.of_own (by rw [Crc.length_sealed _ hl]; exact hown2)
  go_wp2
  go_ret2
  exact ⟨_, rfl, hs2, hb.trans (hb2.mono hb.size)⟩

theorem all_take {ps : List (Int × Nat)} {k : Nat} (hlt : k < ps.length) (h : (ps.take k).all Nd.ptrB = true) (h2 : Nd.ptrB ps[k] = true) : (ps.take (k + 1)).all Nd.ptrB = true := by
  rw [List.take_succ_eq_append_getElem hlt, List.all_append, h]
  simp [h2]
theorem all_no {ps : List (Int × Nat)} {k : Nat} (hlt : k < ps.length) (h2 : Nd.ptrB ps[k] = false) : ps.all Nd.ptrB = false := by
  cases h : ps.all Nd.ptrB with
  | false => rfl
  | true =>
    have := List.all_eq_true.1 h ps[k] (List.getElem_mem hlt)
    rw [h2] at this; cases this
set_option maxHeartbeats 1000000 in
theorem all_any (w : World) (v : Value) (B : Nat) (ps : List (Int × Nat)) (h : Ptrs w B v ps) (hB : B ≤ w.heap.size) :
    Calls Tryd.prog 29 #[v] w fun e w' => e = .returned (.bool (ps.all Nd.ptrB)) ∧ Below w.heap.size w w' := by
  obtain ⟨A, c, rfl, hc, hm, hcell⟩ := h.open_
  clear h
  go_enter Tryd.func29, Tryd.ntmps29
  go_wp2
  go_loopw [7] (fun i wr => ∃ k : Nat, k ≤ ps.length ∧ i = .int .i64 k ∧ (ps.take k).all Nd.ptrB = true ∧ Below w.heap.size w wr) (fun i _ => ps.length - (intOf i).toNat)
  case atStart => exact ⟨0, Nat.zero_le _, rfl, by simp, Below.refl _ _⟩
  case round =>
    obtain ⟨k, hk, rfl, hall, hbw⟩ := hrel
    by_cases hlt : k < ps.length
    · obtain ⟨b, off, rfl, hb, hc1, hc2⟩ := hcell k hlt
      have hx1 := (hbw.cell (p := ⟨b, off + k * 2, none⟩) (Nat.lt_of_lt_of_le hb hB)).trans hc1
      have hx2 := (hbw.cell (p := ⟨b, off + k * 2 + 1, none⟩) (Nat.lt_of_lt_of_le hb hB)).trans hc2
      have HY := Lib.hid (fun h => all_take hlt hall h)
      have HN := Lib.hid (fun h => all_no hlt h)
      clear hc1 hc2 hcell hall
      generalize ps[k] = p at *
      obtain ⟨a, s⟩ := p
      simp only at hx1 hx2
      have HP := Lib.hid (show Nd.ptrB (a, s) = decide (0 ≤ a ∧ a ≤ 2147483647 ∧ (a = 0 → s = 0)) from rfl)
      by_cases h0 : a < 0
      · have H := Lib.hid (HN.out (by rw [HP.out]; simp; omega))
        clear HN HY HP
        go_wp2
        go_ret
        exact ⟨by rw [H.out]; rfl, hbw.alloc hbw.size _⟩
      · by_cases h1 : 2147483647 < a
        · have H := Lib.hid (HN.out (by rw [HP.out]; simp; omega))
          clear HN HY HP
          go_wp2
          go_ret
          exact ⟨by rw [H.out]; rfl, hbw.alloc hbw.size _⟩
        · by_cases h2 : a = 0
          · subst h2
            by_cases h3 : s = 0
            · subst h3
              have H := Lib.hid (HY.out (by rw [HP.out]; decide))
              clear HN HY HP
              go_wp2
              go_roundw
              case rel => exact ⟨k + 1, by omega, by go_num, H.out, hbw.alloc hbw.size _⟩
              case measure => simp [intOf]; omega
            · have h3' : ((s : Int) != 0) = true := by rw [bne_iff_ne]; omega
              have H := Lib.hid (HN.out (by rw [HP.out]; simp; omega))
              clear HN HY HP
              go_wp2
              go_ret
              exact ⟨by rw [H.out]; rfl, hbw.alloc hbw.size _⟩
          · have h2' : (a == 0) = false := by simpa using h2
            have H := Lib.hid (HY.out (by rw [HP.out]; simp; omega))
            clear HN HY HP
            go_wp2
            go_roundw
            case rel => exact ⟨k + 1, by omega, by go_num, H.out, hbw.alloc hbw.size _⟩
            case measure => simp [intOf]; omega
    · obtain rfl : k = ps.length := by omega
      rw [List.take_length] at hall
      have H := Lib.hid hall
      clear hall hcell
      go_wp2
      go_ret
      exact ⟨by rw [H.out]; rfl, hbw⟩

/-! ### numbers -/
def pN (ps : List (Int × Nat)) : List (Int × Nat) := (Nd.pW ps.length).zip (Nd.pV ps)
theorem pN_cons (p : Int × Nat) (ps : List (Int × Nat)) : pN (p :: ps) = (4, p.1.toNat) :: (4, p.2) :: pN ps := by
  unfold pN
  rw [Nd.pV_cons, List.length_cons, Nd.pW, List.zip_cons_cons, List.zip_cons_cons]
theorem pN_app : ∀ (ps qs : List (Int × Nat)), pN (ps ++ qs) = pN ps ++ pN qs
  | [], _ => rfl
  | p :: ps, qs => by rw [List.cons_append, pN_cons, pN_cons, pN_app ps qs]; rfl
theorem pN_len (ps : List (Int × Nat)) : (pN ps).length = 2 * ps.length := by
  unfold pN
  rw [List.length_zip, Nd.pW_len, Nd.pV_len, Nat.min_self]
def ncells (l : List (Int × Nat)) : List Value := l.flatMap fun x => [.int .i64 x.1, .int .u64 (x.2 : Int)]
theorem ncells_app (l m : List (Int × Nat)) : ncells (l ++ m) = ncells l ++ ncells m := by unfold ncells; rw [List.flatMap_append]
theorem infoNum : (Tryd.prog.info? 63).map (fun i => (i.zero, i.size, i.bytes)) = some (some (.agg #[.int .i64 0, .int .u64 0]), 2, 16) := by kernel_rfl
theorem Nums.of_own {w : World} {base : Nat} {e : TypeId} {v : Value} {l : List (Int × Nat)} (h : w.ownsRow base e 2 v l.length (ncells l)) : Nums w w.heap.size v l := Rds.of_own h

set_option maxRecDepth 100000 in
set_option maxHeartbeats 4000000 in
theorem numbers_any (w : World) (v : Value) (B : Nat) (ps : List (Int × Nat)) (h : Ptrs w B v ps) (hB : B ≤ w.heap.size) (hn : ps.length ≤ 100) (ha : ps.all Nd.ptrB = true) (hs : ∀ p ∈ ps, p.2 < 4294967296) :
    Calls Tryd.prog 28 #[v] w fun e w' => ∃ u, e = .returned u ∧ w'.ownsRow w.heap.size 63 2 u (pN ps).length (ncells (pN ps)) ∧ Below w.heap.size w w' := by
  obtain ⟨A, c, rfl, hc, hm, hcell⟩ := h.open_
  clear h
  have hmk := run_mk (P := Tryd.prog) Tryd.underlying65 infoNum 0 (2 * ps.length) (by omega) (by omega) (by omega)
  simp only [Int.natCast_mul, Int.cast_ofNat_Int] at hmk
  go_enter Tryd.func28, Tryd.ntmps28
  go_wp2
  clear hmk
  have hown0 := World.ownsRow_made (e := 63) (size := 2) (base := w.heap.size) w (madeCells #[.int .i64 0, .int .u64 0] (2 * ps.length * 2)) (2 * ps.length) (Nat.le_refl _) (by rw [maxLen_eq]; omega) (by rw [size_madeCells])
  have hb0 := (Below.refl w.heap.size w).alloc (Nat.le_refl _) (.cells (madeCells #[.int .i64 0, .int .u64 0] (2 * ps.length * 2)) 63)
  generalize w.alloc (.cells (madeCells #[.int .i64 0, .int .u64 0] (2 * ps.length * 2)) 63) = W0 at *
  go_loopw [3, 12] (fun x i wr => ∃ k : Nat, k ≤ ps.length ∧ i = .int .i64 k ∧ wr.ownsRow w.heap.size 63 2 x (2 * k) (ncells (pN (ps.take k))) ∧ Below w.heap.size w wr) (fun _ i _ => ps.length - (intOf i).toNat)
  case atStart => exact ⟨0, Nat.zero_le _, rfl, hown0, hb0⟩
  case round =>
    obtain ⟨k, hk, rfl, hown, hbw⟩ := hrel
    clear hown0 hb0
    by_cases hlt : k < ps.length
    · obtain ⟨b, off, rfl, hb, hc1, hc2⟩ := hcell k hlt
      have hx1 := (hbw.cell (p := ⟨b, off + k * 2, none⟩) (Nat.lt_of_lt_of_le hb hB)).trans hc1
      have hx2 := (hbw.cell (p := ⟨b, off + k * 2 + 1, none⟩) (Nat.lt_of_lt_of_le hb hB)).trans hc2
      have HS := Lib.hid (show pN (ps.take (k + 1)) = pN (ps.take k) ++ [(4, ps[k].1.toNat), (4, ps[k].2)] by rw [List.take_succ_eq_append_getElem hlt, pN_app]; congr 1)
      have hpb := List.all_eq_true.1 ha ps[k] (List.getElem_mem hlt)
      have hps := hs ps[k] (List.getElem_mem hlt)
      unfold Nd.ptrB at hpb
      rw [decide_eq_true_iff] at hpb
      clear hc1 hc2 hcell ha hs
      generalize ps[k] = p at *
      obtain ⟨aa, s⟩ := p
      simp only at hx1 hx2 HS hpb hps
      obtain ⟨aa, rfl⟩ := Int.eq_ofNat_of_zero_le hpb.1
      rw [Int.toNat_natCast] at HS
      have hal : aa < 9223372036854775808 := by omega
      have hsl : s < 9223372036854775808 := by omega
      go_wp2_with fail
      have hkk := Blk.new wr 24 #[.int .i64 (aa : Int), .int .u32 (s : Int)]
      have hown1 := hown.alloc (.cells #[.int .i64 (aa : Int), .int .u32 (s : Int)] 24)
      have hb1 := hbw.alloc hbw.size (.cells #[.int .i64 (aa : Int), .int .u32 (s : Int)] 24)
      generalize wr.alloc (.cells #[.int .i64 (aa : Int), .int .u32 (s : Int)] 24) = W1 at *
      generalize wr.heap.size = gg at *
      clear hown hbw hx1 hx2
      have hG0 : (fun (b : Bool) (x : World) => Below w.heap.size w x ∧ (b = false → x.ownsRow w.heap.size 63 2 u3 (2 * k) (ncells (pN (ps.take k))) ∧ Blk x gg 24 [.int .i64 (aa : Int), .int .u32 (s : Int)])) false W1.drew := ⟨hb1.drew, fun _ => ⟨hown1.drew, hkk.drew⟩⟩
      refine wp_region_tail 11 9 [(fun y_ _ => y_ = u3),
        (fun y_ _ => y_ = .pointer (some ⟨gg, 0, none⟩)),
        (fun y_ _ => y_ = .int .i64 (aa : Int)),
        (fun y_ _ => y_ = .agg #[.int .i64 4, .int .u64 (aa : Int)]),
        (fun y_ _ => y_ = .pointer (some ⟨gg, 1, none⟩)),
        (fun y_ _ => y_ = .int .u32 (s : Int)),
        (fun y_ _ => y_ = .int .i64 (s : Int)),
        (fun y_ _ => y_ = .agg #[.int .i64 4, .int .u64 (s : Int)]),
        (fun v x => ∃ g, v = .slice (some ⟨g, 0, none⟩) 2 2 ∧ Blk x g 63 [.int .i64 4, .int .u64 (aa : Int), .int .i64 4, .int .u64 (s : Int)] ∧ u3.ownBlock ≠ some g),
        (fun v x => x.ownsRow w.heap.size 63 2 v (2 * (k + 1)) (ncells (pN (ps.take (k + 1))))),
        (fun v x => x.ownsRow w.heap.size 63 2 v (2 * (k + 1)) (ncells (pN (ps.take (k + 1)))))]
        (fun (b : Bool) (x : World) => Below w.heap.size w x ∧ (b = false → x.ownsRow w.heap.size 63 2 u3 (2 * k) (ncells (pN (ps.take k))) ∧ Blk x gg 24 [.int .i64 (aa : Int), .int .u32 (s : Int)])) (fun x x' => x.grownBy x' u3.ownBlock) (by kernel_rfl) rfl (by decide) (by kernel_rfl) (by kernel_rfl) ?_ ?_ ?_ ?_ ?_
      · exact hG0
      · exact ⟨stab_eq _, stab_eq _, stab_eq _, stab_eq _, stab_eq _, stab_eq _, stab_eq _, stab_eq _, fun _ _ _ ⟨g, h1, h2, h3⟩ hb => ⟨g, h1, h2.ext hb, h3⟩, fun _ _ _ h hb => own_ext h hb, fun _ _ _ h hb => own_ext h hb, trivial⟩
      · exact ⟨stabE_eq _, stabE_eq _, stabE_eq _, stabE_eq _, stabE_eq _, stabE_eq _, stabE_eq _, stabE_eq _, fun _ _ _ ⟨g, h1, h2, h3⟩ hb => ⟨g, h1, h2.grown hb (Ne.symm h3), h3⟩, trivial⟩
      · refine ⟨?_, ?_, ?_, ?_, ?_, ?_, ?_, ?_, ?_, ?_, ?_, trivial⟩
        · intro a x hG hd hs K hK
          replace hG : (fun (b : Bool) (x : World) => Below w.heap.size w x ∧ (b = false → x.ownsRow w.heap.size 63 2 u3 (2 * k) (ncells (pN (ps.take k))) ∧ Blk x gg 24 [.int .i64 (aa : Int), .int .u32 (s : Int)])) false x := hG
          have h3 : a.tmps.getD 3 undef = u3 := hs 3 (by kernel_rfl)
          clear hd hs
          refine wpOp_plain rfl rfl ?_
          go_simp
          exact hK _ _ rfl hG (Below.refl _ _)
        · intro a x hG hd hs K hK
          replace hG : (fun (b : Bool) (x : World) => Below w.heap.size w x ∧ (b = false → x.ownsRow w.heap.size 63 2 u3 (2 * k) (ncells (pN (ps.take k))) ∧ Blk x gg 24 [.int .i64 (aa : Int), .int .u32 (s : Int)])) false x := hG
          have h5 : a.tmps.getD 5 undef = .pointer (some ⟨gg, 0, none⟩) := hs 5 (by kernel_rfl)
          clear hd hs
          refine wpOp_plain rfl rfl ?_
          go_simp
          exact hK _ _ rfl hG (Below.refl _ _)
        · intro a x hG hd hs K hK
          replace hG : (fun (b : Bool) (x : World) => Below w.heap.size w x ∧ (b = false → x.ownsRow w.heap.size 63 2 u3 (2 * k) (ncells (pN (ps.take k))) ∧ Blk x gg 24 [.int .i64 (aa : Int), .int .u32 (s : Int)])) false x := hG
          have h17 : a.tmps.getD 17 undef = .pointer (some ⟨gg, 0, none⟩) := hd 1 17 (by kernel_rfl)
          clear hd hs
          refine wpOp_plain rfl rfl ?_
          have hc := (hG.2 rfl).2.cell 0
          simp only [List.getElem?_cons_zero] at hc
          go_simp
          exact hK _ _ rfl hG (Below.refl _ _)
        · intro a x hG hd hs K hK
          replace hG : (fun (b : Bool) (x : World) => Below w.heap.size w x ∧ (b = false → x.ownsRow w.heap.size 63 2 u3 (2 * k) (ncells (pN (ps.take k))) ∧ Blk x gg 24 [.int .i64 (aa : Int), .int .u32 (s : Int)])) false x := hG
          have h18 : a.tmps.getD 18 undef = .int .i64 (aa : Int) := hd 2 18 (by kernel_rfl)
          clear hd hs
          refine wpOp_plain rfl rfl ?_
          go_simp
          refine (numN_any 4 aa _ hal).mono ?_
          rintro e w' ⟨rfl, hb⟩
          exact hK _ _ rfl ⟨hG.1.trans (hb.mono hG.1.size), fun h => ⟨own_ext (hG.2 h).1 hb, (hG.2 h).2.ext hb⟩⟩ hb
        · intro a x hG hd hs K hK
          replace hG : (fun (b : Bool) (x : World) => Below w.heap.size w x ∧ (b = false → x.ownsRow w.heap.size 63 2 u3 (2 * k) (ncells (pN (ps.take k))) ∧ Blk x gg 24 [.int .i64 (aa : Int), .int .u32 (s : Int)])) false x := hG
          have h5 : a.tmps.getD 5 undef = .pointer (some ⟨gg, 0, none⟩) := hs 5 (by kernel_rfl)
          clear hd hs
          refine wpOp_plain rfl rfl ?_
          go_simp
          exact hK _ _ rfl hG (Below.refl _ _)
        · intro a x hG hd hs K hK
          replace hG : (fun (b : Bool) (x : World) => Below w.heap.size w x ∧ (b = false → x.ownsRow w.heap.size 63 2 u3 (2 * k) (ncells (pN (ps.take k))) ∧ Blk x gg 24 [.int .i64 (aa : Int), .int .u32 (s : Int)])) false x := hG
          have h20 : a.tmps.getD 20 undef = .pointer (some ⟨gg, 1, none⟩) := hd 4 20 (by kernel_rfl)
          clear hd hs
          refine wpOp_plain rfl rfl ?_
          have hc := (hG.2 rfl).2.cell 1
          simp only [List.getElem?_cons_zero, List.getElem?_cons_succ] at hc
          go_simp
          exact hK _ _ rfl hG (Below.refl _ _)
        · intro a x hG hd hs K hK
          replace hG : (fun (b : Bool) (x : World) => Below w.heap.size w x ∧ (b = false → x.ownsRow w.heap.size 63 2 u3 (2 * k) (ncells (pN (ps.take k))) ∧ Blk x gg 24 [.int .i64 (aa : Int), .int .u32 (s : Int)])) false x := hG
          have h21 : a.tmps.getD 21 undef = .int .u32 (s : Int) := hd 5 21 (by kernel_rfl)
          clear hd hs
          refine wpOp_plain rfl rfl ?_
          have hwr : IntKind.i64.wrap (s : Int) = (s : Int) := IntWalk.i64_in _ (by omega)
          go_simp
          exact hK _ _ rfl hG (Below.refl _ _)
        · intro a x hG hd hs K hK
          replace hG : (fun (b : Bool) (x : World) => Below w.heap.size w x ∧ (b = false → x.ownsRow w.heap.size 63 2 u3 (2 * k) (ncells (pN (ps.take k))) ∧ Blk x gg 24 [.int .i64 (aa : Int), .int .u32 (s : Int)])) false x := hG
          have h22 : a.tmps.getD 22 undef = .int .i64 (s : Int) := hd 6 22 (by kernel_rfl)
          clear hd hs
          refine wpOp_plain rfl rfl ?_
          go_simp
          refine (numN_any 4 s _ hsl).mono ?_
          rintro e w' ⟨rfl, hb⟩
          exact hK _ _ rfl ⟨hG.1.trans (hb.mono hG.1.size), fun h => ⟨own_ext (hG.2 h).1 hb, (hG.2 h).2.ext hb⟩⟩ hb
        · intro a x hG hd hs K hK
          replace hG : (fun (b : Bool) (x : World) => Below w.heap.size w x ∧ (b = false → x.ownsRow w.heap.size 63 2 u3 (2 * k) (ncells (pN (ps.take k))) ∧ Blk x gg 24 [.int .i64 (aa : Int), .int .u32 (s : Int)])) false x := hG
          have h19 : a.tmps.getD 19 undef = .agg #[.int .i64 4, .int .u64 (aa : Int)] := hd 3 19 (by kernel_rfl)
          have h19o := getD_opt h19
          have h23 : a.tmps.getD 23 undef = .agg #[.int .i64 4, .int .u64 (s : Int)] := hd 7 23 (by kernel_rfl)
          have h23o := getD_opt h23
          clear hd hs
          refine wpOp_plain rfl rfl ?_
          go_simp
          have hn := Blk.new x 63 #[.int .i64 4, .int .u64 (aa : Int), .int .i64 4, .int .u64 (s : Int)]
          refine hK _ _ ⟨x.heap.size, rfl, hn, fun e => ?_⟩ ⟨hG.1.alloc hG.1.size _, fun h => ⟨(hG.2 h).1.alloc _, (hG.2 h).2.alloc _⟩⟩ ((Below.refl _ _).alloc (Nat.le_refl _) _)
          have := ((hG.2 rfl).1.lt _ e).2
          omega
        · intro a x hG hd hs K hK
          replace hG : (fun (b : Bool) (x : World) => Below w.heap.size w x ∧ (b = false → x.ownsRow w.heap.size 63 2 u3 (2 * k) (ncells (pN (ps.take k))) ∧ Blk x gg 24 [.int .i64 (aa : Int), .int .u32 (s : Int)])) false x := hG
          have h16 : a.tmps.getD 16 undef = u3 := hd 0 16 (by kernel_rfl)
          have h24 : (fun v x => ∃ g, v = .slice (some ⟨g, 0, none⟩) 2 2 ∧ Blk x g 63 [.int .i64 4, .int .u64 (aa : Int), .int .i64 4, .int .u64 (s : Int)] ∧ u3.ownBlock ≠ some g) (a.tmps.getD 24 undef) x := hd 8 24 (by kernel_rfl)
          clear hd hs
          refine wpOp_plain rfl rfl ?_
          obtain ⟨g, hg1, hg2, hg3⟩ := h24
          obtain ⟨v', w', hrun, hown', hgr, _⟩ := run_append_rds (P := Tryd.prog) (ty := 65) Tryd.underlying65 infoNum rfl (by decide) (hG.2 rfl).1 (hg2.rds 0 2 2 2 (by simp) (by omega) (by simp [maxLen])) (by simp [Value.oneCell']) (by simp [maxLen]; omega) (by omega) hG.1.size
          refine wp_append 16 24 65 rfl h16 hg1 hrun ?_
          refine hK _ _ ?_ ⟨hG.1.grown hgr hG.1.size (fun g hg => ((hG.2 rfl).1.lt g hg).1), fun h => by cases h⟩ hgr
          rw [HS.out, ncells_app]
          exact hown'
        · intro a x hG hd hs K hK
          replace hG : (fun (b : Bool) (x : World) => Below w.heap.size w x ∧ (b = false → x.ownsRow w.heap.size 63 2 u3 (2 * k) (ncells (pN (ps.take k))) ∧ Blk x gg 24 [.int .i64 (aa : Int), .int .u32 (s : Int)])) true x := hG
          have h25 : (fun v x => x.ownsRow w.heap.size 63 2 v (2 * (k + 1)) (ncells (pN (ps.take (k + 1))))) (a.tmps.getD 25 undef) x := hd 9 25 (by kernel_rfl)
          clear hd hs
          refine wpOp_plain rfl rfl ?_
          obtain ⟨uu, huu⟩ : ∃ uu, a.tmps.getD 25 undef = uu := ⟨_, rfl⟩
          rw [huu] at h25
          go_simp
          exact hK _ _ h25 hG (Below.refl _ _)
      · intro x hG
        rintro _ rfl _ rfl _ rfl _ rfl _ rfl _ rfl _ rfl _ rfl v8 hv8 v9 hv9 v10 hv10
        simp only [Act.put, List.setIfInBounds_toArray, List.set_cons_zero, List.set_cons_succ, REnd]
        try simp only [Exit.then]
        go_wp2
        go_roundw
        case rel => exact ⟨k + 1, by omega, by go_num, hv10, hG.1⟩
        case measure => simp [intOf]; omega
    · obtain rfl : k = ps.length := by omega
      rw [List.take_length] at hown
      rw [← pN_len] at hown
      clear hcell
      go_wp2
      go_ret
      exact ⟨_, rfl, hown, hbw⟩
end Go.Proofs.YtmabdbleakolbaaDoor
