/-
  Names in memory; Under, Same. By an AI agent.
-/
import Derived.Test.YtahcbgllnoopgaaPaP
import Derived.Test.YtahcbgllnoopgaaTlS
import Derived.Test.YtahcbgllnoopgaaMid
import Derived.Test.YtahcbgllnoopgaaRegU
import Derived.Test.YtahcbgllnoopgaaRegT
namespace Go.Proofs.Ytahcbgllnoopgaa
open Go.RowKit Go.ChangeShapes Go.WideShapes Go.ChangeAt

theorem ba_inj (x y : List UInt8) : (⟨x.toArray⟩ : ByteArray).toList = (⟨y.toArray⟩ : ByteArray).toList ↔ x = y := by rw [ba_toList, ba_toList]
theorem ba_beq (x y : List UInt8) : ((⟨x.toArray⟩ : ByteArray).toList == (⟨y.toArray⟩ : ByteArray).toList) = decide (x = y) := by
  rw [Bool.eq_iff_iff, beq_iff_eq, decide_eq_true_iff]
  exact ba_inj _ _

/-! ### Texts in memory -/
def strs (l : List (List UInt8)) : List Value := l.map fun s => .string ⟨s.toArray⟩
def Strs (w : World) (B : Nat) (v : Value) (l : List (List UInt8)) : Prop := Rds w B 1 v l.length (strs l)
def StrsAt (w : World) (B : Nat) (A : Option Addr) (l : List (List UInt8)) : Prop := ∀ (j : Nat) (_ : j < l.length), ∃ b off, A = some ⟨b, off, none⟩ ∧ b < B ∧ w.cell? ⟨b, off + j, none⟩ = some (.string ⟨(l.getD j []).toArray⟩)
theorem strs_app (l m : List (List UInt8)) : strs (l ++ m) = strs l ++ strs m := by unfold strs; rw [List.map_append]
theorem strs_len (l : List (List UInt8)) : (strs l).length = l.length := by unfold strs; rw [List.length_map]
theorem strs_take (l : List (List UInt8)) (k : Nat) : (strs l).take k = strs (l.take k) := by unfold strs; rw [List.map_take]
theorem strs_one (l : List (List UInt8)) : ∀ u ∈ strs l, u.oneCell' = true := by
  intro u hu
  unfold strs at hu
  obtain ⟨p, _, rfl⟩ := List.mem_map.1 hu
  rfl
theorem infoStr : (Try.prog.info? 9).map (fun i => (i.zero, i.size, i.bytes)) = some (some (.string .empty), 1, 16) := by kernel_rfl
theorem Strs.open_ {w : World} {B : Nat} {v : Value} {l : List (List UInt8)} (h : Strs w B v l) : ∃ (A : Option Addr) (c : Nat), v = .slice A l.length c ∧ l.length ≤ c ∧ c ≤ 9223372036854775807 ∧ StrsAt w B A l := by
  obtain ⟨A, c, h1, h2, h3, h4, h5⟩ := h
  refine ⟨A, c, h1, h2, h3, fun j hj => ?_⟩
  obtain ⟨b, off, e, hb, hc⟩ := h5 (by omega)
  exact ⟨b, off, e, hb, hc _ _ (by unfold strs; simp [List.getD, hj])⟩
theorem StrsAt.below {w w' : World} {B : Nat} {A : Option Addr} {l : List (List UInt8)} (h : StrsAt w B A l) (hb : Below B w w') : StrsAt w' B A l := fun j hj => by
  obtain ⟨b, off, e, hB, h0⟩ := h j hj
  exact ⟨b, off, e, hB, (hb.cell (p := ⟨b, off + j, none⟩) hB).trans h0⟩
theorem Strs.of_own {w : World} {base n : Nat} {v : Value} {l : List (List UInt8)} (h : w.ownsRow base 9 1 v n (strs l)) : Strs w w.heap.size v l := by
  have h1 := h.1
  rw [strs_len, Nat.mul_one] at h1
  subst h1
  exact Rds.of_own h
theorem Strs.nil_ (w : World) (B : Nat) : Strs w B (.slice none 0 0) [] := Rds.nil_ _ _ _
theorem Strs.head {w : World} {B : Nat} {A : Option Addr} {c k : Nat} {l : List (List UInt8)} (h : Strs w B (.slice A l.length c) l) (hk : k ≤ l.length) : Strs w B (.slice A k c) (l.take k) := by
  have := Rds.head h hk
  unfold Strs
  rw [List.length_take, Nat.min_eq_left hk, ← strs_take]
  simpa using this
theorem own_slice {w : World} {base : Nat} {e : TypeId} {sz n : Nat} {v : Value} {xs : List Value} (h : w.ownsRow base e sz v n xs) : ∃ A c, v = .slice A n c := by
  rcases h.2 with ⟨rfl, rfl⟩ | ⟨g', cap', cur, rfl, _⟩
  · exact ⟨_, _, rfl⟩
  · exact ⟨_, _, rfl⟩
/-- l[:k]. -/
theorem run_headS (A : Option Addr) (n c k : Nat) (hk : k ≤ c) (z : Int) (hz : z = k) (W : World) :
    (Instr.slice 23 (.slice A n c) none (some (.int .i64 z)) none).run Try.prog W = .ok (.slice A k c) W := by
  subst hz
  rw [run_slice_h _ _ _ _ _ (by kernel_rfl) .i64 _ (by omega) (by omega), Int.toNat_natCast]
  have hs : (sizeOf (Try.prog.elem 23)).run Try.prog W = .ok 1 W := by kernel_rfl
  rw [hs]
  simp [Result.andThen, sliced]
  intro h
  cases A <;> simp [Addr.add]
/-- A row of the call's own, shortened. -/
theorem own_short {w : World} {base n k c : Nat} {e : TypeId} {A : Option Addr} {xs : List Value} (h : w.ownsRow base e 1 (.slice A n c) n xs) (hk : k ≤ n) (h0 : 0 < n) : w.ownsRow base e 1 (.slice A k c) k (xs.take k) := by
  obtain ⟨h1, h2⟩ := h
  rcases h2 with ⟨_, h2⟩ | ⟨g, cap, cur, he, hb, hh, hn, hm, hs, ht⟩
  · omega
  · injection he with e1 e2 e3
    subst e1 e3
    refine ⟨by rw [List.length_take]; omega, .inr ⟨g, c, cur, rfl, hb, hh, by omega, hm, hs, ?_⟩⟩
    rw [← ht, List.take_take]
    congr 1
    omega

/-! ### Under, Same -/
theorem take_step {α : Type} {l m : List α} {k : Nat} (h1 : k < l.length) (h2 : k < m.length) (h : l.take k = m.take k) (e : l[k] = m[k]) : l.take (k + 1) = m.take (k + 1) := by
  rw [List.take_succ_eq_append_getElem h1, List.take_succ_eq_append_getElem h2, h, e]
theorem under_no {l m : List (List UInt8)} {k : Nat} (hm : k < m.length) (h : l.length ≤ k ∨ l.getD k [] ≠ m.getD k []) : Pa.under l m = false := by
  unfold Pa.under
  rw [decide_eq_false_iff_not]
  rintro ⟨h1, h2⟩
  rcases h with h | h
  · omega
  · apply h
    have := congrArg (fun z => z[k]?) h2
    simp only [List.getElem?_take] at this
    rw [if_pos hm] at this
    rw [List.getD_eq_getElem?_getD, List.getD_eq_getElem?_getD, this]
theorem take_step' {l m : List (List UInt8)} {k : Nat} (h1 : k < l.length) (h2 : k < m.length) (h : l.take k = m.take k) (e : l.getD k [] = m.getD k []) : l.take (k + 1) = m.take (k + 1) := by
  refine take_step h1 h2 h ?_
  simpa [List.getD, h1, h2] using e

set_option maxRecDepth 100000 in
set_option maxHeartbeats 4000000 in
theorem underR_any (v u : Value) (l m : List (List UInt8)) (w : World) (hl : Strs w w.heap.size v l) (hm : Strs w w.heap.size u m) :
    Calls Try.prog 18 #[v, u] w fun e w' => e = .returned (.bool (Pa.under l m)) ∧ Below w.heap.size w w' := by
  obtain ⟨A, c, rfl, hlc, hcm, hE⟩ := hl.open_
  obtain ⟨A2, c2, rfl, hlc2, hcm2, hE2⟩ := hm.open_
  have HE := Lib.hid hE
  have HE2 := Lib.hid hE2
  clear hE hE2 hl hm
  go_enter Try.func18, Try.ntmps18
  go_wp2
  go_loopw [5] (fun i wr => ∃ k : Nat, k ≤ m.length ∧ i = .int .i64 k ∧ Hid (k ≤ l.length ∧ l.take k = m.take k) ∧ Below w.heap.size w wr) (fun i _ => m.length - (intOf i).toNat)
  case atStart => exact ⟨0, Nat.zero_le _, rfl, Lib.hid ⟨Nat.zero_le _, by simp⟩, Below.refl _ _⟩
  case round =>
    obtain ⟨k, hk, rfl, HT, hbr⟩ := hrel
    by_cases hlt : k < m.length
    · by_cases hll : k < l.length
      · obtain ⟨b, off, rfl, hbB, h0⟩ := (HE.out.below hbr) k hll
        obtain ⟨b2, off2, rfl, hbB2, i0⟩ := (HE2.out.below hbr) k hlt
        have hbl : b < wr.heap.size := Nat.lt_of_lt_of_le hbB hbr.size
        have hbl2 : b2 < wr.heap.size := Nat.lt_of_lt_of_le hbB2 hbr.size
        have HY := Lib.hid (fun h => (⟨hll, take_step' hll hlt HT.out.2 h⟩ : k + 1 ≤ l.length ∧ l.take (k + 1) = m.take (k + 1)))
        have HN := Lib.hid (fun h => under_no (l := l) hlt (.inr h))
        generalize l.getD k [] = X at *
        generalize m.getD k [] = Y at *
        have hcmp := ba_beq X Y
        generalize (⟨X.toArray⟩ : ByteArray) = SX at *
        generalize (⟨Y.toArray⟩ : ByteArray) = SY at *
        obtain ⟨dq, hdq⟩ : ∃ dq, decide (X = Y) = dq := ⟨_, rfl⟩
        rw [hdq] at hcmp
        have hne : (SX.toList != SY.toList) = !dq := by rw [bne, hcmp]
        have HDQ := Lib.hid hdq
        clear hdq
        go_upto_region 4 with fail
        have hG0 : Below wr.heap.size wr wr.drew := (Below.refl _ _).drew
        refine wp_region_list 15 [(fun y_ _ => y_ = .int .i64 ((k : Nat) : Int)),
          (fun y_ _ => y_ = .slice (some ⟨b, off, none⟩) l.length c),
          (fun y_ _ => y_ = .int .i64 ((l.length : Nat) : Int)),
          (fun y_ _ => y_ = .bool false),
          (fun y_ _ => y_ = .bool false),
          (fun y_ _ => y_ = .slice (some ⟨b, off, none⟩) l.length c),
          (fun y_ _ => y_ = .int .i64 ((k : Nat) : Int)),
          (fun y_ _ => y_ = .pointer (some ⟨b, off + k, none⟩)),
          (fun y_ _ => y_ = .string SX),
          (fun y_ _ => y_ = .slice (some ⟨b2, off2, none⟩) m.length c2),
          (fun y_ _ => y_ = .int .i64 ((k : Nat) : Int)),
          (fun y_ _ => y_ = .pointer (some ⟨b2, off2 + k, none⟩)),
          (fun y_ _ => y_ = .string SY),
          (fun y_ _ => y_ = .bool (!dq)),
          (fun y_ _ => y_ = .bool (!dq))]
          (fun q => Below wr.heap.size wr q) (by kernel_rfl) rfl (by kernel_rfl) ?_ ?_ ?_ ?_
        · exact hG0
        · exact ⟨stab_eq _, stab_eq _, stab_eq _, stab_eq _, stab_eq _, stab_eq _, stab_eq _, stab_eq _, stab_eq _, stab_eq _, stab_eq _, stab_eq _, stab_eq _, stab_eq _, stab_eq _, trivial⟩
        · refine ⟨?_, ?_, ?_, ?_, ?_, ?_, ?_, ?_, ?_, ?_, ?_, ?_, ?_, ?_, ?_, trivial⟩
          · intro a x hG hd hs K hK
            have h5 : a.tmps.getD 5 undef = .int .i64 ((k : Nat) : Int) := hs 5 (by kernel_rfl)
            clear hd hs
            refine wpOp_plain rfl rfl ?_
            go_simp
            exact hK _ _ rfl hG (Below.refl _ _)
          · intro a x hG hd hs K hK
            have h0 : a.tmps.getD 0 undef = .slice (some ⟨b, off, none⟩) l.length c := hs 0 (by kernel_rfl)
            clear hd hs
            refine wpOp_plain rfl rfl ?_
            go_simp
            exact hK _ _ rfl hG (Below.refl _ _)
          · intro a x hG hd hs K hK
            have h13 : a.tmps.getD 13 undef = .slice (some ⟨b, off, none⟩) l.length c := hd 1 13 (by kernel_rfl)
            clear hd hs
            refine wpOp_plain rfl rfl ?_
            go_simp
            exact hK _ _ rfl hG (Below.refl _ _)
          · intro a x hG hd hs K hK
            have h12 : a.tmps.getD 12 undef = .int .i64 ((k : Nat) : Int) := hd 0 12 (by kernel_rfl)
            have h14 : a.tmps.getD 14 undef = .int .i64 ((l.length : Nat) : Int) := hd 2 14 (by kernel_rfl)
            clear hd hs
            refine wpOp_plain rfl rfl ?_
            have h9 : decide (l.length ≤ k) = false := decide_eq_false (by omega)
            go_simp
            exact hK _ _ rfl hG (Below.refl _ _)
          · intro a x hG hd hs K hK
            have h15 : a.tmps.getD 15 undef = .bool false := hd 3 15 (by kernel_rfl)
            clear hd hs
            refine wpOp_plain rfl rfl ?_
            go_simp
            exact hK _ _ rfl hG (Below.refl _ _)
          · intro a x hG hd hs K hK
            have h0 : a.tmps.getD 0 undef = .slice (some ⟨b, off, none⟩) l.length c := hs 0 (by kernel_rfl)
            have h16 : a.tmps.getD 16 undef = .bool false := hd 4 16 (by kernel_rfl)
            clear hd hs
            refine wpOp_yes rfl rfl rfl h16 ?_
            go_simp
            exact hK _ _ rfl hG (Below.refl _ _)
          · intro a x hG hd hs K hK
            have h5 : a.tmps.getD 5 undef = .int .i64 ((k : Nat) : Int) := hs 5 (by kernel_rfl)
            have h16 : a.tmps.getD 16 undef = .bool false := hd 4 16 (by kernel_rfl)
            clear hd hs
            refine wpOp_yes rfl rfl rfl h16 ?_
            go_simp
            exact hK _ _ rfl hG (Below.refl _ _)
          · intro a x hG hd hs K hK
            have h17 : a.tmps.getD 17 undef = .slice (some ⟨b, off, none⟩) l.length c := hd 5 17 (by kernel_rfl)
            have h18 : a.tmps.getD 18 undef = .int .i64 ((k : Nat) : Int) := hd 6 18 (by kernel_rfl)
            have h16 : a.tmps.getD 16 undef = .bool false := hd 4 16 (by kernel_rfl)
            clear hd hs
            refine wpOp_yes rfl rfl rfl h16 ?_
            go_simp
            exact hK _ _ rfl hG (Below.refl _ _)
          · intro a x hG hd hs K hK
            have h19 : a.tmps.getD 19 undef = .pointer (some ⟨b, off + k, none⟩) := hd 7 19 (by kernel_rfl)
            have h16 : a.tmps.getD 16 undef = .bool false := hd 4 16 (by kernel_rfl)
            clear hd hs
            refine wpOp_yes rfl rfl rfl h16 ?_
            have hc := (hG.cell (p := ⟨b, off + k, none⟩) hbl).trans h0
            go_simp
            exact hK _ _ rfl hG (Below.refl _ _)
          · intro a x hG hd hs K hK
            have h1 : a.tmps.getD 1 undef = .slice (some ⟨b2, off2, none⟩) m.length c2 := hs 1 (by kernel_rfl)
            have h16 : a.tmps.getD 16 undef = .bool false := hd 4 16 (by kernel_rfl)
            clear hd hs
            refine wpOp_yes rfl rfl rfl h16 ?_
            go_simp
            exact hK _ _ rfl hG (Below.refl _ _)
          · intro a x hG hd hs K hK
            have h5 : a.tmps.getD 5 undef = .int .i64 ((k : Nat) : Int) := hs 5 (by kernel_rfl)
            have h16 : a.tmps.getD 16 undef = .bool false := hd 4 16 (by kernel_rfl)
            clear hd hs
            refine wpOp_yes rfl rfl rfl h16 ?_
            go_simp
            exact hK _ _ rfl hG (Below.refl _ _)
          · intro a x hG hd hs K hK
            have h21 : a.tmps.getD 21 undef = .slice (some ⟨b2, off2, none⟩) m.length c2 := hd 9 21 (by kernel_rfl)
            have h22 : a.tmps.getD 22 undef = .int .i64 ((k : Nat) : Int) := hd 10 22 (by kernel_rfl)
            have h16 : a.tmps.getD 16 undef = .bool false := hd 4 16 (by kernel_rfl)
            clear hd hs
            refine wpOp_yes rfl rfl rfl h16 ?_
            go_simp
            exact hK _ _ rfl hG (Below.refl _ _)
          · intro a x hG hd hs K hK
            have h23 : a.tmps.getD 23 undef = .pointer (some ⟨b2, off2 + k, none⟩) := hd 11 23 (by kernel_rfl)
            have h16 : a.tmps.getD 16 undef = .bool false := hd 4 16 (by kernel_rfl)
            clear hd hs
            refine wpOp_yes rfl rfl rfl h16 ?_
            have hc := (hG.cell (p := ⟨b2, off2 + k, none⟩) hbl2).trans i0
            go_simp
            exact hK _ _ rfl hG (Below.refl _ _)
          · intro a x hG hd hs K hK
            have h20 : a.tmps.getD 20 undef = .string SX := hd 8 20 (by kernel_rfl)
            have h24 : a.tmps.getD 24 undef = .string SY := hd 12 24 (by kernel_rfl)
            have h16 : a.tmps.getD 16 undef = .bool false := hd 4 16 (by kernel_rfl)
            clear hd hs
            refine wpOp_yes rfl rfl rfl h16 ?_
            have h9 := hne
            go_simp
            exact hK _ _ rfl hG (Below.refl _ _)
          · intro a x hG hd hs K hK
            have h16 : a.tmps.getD 16 undef = .bool false := hd 4 16 (by kernel_rfl)
            have h25 : a.tmps.getD 25 undef = .bool (!dq) := hd 13 25 (by kernel_rfl)
            clear hd hs
            refine wpOp_plain rfl rfl ?_
            go_simp
            exact hK _ _ rfl hG (Below.refl _ _)
        · intro x hG
          rintro _ rfl _ rfl _ rfl _ rfl _ rfl _ rfl _ rfl _ rfl _ rfl _ rfl _ rfl _ rfl _ rfl _ rfl _ rfl
          simp only [Act.put, List.setIfInBounds_toArray, List.set_cons_zero, List.set_cons_succ, REnd]
          try simp only [Exit.then]
          have b9 := hbr.trans (hG.mono hbr.size)
          cases dq with
          | true =>
            have H := Lib.hid (HY.out (of_decide_eq_true HDQ.out))
            go_wp2
            go_roundw
            case rel => exact ⟨k + 1, by omega, by go_num, H, b9⟩
            case measure => simp [intOf]; omega
          | false =>
            have H := Lib.hid (HN.out (of_decide_eq_false HDQ.out))
            go_wp2
            go_ret
            exact ⟨by rw [H.out]; rfl, b9⟩
      · have H := Lib.hid (under_no (l := l) hlt (.inl (by omega)))
        go_upto_region 4 with fail
        have hG0 : Below wr.heap.size wr wr.drew := (Below.refl _ _).drew
        refine wp_region_list 15 [(fun y_ _ => y_ = .int .i64 ((k : Nat) : Int)),
          (fun y_ _ => y_ = .slice A l.length c),
          (fun y_ _ => y_ = .int .i64 ((l.length : Nat) : Int)),
          (fun y_ _ => y_ = .bool true),
          (fun y_ _ => y_ = .bool true),
          (fun y_ _ => y_ = undef),
          (fun y_ _ => y_ = undef),
          (fun y_ _ => y_ = undef),
          (fun y_ _ => y_ = undef),
          (fun y_ _ => y_ = undef),
          (fun y_ _ => y_ = undef),
          (fun y_ _ => y_ = undef),
          (fun y_ _ => y_ = undef),
          (fun y_ _ => y_ = undef),
          (fun y_ _ => y_ = .bool true)]
          (fun q => Below wr.heap.size wr q) (by kernel_rfl) rfl (by kernel_rfl) ?_ ?_ ?_ ?_
        · exact hG0
        · exact ⟨stab_eq _, stab_eq _, stab_eq _, stab_eq _, stab_eq _, stab_eq _, stab_eq _, stab_eq _, stab_eq _, stab_eq _, stab_eq _, stab_eq _, stab_eq _, stab_eq _, stab_eq _, trivial⟩
        · refine ⟨?_, ?_, ?_, ?_, ?_, ?_, ?_, ?_, ?_, ?_, ?_, ?_, ?_, ?_, ?_, trivial⟩
          · intro a x hG hd hs K hK
            have h5 : a.tmps.getD 5 undef = .int .i64 ((k : Nat) : Int) := hs 5 (by kernel_rfl)
            clear hd hs
            refine wpOp_plain rfl rfl ?_
            go_simp
            exact hK _ _ rfl hG (Below.refl _ _)
          · intro a x hG hd hs K hK
            have h0 : a.tmps.getD 0 undef = .slice A l.length c := hs 0 (by kernel_rfl)
            clear hd hs
            refine wpOp_plain rfl rfl ?_
            go_simp
            exact hK _ _ rfl hG (Below.refl _ _)
          · intro a x hG hd hs K hK
            have h13 : a.tmps.getD 13 undef = .slice A l.length c := hd 1 13 (by kernel_rfl)
            clear hd hs
            refine wpOp_plain rfl rfl ?_
            go_simp
            exact hK _ _ rfl hG (Below.refl _ _)
          · intro a x hG hd hs K hK
            have h12 : a.tmps.getD 12 undef = .int .i64 ((k : Nat) : Int) := hd 0 12 (by kernel_rfl)
            have h14 : a.tmps.getD 14 undef = .int .i64 ((l.length : Nat) : Int) := hd 2 14 (by kernel_rfl)
            clear hd hs
            refine wpOp_plain rfl rfl ?_
            have h9 : decide (l.length ≤ k) = true := decide_eq_true (by omega)
            go_simp
            exact hK _ _ rfl hG (Below.refl _ _)
          · intro a x hG hd hs K hK
            have h15 : a.tmps.getD 15 undef = .bool true := hd 3 15 (by kernel_rfl)
            clear hd hs
            refine wpOp_plain rfl rfl ?_
            go_simp
            exact hK _ _ rfl hG (Below.refl _ _)
          · intro a x hG hd hs K hK
            have h0 : a.tmps.getD 0 undef = .slice A l.length c := hs 0 (by kernel_rfl)
            have h16 : a.tmps.getD 16 undef = .bool true := hd 4 16 (by kernel_rfl)
            clear hd hs
            refine wpOp_no rfl rfl rfl h16 ?_
            exact hK _ _ rfl hG (Below.refl _ _)
          · intro a x hG hd hs K hK
            have h5 : a.tmps.getD 5 undef = .int .i64 ((k : Nat) : Int) := hs 5 (by kernel_rfl)
            have h16 : a.tmps.getD 16 undef = .bool true := hd 4 16 (by kernel_rfl)
            clear hd hs
            refine wpOp_no rfl rfl rfl h16 ?_
            exact hK _ _ rfl hG (Below.refl _ _)
          · intro a x hG hd hs K hK
            have h17 : a.tmps.getD 17 undef = undef := hd 5 17 (by kernel_rfl)
            have h18 : a.tmps.getD 18 undef = undef := hd 6 18 (by kernel_rfl)
            have h16 : a.tmps.getD 16 undef = .bool true := hd 4 16 (by kernel_rfl)
            clear hd hs
            refine wpOp_no rfl rfl rfl h16 ?_
            exact hK _ _ rfl hG (Below.refl _ _)
          · intro a x hG hd hs K hK
            have h19 : a.tmps.getD 19 undef = undef := hd 7 19 (by kernel_rfl)
            have h16 : a.tmps.getD 16 undef = .bool true := hd 4 16 (by kernel_rfl)
            clear hd hs
            refine wpOp_no rfl rfl rfl h16 ?_
            exact hK _ _ rfl hG (Below.refl _ _)
          · intro a x hG hd hs K hK
            have h1 : a.tmps.getD 1 undef = .slice A2 m.length c2 := hs 1 (by kernel_rfl)
            have h16 : a.tmps.getD 16 undef = .bool true := hd 4 16 (by kernel_rfl)
            clear hd hs
            refine wpOp_no rfl rfl rfl h16 ?_
            exact hK _ _ rfl hG (Below.refl _ _)
          · intro a x hG hd hs K hK
            have h5 : a.tmps.getD 5 undef = .int .i64 ((k : Nat) : Int) := hs 5 (by kernel_rfl)
            have h16 : a.tmps.getD 16 undef = .bool true := hd 4 16 (by kernel_rfl)
            clear hd hs
            refine wpOp_no rfl rfl rfl h16 ?_
            exact hK _ _ rfl hG (Below.refl _ _)
          · intro a x hG hd hs K hK
            have h21 : a.tmps.getD 21 undef = undef := hd 9 21 (by kernel_rfl)
            have h22 : a.tmps.getD 22 undef = undef := hd 10 22 (by kernel_rfl)
            have h16 : a.tmps.getD 16 undef = .bool true := hd 4 16 (by kernel_rfl)
            clear hd hs
            refine wpOp_no rfl rfl rfl h16 ?_
            exact hK _ _ rfl hG (Below.refl _ _)
          · intro a x hG hd hs K hK
            have h23 : a.tmps.getD 23 undef = undef := hd 11 23 (by kernel_rfl)
            have h16 : a.tmps.getD 16 undef = .bool true := hd 4 16 (by kernel_rfl)
            clear hd hs
            refine wpOp_no rfl rfl rfl h16 ?_
            exact hK _ _ rfl hG (Below.refl _ _)
          · intro a x hG hd hs K hK
            have h20 : a.tmps.getD 20 undef = undef := hd 8 20 (by kernel_rfl)
            have h24 : a.tmps.getD 24 undef = undef := hd 12 24 (by kernel_rfl)
            have h16 : a.tmps.getD 16 undef = .bool true := hd 4 16 (by kernel_rfl)
            clear hd hs
            refine wpOp_no rfl rfl rfl h16 ?_
            exact hK _ _ rfl hG (Below.refl _ _)
          · intro a x hG hd hs K hK
            have h16 : a.tmps.getD 16 undef = .bool true := hd 4 16 (by kernel_rfl)
            have h25 : a.tmps.getD 25 undef = undef := hd 13 25 (by kernel_rfl)
            clear hd hs
            refine wpOp_plain rfl rfl ?_
            go_simp
            exact hK _ _ rfl hG (Below.refl _ _)
        · intro x hG
          rintro _ rfl _ rfl _ rfl _ rfl _ rfl _ rfl _ rfl _ rfl _ rfl _ rfl _ rfl _ rfl _ rfl _ rfl _ rfl
          simp only [Act.put, List.setIfInBounds_toArray, List.set_cons_zero, List.set_cons_succ, REnd]
          try simp only [Exit.then]
          have b9 := hbr.trans (hG.mono hbr.size)
          go_wp2
          go_ret
          exact ⟨by rw [H.out]; rfl, b9⟩
    · obtain rfl : k = m.length := by omega
      have hgt : decide (m.length < l.length) = Pa.under l m := by
        unfold Pa.under
        rw [Bool.eq_iff_iff, decide_eq_true_iff, decide_eq_true_iff]
        have h2 := HT.out.2
        rw [List.take_length] at h2
        exact ⟨fun h => ⟨by omega, h2⟩, fun h => by have := h.1; omega⟩
      have HGT := Lib.hid hgt
      clear hgt
      go_wp2
      go_ret
      exact ⟨by rw [← HGT.out]; rfl, hbr⟩
end Go.Proofs.Ytahcbgllnoopgaa
