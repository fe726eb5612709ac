/-
  The walks of the document's Encode and Decode of layer 12. By an AI agent.
-/
import Derived.Test.YtpgibmffgliibaaImD
namespace Go.Proofs.Ytpgibmffgliibaa
open Go.RowKit Go.ChangeShapes Go.WideShapes Go.ChangeAt
open Im (Sl)

/-- The octets of a block's head and of its first j slots. -/
def encTo (k : Nat) (B : List Sl) (j : Nat) : List UInt8 := Pk.recs (iH k ++ sN (B.take j))
theorem encTo_zero (k : Nat) (B : List Sl) : encTo k B 0 = [105, 109, 97, 112] ++ Pk.be k 1 := by
  unfold encTo
  rw [show sN (B.take 0) = [] from rfl, List.append_nil]
  rfl
theorem encTo_succ (k : Nat) (B : List Sl) (j : Nat) (h : j < B.length) : encTo k B (j + 1) = encTo k B j ++ ((Pk.be (B.getD j Sl.zero).a.toNat 4 ++ Pk.be (B.getD j Sl.zero).s 4) ++ Pk.be (B.getD j Sl.zero).v.toNat 4) := by
  unfold encTo
  rw [sN_snoc B j h, ← List.append_assoc, recs_app]
  congr 1
theorem encTo_len (k : Nat) (B : List Sl) (j : Nat) (h : j ≤ B.length) : (encTo k B j).length = 5 + 12 * j := by
  induction j with
  | zero => rw [encTo_zero, List.length_append, Pk.length_be]; rfl
  | succ j ih =>
    rw [encTo_succ k B j (by omega), List.length_append, ih (by omega), List.length_append, List.length_append, Pk.length_be, Pk.length_be, Pk.length_be]
    omega
theorem encTo_ten (k : Nat) {m : List Sl} (hm : m.length = 40) (hk : k < 4) : Pk.pad 128 (encTo k (Im.blk m k) 10) = Im.imE m k := by
  have hb := Im.blk_len hm hk
  unfold encTo Im.imE Im.imB
  rw [List.take_of_length_le (by omega), imN_eq _ hb]
  rfl
/-- A map into whose block k the first j slots have been put. -/
def setTo (m : List Sl) (k : Nat) (B : List Sl) (j : Nat) : List Sl := m.take (10 * k) ++ (B.take j ++ m.drop (10 * k + j))
theorem setTo_zero (m : List Sl) (k : Nat) (B : List Sl) : setTo m k B 0 = m := by unfold setTo; simp
theorem setTo_ten (m : List Sl) (k : Nat) {B : List Sl} (hb : B.length = 10) : setTo m k B 10 = Im.setBlk m k B := by
  unfold setTo Im.setBlk
  rw [show B.take 10 = B from List.take_of_length_le (by omega)]
theorem setTo_len {m : List Sl} (hm : m.length = 40) {k : Nat} (hk : k < 4) {B : List Sl} (hb : B.length = 10) {j : Nat} (hj : j ≤ 10) : (setTo m k B j).length = 40 := by
  unfold setTo
  rw [List.length_append, List.length_append, List.length_take, List.length_take, List.length_drop]
  omega
theorem setTo_succ {m : List Sl} (hm : m.length = 40) {k : Nat} (hk : k < 4) {B : List Sl} (hb : B.length = 10) {j : Nat} (hj : j < 10) : (setTo m k B j).set (10 * k + j) (B.getD j Sl.zero) = setTo m k B (j + 1) := by
  have e : B.getD j Sl.zero = B[j] := by simp [List.getD, hb, hj]
  unfold setTo
  rw [e, List.set_append_right _ _ (by rw [List.length_take]; omega), List.length_take, show 10 * k + j - min (10 * k) m.length = j by omega, List.set_append_right _ _ (by rw [List.length_take]; omega), List.length_take, show j - min j B.length = 0 by omega]
  rw [List.drop_eq_getElem_cons (show 10 * k + j < m.length by omega), List.set_cons_zero, List.take_succ_eq_append_getElem (show j < B.length by omega), List.append_assoc]
  rfl

set_option maxRecDepth 100000 in
set_option maxHeartbeats 8000000 in
theorem rencodeI_any (m : List Sl) (k : Nat) (w : World) (hg : Im.Good m) (hmy : Im.mayB m = true) (hk : k < 4) :
    Calls Try.prog 23 #[magg m, .int .i64 (k : Int)] w fun e w' => e = .returned (.string ⟨(Im.imE m k).toArray⟩) ∧ Below w.heap.size w w' := by
  have HM := Lib.hid hg.1
  have HT := Lib.hid (encTo_ten k hg.1 hk)
  have HZ := Lib.hid (encTo_zero k (Im.blk m k))
  have hb := Im.blk_len hg.1 hk
  have HS := Lib.hid (fun j (h : j < 10) => encTo_succ k (Im.blk m k) j (by rw [hb]; exact h))
  have HLN := Lib.hid (fun j (h : j ≤ 10) => encTo_len k (Im.blk m k) j (by rw [hb]; exact h))
  have HAT := Lib.hid (fun j (h : j < 10) => show (Im.blk m k).getD j Sl.zero = m.getD (10 * k + j) Sl.zero from Im.blk_get j k h)
  have HSL := Lib.hid (fun j (h : j < 40) => Im.sl_parts (Im.at_parts hmy hg.1 j h))
  have HSS := Lib.hid (fun j (h : j < 40) => hg.2 _ (Im.getD_mem (m := m) (i := j) (by rw [hg.1]; exact h)))
  have HCA := Lib.hid (fun j (h : j < 40) => cells_atN m j (by rw [hg.1]; exact h))
  clear hg hmy hb
  unfold magg
  go_enter Try.func23, Try.ntmps23
  go_upto_region 1 with (fail)
  have i0 := Blk.new w 28 (mcells m).toArray
  have c0 := (Below.refl w.heap.size w).alloc (Nat.le_refl _) (.cells (mcells m).toArray 28)
  change Blk _ _ _ (mcells m) at i0
  generalize w.alloc (.cells (mcells m).toArray 28) = w0 at *
  generalize w.heap.size = g2 at i0 ⊢
  go_wp2_with fail
  refine (rof_eq k 1 _ _ rfl rfl _ (by omega) (by omega)).mono ?_
  rintro e w1 ⟨rfl, b1⟩
  replace i0 := i0.ext b1
  have c1 := c0.trans (b1.mono c0.size)
  clear b1 c0
  have hcat := run_cat [105, 109, 97, 112] (Pk.be k 1) (by simp [Pk.length_be])
  rw [← HZ.out] at hcat
  have hk4 : (k : Int) < 4 := by omega
  go_upto_region 3 with (fail)
  clear hcat
  go_loopw [5, 6] (fun s i wr => ∃ j : Nat, j ≤ 10 ∧ i = .int .i64 ((10 * k + j : Nat) : Int) ∧ s = .string ⟨(encTo k (Im.blk m k) j).toArray⟩ ∧ Blk wr g2 28 (mcells m) ∧ Below w.heap.size w wr) (fun _ i _ => 10 * k + 10 - (intOf i).toNat)
  case atStart => exact ⟨0, by omega, by rw [show ((10 * k + 0 : Nat) : Int) = 10 * (k : Int) by omega], rfl, i0, c1⟩
  case round =>
    obtain ⟨j, hj, rfl, rfl, i1, c2⟩ := hrel
    clear i0 c1
    generalize hN : 10 * k + j = N at *
    have HN := Lib.hid hN
    clear hN
    have hNk : 10 * k ≤ N := by have := HN.out; omega
    by_cases hlt : j < 10
    · have hN1 : N < 10 * k + 10 := by have := HN.out; omega
      have hN2 : (N : Int) < 10 * (k : Int) + 10 := by omega
      have hN3 : (N : Int) < 40 := by omega
      have hN4 : N < 40 := by omega
      have hN0 : (0 : Int) ≤ (N : Int) := by omega
      have HS2 := Lib.hid (HS.out j hlt)
      have hln := HLN.out j hj
      have hca := HCA.out N hN4
      have hsl := HSL.out N hN4
      have hss := HSS.out N hN4
      have hat := HAT.out j hlt
      rw [HN.out] at hat
      rw [hat] at HS2
      clear hat
      generalize encTo k (Im.blk m k) j = R at *
      generalize m.getD N Sl.zero = y at *
      obtain ⟨aa, s, vv⟩ := y
      simp only at hca hsl hss HS2
      obtain ⟨aa, rfl⟩ := Int.eq_ofNat_of_zero_le hsl.1
      obtain ⟨vv, rfl⟩ := Int.eq_ofNat_of_zero_le hsl.2.2.2.1
      rw [Int.toNat_natCast, Int.toNat_natCast] at HS2
      have y1 : aa < 4294967296 := by omega
      have y3 : vv < 4294967296 := by omega
      have HCN := Lib.hid hca
      have hrl : R.length ≤ 200 := by omega
      clear hca hsl hln
      go_upto_region 5 with (fail)
      obtain ⟨Q1, hQ1⟩ : ∃ Q1, Q1 = Pk.be aa 4 ++ Pk.be s 4 := ⟨_, rfl⟩
      rw [← hQ1] at HS2
      obtain ⟨Q, hQ⟩ : ∃ Q, Q = Q1 ++ Pk.be vv 4 := ⟨_, rfl⟩
      rw [← hQ] at HS2
      have hq1l : Q1.length = 8 := by rw [hQ1]; simp [Pk.length_be]
      have hql : Q.length = 12 := by rw [hQ, List.length_append, hq1l, Pk.length_be]
      have HQ1 := Lib.hid hQ1
      have HQ := Lib.hid hQ
      have HQL := Lib.hid (And.intro hq1l hql)
      clear hQ1 hQ hq1l hql
      have hG0 : Below wr.heap.size wr wr.drew := (Below.refl _ _).drew
      refine wp_region_list 25 [(fun y_ _ => y_ = .string ⟨R.toArray⟩),
        (fun y_ _ => y_ = .int .i64 (N : Int)),
        (fun y_ _ => y_ = .pointer (some ⟨g2, N * 3, none⟩)),
        (fun y_ _ => y_ = .pointer (some ⟨g2, N * 3, none⟩)),
        (fun y_ _ => y_ = .pointer (some ⟨g2, N * 3, none⟩)),
        (fun y_ _ => y_ = .int .i64 (aa : Int)),
        (fun y_ _ => y_ = .int .u64 (aa : Int)),
        (fun y_ _ => y_ = .string ⟨(Pk.be aa 4).toArray⟩),
        (fun y_ _ => y_ = .int .i64 (N : Int)),
        (fun y_ _ => y_ = .pointer (some ⟨g2, N * 3, none⟩)),
        (fun y_ _ => y_ = .pointer (some ⟨g2, N * 3, none⟩)),
        (fun y_ _ => y_ = .pointer (some ⟨g2, N * 3 + 1, none⟩)),
        (fun y_ _ => y_ = .int .u32 (s : Int)),
        (fun y_ _ => y_ = .int .u64 (s : Int)),
        (fun y_ _ => y_ = .string ⟨(Pk.be s 4).toArray⟩),
        (fun y_ _ => y_ = .string ⟨Q1.toArray⟩),
        (fun y_ _ => y_ = .int .i64 (N : Int)),
        (fun y_ _ => y_ = .pointer (some ⟨g2, N * 3, none⟩)),
        (fun y_ _ => y_ = .pointer (some ⟨g2, N * 3 + 2, none⟩)),
        (fun y_ _ => y_ = .int .i64 (vv : Int)),
        (fun y_ _ => y_ = .int .u64 (vv : Int)),
        (fun y_ _ => y_ = .string ⟨(Pk.be vv 4).toArray⟩),
        (fun y_ _ => y_ = .string ⟨Q.toArray⟩),
        (fun y_ _ => y_ = .string ⟨(R ++ Q).toArray⟩),
        (fun y_ _ => y_ = .string ⟨(R ++ Q).toArray⟩)]
        (fun x => Below wr.heap.size wr x) (by kernel_rfl) rfl (by kernel_rfl) ?_ ?_ ?_ ?_
      · exact hG0
      · exact ⟨stab_eq _, stab_eq _, stab_eq _, stab_eq _, stab_eq _, stab_eq _, stab_eq _, stab_eq _, stab_eq _, stab_eq _, stab_eq _, stab_eq _, stab_eq _, stab_eq _, stab_eq _, stab_eq _, stab_eq _, stab_eq _, stab_eq _, stab_eq _, stab_eq _, stab_eq _, stab_eq _, stab_eq _, stab_eq _, trivial⟩
      · refine ⟨?_, ?_, ?_, ?_, ?_, ?_, ?_, ?_, ?_, ?_, ?_, ?_, ?_, ?_, ?_, ?_, ?_, ?_, ?_, ?_, ?_, ?_, ?_, ?_, ?_, trivial⟩
        · intro a x hG hd hs K hK
          have h5 : a.tmps.getD 5 undef = .string ⟨R.toArray⟩ := hs 5 (by kernel_rfl)
          clear hd hs
          refine wpOp_plain rfl rfl ?_
          go_simp
          exact hK _ _ rfl hG (Below.refl _ _)
        · intro a x hG hd hs K hK
          have h6 : a.tmps.getD 6 undef = .int .i64 (N : Int) := hs 6 (by kernel_rfl)
          clear hd hs
          refine wpOp_plain rfl rfl ?_
          go_simp
          exact hK _ _ rfl hG (Below.refl _ _)
        · intro a x hG hd hs K hK
          have h2 : a.tmps.getD 2 undef = .pointer (some ⟨g2, 0, none⟩) := hs 2 (by kernel_rfl)
          have h21 : a.tmps.getD 21 undef = .int .i64 (N : Int) := hd 1 21 (by kernel_rfl)
          clear hd hs
          refine wpOp_plain rfl rfl ?_
          go_simp
          exact hK _ _ rfl hG (Below.refl _ _)
        · intro a x hG hd hs K hK
          have h22 : a.tmps.getD 22 undef = .pointer (some ⟨g2, N * 3, none⟩) := hd 2 22 (by kernel_rfl)
          clear hd hs
          refine wpOp_plain rfl rfl ?_
          go_simp
          exact hK _ _ rfl hG (Below.refl _ _)
        · intro a x hG hd hs K hK
          have h23 : a.tmps.getD 23 undef = .pointer (some ⟨g2, N * 3, none⟩) := hd 3 23 (by kernel_rfl)
          clear hd hs
          refine wpOp_plain rfl rfl ?_
          go_simp
          exact hK _ _ rfl hG (Below.refl _ _)
        · intro a x hG hd hs K hK
          have h24 : a.tmps.getD 24 undef = .pointer (some ⟨g2, N * 3, none⟩) := hd 4 24 (by kernel_rfl)
          clear hd hs
          refine wpOp_plain rfl rfl ?_
          have q := (i1.ext hG).cell (N * 3)
          rw [HCN.out.1] at q
          go_simp
          exact hK _ _ rfl hG (Below.refl _ _)
        · intro a x hG hd hs K hK
          have h25 : a.tmps.getD 25 undef = .int .i64 (aa : Int) := hd 5 25 (by kernel_rfl)
          clear hd hs
          refine wpOp_plain rfl rfl ?_
          have hwr : IntKind.u64.wrap (aa : Int) = aa := IntWalk.u64_in _ (by omega)
          go_simp
          exact hK _ _ rfl hG (Below.refl _ _)
        · intro a x hG hd hs K hK
          have h26 : a.tmps.getD 26 undef = .int .u64 (aa : Int) := hd 6 26 (by kernel_rfl)
          clear hd hs
          refine wpOp_plain rfl rfl ?_
          go_simp
          refine (rof_eq aa 4 _ _ rfl rfl _ (by omega) (by omega)).mono ?_
          rintro e w' ⟨rfl, hb⟩
          exact hK _ _ rfl (hG.trans (hb.mono hG.size)) hb
        · intro a x hG hd hs K hK
          have h6 : a.tmps.getD 6 undef = .int .i64 (N : Int) := hs 6 (by kernel_rfl)
          clear hd hs
          refine wpOp_plain rfl rfl ?_
          go_simp
          exact hK _ _ rfl hG (Below.refl _ _)
        · intro a x hG hd hs K hK
          have h2 : a.tmps.getD 2 undef = .pointer (some ⟨g2, 0, none⟩) := hs 2 (by kernel_rfl)
          have h28 : a.tmps.getD 28 undef = .int .i64 (N : Int) := hd 8 28 (by kernel_rfl)
          clear hd hs
          refine wpOp_plain rfl rfl ?_
          go_simp
          exact hK _ _ rfl hG (Below.refl _ _)
        · intro a x hG hd hs K hK
          have h29 : a.tmps.getD 29 undef = .pointer (some ⟨g2, N * 3, none⟩) := hd 9 29 (by kernel_rfl)
          clear hd hs
          refine wpOp_plain rfl rfl ?_
          go_simp
          exact hK _ _ rfl hG (Below.refl _ _)
        · intro a x hG hd hs K hK
          have h30 : a.tmps.getD 30 undef = .pointer (some ⟨g2, N * 3, none⟩) := hd 10 30 (by kernel_rfl)
          clear hd hs
          refine wpOp_plain rfl rfl ?_
          go_simp
          exact hK _ _ rfl hG (Below.refl _ _)
        · intro a x hG hd hs K hK
          have h31 : a.tmps.getD 31 undef = .pointer (some ⟨g2, N * 3 + 1, none⟩) := hd 11 31 (by kernel_rfl)
          clear hd hs
          refine wpOp_plain rfl rfl ?_
          have q := (i1.ext hG).cell (N * 3 + 1)
          rw [HCN.out.2.1] at q
          go_simp
          exact hK _ _ rfl hG (Below.refl _ _)
        · intro a x hG hd hs K hK
          have h32 : a.tmps.getD 32 undef = .int .u32 (s : Int) := hd 12 32 (by kernel_rfl)
          clear hd hs
          refine wpOp_plain rfl rfl ?_
          have hwr : IntKind.u64.wrap (s : Int) = s := IntWalk.u64_in _ (by omega)
          go_simp
          exact hK _ _ rfl hG (Below.refl _ _)
        · intro a x hG hd hs K hK
          have h33 : a.tmps.getD 33 undef = .int .u64 (s : Int) := hd 13 33 (by kernel_rfl)
          clear hd hs
          refine wpOp_plain rfl rfl ?_
          go_simp
          refine (rof_eq s 4 _ _ rfl rfl _ (by omega) (by omega)).mono ?_
          rintro e w' ⟨rfl, hb⟩
          exact hK _ _ rfl (hG.trans (hb.mono hG.size)) hb
        · intro a x hG hd hs K hK
          have h27 : a.tmps.getD 27 undef = .string ⟨(Pk.be aa 4).toArray⟩ := hd 7 27 (by kernel_rfl)
          have h34 : a.tmps.getD 34 undef = .string ⟨(Pk.be s 4).toArray⟩ := hd 14 34 (by kernel_rfl)
          clear hd hs
          refine wpOp_plain rfl rfl ?_
          have hap := ba_append (Pk.be aa 4) (Pk.be s 4)
          rw [← HQ1.out] at hap
          go_simp
          exact hK _ _ rfl hG (Below.refl _ _)
        · intro a x hG hd hs K hK
          have h6 : a.tmps.getD 6 undef = .int .i64 (N : Int) := hs 6 (by kernel_rfl)
          clear hd hs
          refine wpOp_plain rfl rfl ?_
          go_simp
          exact hK _ _ rfl hG (Below.refl _ _)
        · intro a x hG hd hs K hK
          have h2 : a.tmps.getD 2 undef = .pointer (some ⟨g2, 0, none⟩) := hs 2 (by kernel_rfl)
          have h36 : a.tmps.getD 36 undef = .int .i64 (N : Int) := hd 16 36 (by kernel_rfl)
          clear hd hs
          refine wpOp_plain rfl rfl ?_
          go_simp
          exact hK _ _ rfl hG (Below.refl _ _)
        · intro a x hG hd hs K hK
          have h37 : a.tmps.getD 37 undef = .pointer (some ⟨g2, N * 3, none⟩) := hd 17 37 (by kernel_rfl)
          clear hd hs
          refine wpOp_plain rfl rfl ?_
          go_simp
          exact hK _ _ rfl hG (Below.refl _ _)
        · intro a x hG hd hs K hK
          have h38 : a.tmps.getD 38 undef = .pointer (some ⟨g2, N * 3 + 2, none⟩) := hd 18 38 (by kernel_rfl)
          clear hd hs
          refine wpOp_plain rfl rfl ?_
          have q := (i1.ext hG).cell (N * 3 + 2)
          rw [HCN.out.2.2] at q
          go_simp
          exact hK _ _ rfl hG (Below.refl _ _)
        · intro a x hG hd hs K hK
          have h39 : a.tmps.getD 39 undef = .int .i64 (vv : Int) := hd 19 39 (by kernel_rfl)
          clear hd hs
          refine wpOp_plain rfl rfl ?_
          have hwr : IntKind.u64.wrap (vv : Int) = vv := IntWalk.u64_in _ (by omega)
          go_simp
          exact hK _ _ rfl hG (Below.refl _ _)
        · intro a x hG hd hs K hK
          have h40 : a.tmps.getD 40 undef = .int .u64 (vv : Int) := hd 20 40 (by kernel_rfl)
          clear hd hs
          refine wpOp_plain rfl rfl ?_
          go_simp
          refine (rof_eq vv 4 _ _ rfl rfl _ (by omega) (by omega)).mono ?_
          rintro e w' ⟨rfl, hb⟩
          exact hK _ _ rfl (hG.trans (hb.mono hG.size)) hb
        · intro a x hG hd hs K hK
          have h35 : a.tmps.getD 35 undef = .string ⟨Q1.toArray⟩ := hd 15 35 (by kernel_rfl)
          have h41 : a.tmps.getD 41 undef = .string ⟨(Pk.be vv 4).toArray⟩ := hd 21 41 (by kernel_rfl)
          clear hd hs
          refine wpOp_plain rfl rfl ?_
          have hap := ba_append Q1 (Pk.be vv 4)
          rw [← HQ.out] at hap
          have hno : ¬ 9223372036854775807 < Q1.length + (Pk.be vv 4).length := by rw [HQL.out.1, Pk.length_be]; omega
          go_simp
          exact hK _ _ rfl hG (Below.refl _ _)
        · intro a x hG hd hs K hK
          have h20 : a.tmps.getD 20 undef = .string ⟨R.toArray⟩ := hd 0 20 (by kernel_rfl)
          have h42 : a.tmps.getD 42 undef = .string ⟨Q.toArray⟩ := hd 22 42 (by kernel_rfl)
          clear hd hs
          refine wpOp_plain rfl rfl ?_
          have hap := ba_append R Q
          have hno : ¬ 9223372036854775807 < R.length + Q.length := by rw [HQL.out.2]; omega
          obtain ⟨R3, hR3⟩ : ∃ R3, R3 = R ++ Q := ⟨_, rfl⟩
          rw [← hR3] at hap hK
          clear hR3
          go_simp
          exact hK _ _ rfl hG (Below.refl _ _)
        · intro a x hG hd hs K hK
          have h43 : a.tmps.getD 43 undef = .string ⟨(R ++ Q).toArray⟩ := hd 23 43 (by kernel_rfl)
          clear hd hs
          refine wpOp_plain rfl rfl ?_
          go_simp
          exact hK _ _ rfl hG (Below.refl _ _)
      · intro x hG
        rintro _ rfl _ rfl _ rfl _ rfl _ rfl _ rfl _ rfl _ rfl _ rfl _ rfl _ rfl _ rfl _ rfl _ rfl _ rfl _ rfl _ rfl _ rfl _ rfl _ rfl _ rfl _ rfl _ rfl _ rfl _ rfl
        simp only [Act.put, List.setIfInBounds_toArray, List.set_cons_zero, List.set_cons_succ, REnd]
        try simp only [Exit.then]
        replace i1 := i1.ext hG
        replace c2 := c2.trans (hG.mono c2.size)
        clear hG hG0
        generalize R ++ Q = R2 at *
        go_wp2
        go_roundw
        case rel => exact ⟨j + 1, by omega, by rw [show ((10 * k + (j + 1) : Nat) : Int) = (N : Int) + 1 by have := HN.out; omega], by rw [HS2.out], i1, c2⟩
        case measure => simp [intOf]; omega
    · obtain rfl : j = 10 := by omega
      have hN2 : ¬ (N : Int) < 10 * (k : Int) + 10 := by have := HN.out; omega
      have hln := HLN.out 10 (by omega)
      generalize encTo k (Im.blk m k) 10 = R at *
      go_wp2_with fail
      refine (rfill_any _ R (by omega)).mono ?_
      rintro e w3 ⟨rfl, rfl⟩
      rw [HT.out]
      go_wp2
      go_ret
      exact ⟨rfl, c2⟩
theorem str_same (l l' : List UInt8) : ((⟨l.toArray⟩ : ByteArray).toList == (⟨l'.toArray⟩ : ByteArray).toList) = decide (l = l') := by
  rw [ByteArray.toList_eq, ByteArray.toList_eq, Bool.eq_iff_iff]
  simp
theorem dec_len {m : List Sl} {n : Nat} {l : List UInt8} (h : Im.mayB m = true) (hk : n < 4) (hl : ¬ l.length = 128) : Im.decM m (n : Int) l = Im.zero ∧ Im.decE m (n : Int) l = 3 :=
  dec_bad h hk (by unfold Im.rdOk; rw [decide_eq_false hl]; rfl)
set_option maxRecDepth 100000 in
set_option maxHeartbeats 8000000 in
theorem rdecodeI_any (m : List Sl) (k : Int) (w : World) (l : List UInt8) (hgd : Im.Good m) (hll : l.length ≤ 1000000) :
    Calls Try.prog 21 #[magg m, .int .i64 k, .string ⟨l.toArray⟩] w (MapR (Im.decM m k l) (Im.decE m k l) w) := by
  have HG := Lib.hid hgd
  have HM := Lib.hid hgd.1
  clear hgd
  unfold magg
  have hzv := zeroIM
  go_enter Try.func21, Try.ntmps21
  go_upto_region 1 with (fail)
  have i0 := Blk.new w 28 (mcells m).toArray
  have c0 := (Below.refl w.heap.size w).alloc (Nat.le_refl _) (.cells (mcells m).toArray 28)
  change Blk _ _ _ (mcells m) at i0
  have hs0 : (w.alloc (.cells (mcells m).toArray 28)).heap.size = w.heap.size + 1 := World.size_alloc _ _
  generalize w.alloc (.cells (mcells m).toArray 28) = w0 at *
  obtain ⟨g0, hg0⟩ : ∃ g, g = w.heap.size := ⟨_, rfl⟩
  rw [← hg0] at i0 hs0 ⊢
  generalize hW : w0.alloc (.cells _ 28) = w1
  have kr : Blk w1 w0.heap.size 28 (mcells Im.zero) := by rw [← hW]; exact Blk.new w0 _ _
  have km : Blk w1 g0 28 (mcells m) := by rw [← hW]; exact i0.alloc _
  have c2 : Below w.heap.size w w1 := by rw [← hW]; exact c0.alloc c0.size _
  rw [hs0] at kr
  obtain ⟨gr, hgr'⟩ : ∃ g, g = g0 + 1 := ⟨_, rfl⟩
  rw [← hgr'] at kr ⊢
  have hgr : w.heap.size ≤ gr := by omega
  have hne : g0 ≠ gr := by omega
  have hg00 : w.heap.size ≤ g0 := by omega
  clear hW i0 c0 hs0 hgr' hg0 hzv
  have hr := km.range
  go_wp2_with (refine wpList_load_at 28 (.tmp 3) rfl rfl g0 0 rfl (mcells m) _ hr Try.underlying28 rfl (infoM _ HM.out) ?_)
  refine (rmayM_any m _ HM.out).mono ?_
  rintro e w4 ⟨rfl, b4⟩
  replace km := km.ext b4
  replace kr := kr.ext b4
  have c4 := c2.trans (b4.mono c2.size)
  clear hr c2 b4
  cases hmy : Im.mayB m with
  | false =>
    have HD := Lib.hid (dec_may (k := k) (l := l) hmy)
    clear hmy
    have hzv := zeroIM
    go_wp2_with (refine wpList_store_mid rfl 28 (.tmp 6) (.tmp 13) rfl gr 0 (mcells Im.zero).toArray rfl rfl (kr.there 0 _ (by rw [List.size_toArray, mcells_len]; decide)) (infoM _ rfl) (all_oneCell_toArray mcells_one) ?_)
    have hz := kr.setCells (mcells Im.zero) 0 (by rw [mcells_len]; decide)
    rw [spl_all _ _ rfl] at hz
    have bz := below_setCells (o := 0) (vs := mcells Im.zero) c4 hgr
    refine bodyPost_ret (v := .tuple #[magg Im.zero, .int .i64 1]) (res_cell2 (mcells Im.zero) _ Try.results21 rfl hz.range Try.underlying28 rfl (infoM _ rfl) rfl) rfl ?_
    exact MapR.mk HD.out.1 HD.out.2 rfl bz
  | true =>
    have HMY := Lib.hid hmy
    clear hmy
    by_cases hk0 : ¬ 0 ≤ k
    · have HD := Lib.hid (dec_far (k := k) (l := l) HMY.out (by unfold Im.kB; exact decide_eq_false (fun q => hk0 q.1)))
      have hzv := zeroIM
      go_wp2_with (refine wpList_store_mid rfl 28 (.tmp 6) (.tmp 20) rfl gr 0 (mcells Im.zero).toArray rfl rfl (kr.there 0 _ (by rw [List.size_toArray, mcells_len]; decide)) (infoM _ rfl) (all_oneCell_toArray mcells_one) ?_)
      have hz := kr.setCells (mcells Im.zero) 0 (by rw [mcells_len]; decide)
      rw [spl_all _ _ rfl] at hz
      have bz := below_setCells (o := 0) (vs := mcells Im.zero) c4 hgr
      refine bodyPost_ret (v := .tuple #[magg Im.zero, .int .i64 4]) (res_cell2 (mcells Im.zero) _ Try.results21 rfl hz.range Try.underlying28 rfl (infoM _ rfl) rfl) rfl ?_
      exact MapR.mk HD.out.1 HD.out.2 rfl bz
    · replace hk0 := Decidable.not_not.1 hk0
      by_cases hk1 : ¬ k ≤ 3
      · have HD := Lib.hid (dec_far (k := k) (l := l) HMY.out (by unfold Im.kB; exact decide_eq_false (fun q => hk1 (by omega))))
        have hzv := zeroIM
        go_wp2_with (refine wpList_store_mid rfl 28 (.tmp 6) (.tmp 20) rfl gr 0 (mcells Im.zero).toArray rfl rfl (kr.there 0 _ (by rw [List.size_toArray, mcells_len]; decide)) (infoM _ rfl) (all_oneCell_toArray mcells_one) ?_)
        have hz := kr.setCells (mcells Im.zero) 0 (by rw [mcells_len]; decide)
        rw [spl_all _ _ rfl] at hz
        have bz := below_setCells (o := 0) (vs := mcells Im.zero) c4 hgr
        refine bodyPost_ret (v := .tuple #[magg Im.zero, .int .i64 4]) (res_cell2 (mcells Im.zero) _ Try.results21 rfl hz.range Try.underlying28 rfl (infoM _ rfl) rfl) rfl ?_
        exact MapR.mk HD.out.1 HD.out.2 rfl bz
      · replace hk1 := Decidable.not_not.1 hk1
        obtain ⟨n, rfl⟩ := Int.eq_ofNat_of_zero_le hk0
        have hn : n < 4 := by omega
        by_cases hl : ¬ l.length = 128
        · have hl3 : ((l.length : Int) != 128) = true := by rw [bne_iff_ne]; omega
          have HD := Lib.hid (dec_len HMY.out hn hl)
          clear hl
          have hzv := zeroIM
          go_wp2_with (refine wpList_store_mid rfl 28 (.tmp 6) (.tmp 24) rfl gr 0 (mcells Im.zero).toArray rfl rfl (kr.there 0 _ (by rw [List.size_toArray, mcells_len]; decide)) (infoM _ rfl) (all_oneCell_toArray mcells_one) ?_)
          have hz := kr.setCells (mcells Im.zero) 0 (by rw [mcells_len]; decide)
          rw [spl_all _ _ rfl] at hz
          have bz := below_setCells (o := 0) (vs := mcells Im.zero) c4 hgr
          refine bodyPost_ret (v := .tuple #[magg Im.zero, .int .i64 3]) (res_cell2 (mcells Im.zero) _ Try.results21 rfl hz.range Try.underlying28 rfl (infoM _ rfl) rfl) rfl ?_
          exact MapR.mk HD.out.1 HD.out.2 rfl bz
        · replace hl := Decidable.not_not.1 hl
          have hl3 : ((l.length : Int) != 128) = false := by rw [bne_eq_false_iff_eq]; omega
          have HL := Lib.hid hl
          have HDD := Lib.hid (Im.dec_doc HM.out n hn HMY.out l)
          have HBL := Lib.hid (Im.bk_len l)
          have HBV := Lib.hid (fun j (h : j < 10) => show (Im.bkOf l).getD j Sl.zero = Im.slAt (l.drop 5) j by unfold Im.bkOf Im.slsOf; simp [List.getD, h])
          clear hl
          go_wp2
          go_loopw [8] (fun i wr => ∃ j : Nat, j ≤ 10 ∧ i = .int .i64 j ∧ Blk wr g0 28 (mcells (setTo m n (Im.bkOf l) j)) ∧ Blk wr gr 28 (mcells Im.zero) ∧ Below w.heap.size w wr) (fun i _ => 10 - (intOf i).toNat)
          case atStart => exact ⟨0, by omega, rfl, by rw [setTo_zero]; exact km, kr, c4⟩
          case round =>
            obtain ⟨j, hj, rfl, lm, lr, lc⟩ := hrel
            clear km kr c4
            by_cases hlt : j < 10
            · have hbv := HBV.out j hlt
              unfold Im.slAt at hbv
              rw [List.drop_drop, List.drop_drop, List.drop_drop] at hbv
              have HS := Lib.hid (show spl (mcells (setTo m n (Im.bkOf l) j)) (3 * (10 * n + j)) (scells ((Im.bkOf l).getD j Sl.zero)) = mcells (setTo m n (Im.bkOf l) (j + 1)) by rw [mcells_set _ _ _ (by rw [setTo_len HM.out hn HBL.out hj]; omega), setTo_succ HM.out hn HBL.out hlt])
              have HTL := Lib.hid (show (mcells (setTo m n (Im.bkOf l) j)).length = 120 by rw [mcells_len, setTo_len HM.out hn HBL.out hj])
              rw [hbv] at HS
              have e1 : 5 + 12 * j + 4 = 5 + (12 * j + 4) := by omega
              have e2 : 5 + 12 * j + 8 = 5 + (12 * j + 8) := by omega
              have hv1 : Pk.val ((l.drop (5 + 12 * j)).take 4) < 4294967296 := Nd.val_lt_of _ 4
              have hv2 : Pk.val ((l.drop (5 + (12 * j + 4))).take 4) < 4294967296 := Nd.val_lt_of _ 4
              have hv3 : Pk.val ((l.drop (5 + (12 * j + 8))).take 4) < 4294967296 := Nd.val_lt_of _ 4
              have hG1 := Lib.hid (fun W => rget_eq W l (5 + 12 * j) 4 (5 + 12 * (j : Int)) 4 (by omega) rfl (by rw [HL.out]; omega) (by omega) (by omega))
              have hG2 := Lib.hid (fun W => rget_eq W l (5 + (12 * j + 4)) 4 (5 + 12 * (j : Int) + 4) 4 (by omega) rfl (by rw [HL.out]; omega) (by omega) (by omega))
              have hG3 := Lib.hid (fun W => rget_eq W l (5 + (12 * j + 8)) 4 (5 + 12 * (j : Int) + 8) 4 (by omega) rfl (by rw [HL.out]; omega) (by omega) (by omega))
              generalize Pk.val ((l.drop (5 + 12 * j)).take 4) = VA at *
              generalize Pk.val ((l.drop (5 + (12 * j + 4))).take 4) = VS at *
              generalize Pk.val ((l.drop (5 + (12 * j + 8))).take 4) = VV at *
              clear hbv e1 e2
              have f0 : (0 : Int) ≤ 10 * (n : Int) + (j : Int) := by omega
              have f1 : 10 * (n : Int) + (j : Int) < 40 := by omega
              have f2 : (10 * (n : Int) + (j : Int)).toNat = 10 * n + j := by omega
              go_wp2_with fail
              refine (hG1.out _).mono ?_
              rintro e w5 ⟨rfl, rfl⟩
              go_wp2_with fail
              refine (hG2.out _).mono ?_
              rintro e w6 ⟨rfl, rfl⟩
              go_wp2_with fail
              refine (hG3.out _).mono ?_
              rintro e w7 ⟨rfl, rfl⟩
              clear hG1 hG2 hG3
              go_upto_region 9 with (refine wpList_store_mid rfl 26 (.tmp 52) (.tmp 51) rfl g0 ((10 * n + j) * 3) #[.int .i64 (VA : Int), .int .u32 (VS : Int), .int .i64 (VV : Int)] rfl rfl (lm.there _ 3 (by rw [HTL.out]; omega)) (by kernel_rfl) (by simp [Value.oneCell']) ?_)
              have hz := lm.setCells (scells ⟨(VA : Int), VS, (VV : Int)⟩) ((10 * n + j) * 3) (by rw [HTL.out]; show (10 * n + j) * 3 + 3 ≤ 120; omega)
              rw [Nat.mul_comm (10 * n + j) 3, HS.out] at hz
              have zr := lr.grown (grown_setCells (g := g0) (scells ⟨(VA : Int), VS, (VV : Int)⟩) wr (3 * (10 * n + j))) (fun e => by injection e with e; exact hne e.symm)
              have zc := below_setCells (o := 3 * (10 * n + j)) (vs := scells ⟨(VA : Int), VS, (VV : Int)⟩) lc hg00
              rw [Nat.mul_comm (10 * n + j) 3]
              change Blk (wr.setCells g0 (3 * (10 * n + j)) [.int .i64 (VA : Int), .int .u32 (VS : Int), .int .i64 (VV : Int)]) _ _ _ at hz
              change Blk (wr.setCells g0 (3 * (10 * n + j)) [.int .i64 (VA : Int), .int .u32 (VS : Int), .int .i64 (VV : Int)]) _ _ _ at zr
              change Below _ _ (wr.setCells g0 (3 * (10 * n + j)) [.int .i64 (VA : Int), .int .u32 (VS : Int), .int .i64 (VV : Int)]) at zc
              generalize wr.setCells g0 (3 * (10 * n + j)) _ = w8 at *
              clear lm lr lc f0 f1 f2
              go_wp2
              go_roundw
              case rel => exact ⟨j + 1, by omega, by go_num, hz, zr, zc⟩
              case measure => simp [intOf]; omega
            · obtain rfl : j = 10 := by omega
              rw [setTo_ten _ _ HBL.out] at lm
              have HZL := Lib.hid (Im.setBlk_len HM.out HBL.out hn)
              have HZG := Lib.hid (Im.good_setBlk HG.out HBL.out (Im.sl_lt _ _) hn)
              have HGD := Lib.hid (fun h => dec_good (l := l) HMY.out hn h)
              have HBD := Lib.hid (fun h => dec_bad (l := l) HMY.out hn h)
              have km := lm
              have kr := lr
              have c4 := lc
              rw [show (((10 : Nat)) : Int) = 10 from rfl]
              clear lm lr lc
              generalize Im.setBlk m n (Im.bkOf l) = Z at *
              have hr := km.range
              go_wp2_with (refine wpList_load_at 28 (.tmp 3) rfl rfl g0 0 rfl (mcells Z) _ hr Try.underlying28 rfl (infoM _ HZL.out) ?_)
              clear hr
              refine (rmayM_any Z _ HZL.out).mono ?_
              rintro e w5 ⟨rfl, b5⟩
              replace km := km.ext b5
              replace kr := kr.ext b5
              replace c4 := c4.trans (b5.mono c4.size)
              clear b5
              cases hmz : Im.mayB Z with
              | false =>
                have HD := Lib.hid (HBD.out (by
                  cases hq : Im.rdOk n l with
                  | false => rfl
                  | true => have := (HDD.out.1 hq).2.1; rw [hmz] at this; cases this))
                clear hmz
                have hzv := zeroIM
                go_wp2_with (refine wpList_store_mid rfl 28 (.tmp 6) (.tmp 63) rfl gr 0 (mcells Im.zero).toArray rfl rfl (kr.there 0 _ (by rw [List.size_toArray, mcells_len]; decide)) (infoM _ rfl) (all_oneCell_toArray mcells_one) ?_)
                have hz := kr.setCells (mcells Im.zero) 0 (by rw [mcells_len]; decide)
                rw [spl_all _ _ rfl] at hz
                have bz := below_setCells (o := 0) (vs := mcells Im.zero) c4 hgr
                refine bodyPost_ret (v := .tuple #[magg Im.zero, .int .i64 3]) (res_cell2 (mcells Im.zero) _ Try.results21 rfl hz.range Try.underlying28 rfl (infoM _ rfl) rfl) rfl ?_
                exact MapR.mk HD.out.1 HD.out.2 rfl bz
              | true =>
                have HMZ := Lib.hid hmz
                clear hmz
                have hr := km.range
                go_wp2_with (refine wpList_load_at 28 (.tmp 3) rfl rfl g0 0 rfl (mcells Z) _ hr Try.underlying28 rfl (infoM _ HZL.out) ?_)
                clear hr
                refine (rencodeI_any Z n _ HZG.out HMZ.out hn).mono ?_
                rintro e w6 ⟨rfl, b6⟩
                replace km := km.ext b6
                replace kr := kr.ext b6
                replace c4 := c4.trans (b6.mono c4.size)
                clear b6
                have hse := str_same (Im.imE Z n) l
                have HDE := Lib.hid (show (Im.rdOk n l = true ↔ Im.imE Z n = l) from ⟨fun h => (HDD.out.1 h).2.2, fun h => HDD.out.2 ⟨HL.out, HMZ.out, h⟩⟩)
                by_cases hd : Im.imE Z n = l
                · rw [decide_eq_true hd] at hse
                  have HD := Lib.hid (HGD.out (HDE.out.2 hd))
                  clear hd
                  generalize (⟨(Im.imE Z n).toArray⟩ : ByteArray) = S1 at *
                  generalize (⟨l.toArray⟩ : ByteArray) = S2 at *
                  have HIN := Lib.hid (infoM Z HZL.out)
                  have hr := km.range
                  go_wp2_with (first | refine wpList_load_at 28 (.tmp 3) rfl rfl g0 0 rfl (mcells Z) _ hr Try.underlying28 rfl HIN.out ?_ | refine wpList_store_mid rfl 28 (.tmp 6) (.tmp 64) rfl gr 0 (mcells Z).toArray rfl rfl (kr.there 0 _ (by rw [List.size_toArray, mcells_len, mcells_len, HZL.out]; decide)) HIN.out (all_oneCell_toArray mcells_one) ?_)
                  have hz := kr.setCells (mcells Z) 0 (by rw [mcells_len, mcells_len, HZL.out]; decide)
                  rw [spl_all _ _ (by rw [mcells_len, mcells_len, HZL.out]; rfl)] at hz
                  have bz := below_setCells (o := 0) (vs := mcells Z) c4 hgr
                  refine bodyPost_ret (v := .tuple #[magg Z, .int .i64 0]) (res_cell2 (mcells Z) _ Try.results21 rfl hz.range Try.underlying28 rfl HIN.out rfl) rfl ?_
                  exact MapR.mk HD.out.1 HD.out.2 rfl bz
                · rw [decide_eq_false hd] at hse
                  have HD := Lib.hid (HBD.out (by
                    cases hq : Im.rdOk n l with
                    | false => rfl
                    | true => exact absurd (HDE.out.1 hq) hd))
                  clear hd
                  generalize (⟨(Im.imE Z n).toArray⟩ : ByteArray) = S1 at *
                  generalize (⟨l.toArray⟩ : ByteArray) = S2 at *
                  have hzv := zeroIM
                  go_wp2_with (refine wpList_store_mid rfl 28 (.tmp 6) (.tmp 63) rfl gr 0 (mcells Im.zero).toArray rfl rfl (kr.there 0 _ (by rw [List.size_toArray, mcells_len]; decide)) (infoM _ rfl) (all_oneCell_toArray mcells_one) ?_)
                  have hz := kr.setCells (mcells Im.zero) 0 (by rw [mcells_len]; decide)
                  rw [spl_all _ _ rfl] at hz
                  have bz := below_setCells (o := 0) (vs := mcells Im.zero) c4 hgr
                  refine bodyPost_ret (v := .tuple #[magg Im.zero, .int .i64 3]) (res_cell2 (mcells Im.zero) _ Try.results21 rfl hz.range Try.underlying28 rfl (infoM _ rfl) rfl) rfl ?_
                  exact MapR.mk HD.out.1 HD.out.2 rfl bz
end Go.Proofs.Ytpgibmffgliibaa
