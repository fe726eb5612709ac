/-
  The reference of chapter 10: Encode. By an AI agent.
-/
import Derived.Test.YtahkhieoabbaaaaEntE
namespace Go.Proofs.Ytahkhieoabbaaaa
open Go.RowKit Go.ChangeShapes Go.WideShapes Go.ChangeAt
open Et (E)

theorem ofN_lt (n : Nat) (h : n < 256) : (UInt8.ofNat n).toNat = n := Nat.mod_eq_of_lt h

set_option maxRecDepth 100000 in
set_option maxHeartbeats 4000000 in
theorem encR_any (v : Value) (l : List E) (w : World) (hl : Ents w w.heap.size v l) (hm : Et.mayB l = true) :
    Calls Try.prog 22 #[v] w fun e w' => e = .returned (.string ⟨(Et.enc l).toArray⟩) ∧ Below w.heap.size w w' := by
  obtain ⟨A, c, rfl, hlc, hcm, hE⟩ := hl.open_
  have HE := Lib.hid hE
  have hmi := (Et.may_iff l).1 hm
  have h30 := hmi.1
  have HOK := Lib.hid (fun k (hk : k < l.length) => show Et.okB (Et.at_ l k) = true by rw [Et.at_get l k hk]; exact hmi.2.1 _ (List.getElem_mem hk))
  have HSH := Lib.hid (show ∀ k, k ≤ l.length → (Et.enc (l.take k)).length ≤ 27 * k from fun k => by
    induction k with
    | zero => intro _; exact Nat.zero_le _
    | succ k ih =>
      intro hk
      have := ih (by omega)
      rw [Et.enc_take_succ l k (by omega), List.length_append]
      have h2 := (Et.ok_parts (HOK.out k (by omega))).1.2
      show _ + ((Et.at_ l k).n.length + 1 + 1 + 1) ≤ _
      omega)
  clear hmi hE hl hm
  go_enter Try.func22, Try.ntmps22
  go_wp2
  go_loopw [3, 4] (fun y i wr => ∃ k : Nat, k ≤ l.length ∧ i = .int .i64 k ∧ y = .string ⟨(Et.enc (l.take k)).toArray⟩ ∧ Below w.heap.size w wr) (fun _ i _ => l.length - (intOf i).toNat)
  case atStart => exact ⟨0, Nat.zero_le _, rfl, rfl, Below.refl _ _⟩
  case round =>
    obtain ⟨k, hk, rfl, rfl, hbr⟩ := hrel
    by_cases hlt : k < l.length
    · obtain ⟨b, off, rfl, hbB, h0, h1, h2⟩ := (HE.out.below hbr) k hlt
      have hok := HOK.out k hlt
      have hen := Et.enc_take_succ l k hlt
      have hsh := HSH.out k hk
      generalize Et.at_ l k = y at *
      obtain ⟨⟨hn1, hn2⟩, hi1, hi2, ht⟩ := Et.ok_parts hok
      obtain ⟨yn, yi, yt⟩ := y
      dsimp only at h0 h1 h2 hn1 hn2 hi1 hi2 ht
      obtain ⟨yi, rfl⟩ := Int.eq_ofNat_of_zero_le (by omega : 0 ≤ yi)
      obtain ⟨yt, rfl⟩ := Int.eq_ofNat_of_zero_le (by omega : 0 ≤ yt)
      have hbl : b < wr.heap.size := Nat.lt_of_lt_of_le hbB hbr.size
      obtain ⟨L3, hL3⟩ : ∃ L3, [UInt8.ofNat ((yi : Int)).toNat, UInt8.ofNat ((yt : Int)).toNat, UInt8.ofNat yn.length] = L3 := ⟨_, rfl⟩
      have HL3 : Hid (L3.length = 3) := Lib.hid (by rw [← hL3]; rfl)
      have HEE : Hid (Et.enc (l.take (k + 1)) = Et.enc (l.take k) ++ (L3 ++ yn)) := Lib.hid (by rw [hen, ← hL3]; rfl)
      have HLM : Hid ([Value.int .u8 (yi : Int), .int .u8 (yt : Int), .int .u8 (yn.length : Int)] = L3.map fun c => Value.int .u8 (c.toNat : Int)) := Lib.hid (by
        rw [← hL3]
        simp only [List.map_cons, List.map_nil, Int.toNat_natCast]
        rw [ofN_lt yi (by omega), ofN_lt yt (by omega), ofN_lt yn.length (by omega)])
      clear hen hok hL3
      generalize Et.enc (l.take k) = acc at *
      have HLL : Hid ((L3 ++ yn).length = yn.length + 3) := Lib.hid (by rw [List.length_append, HL3.out]; omega)
      have HC1 := Lib.hid (ba_append L3 yn)
      have HC2 := Lib.hid (ba_append acc (L3 ++ yn))
      generalize L3 ++ yn = LY at *
      have hsz := ba_size yn
      go_upto_region 5 with fail
      have hG0 : Below wr.heap.size wr wr.drew := (Below.refl _ _).drew
      refine wp_region_list 30 [(fun y_ _ => y_ = .string ⟨acc.toArray⟩),
        (fun y_ _ => y_ = .slice (some ⟨b, off, none⟩) l.length c),
        (fun y_ _ => y_ = .int .i64 (k : Int)),
        (fun y_ _ => y_ = .pointer (some ⟨b, off + k * 3, none⟩)),
        (fun y_ _ => y_ = .pointer (some ⟨b, off + k * 3 + 1, none⟩)),
        (fun y_ _ => y_ = .int .i64 (yi : Int)),
        (fun y_ _ => y_ = .int .u8 (yi : Int)),
        (fun y_ _ => y_ = .slice (some ⟨b, off, none⟩) l.length c),
        (fun y_ _ => y_ = .int .i64 (k : Int)),
        (fun y_ _ => y_ = .pointer (some ⟨b, off + k * 3, none⟩)),
        (fun y_ _ => y_ = .pointer (some ⟨b, off + k * 3 + 2, none⟩)),
        (fun y_ _ => y_ = .int .i64 (yt : Int)),
        (fun y_ _ => y_ = .int .u8 (yt : Int)),
        (fun y_ _ => y_ = .slice (some ⟨b, off, none⟩) l.length c),
        (fun y_ _ => y_ = .int .i64 (k : Int)),
        (fun y_ _ => y_ = .pointer (some ⟨b, off + k * 3, none⟩)),
        (fun y_ _ => y_ = .pointer (some ⟨b, off + k * 3, none⟩)),
        (fun y_ _ => y_ = .string ⟨yn.toArray⟩),
        (fun y_ _ => y_ = .int .i64 (yn.length : Int)),
        (fun y_ _ => y_ = .int .u8 (yn.length : Int)),
        (fun u q => ∃ A c B, u = .slice A 3 c ∧ Bs q B (.slice A 3 c) L3 ∧ B ≤ q.heap.size),
        (fun y_ _ => y_ = .string ⟨L3.toArray⟩),
        (fun y_ _ => y_ = .slice (some ⟨b, off, none⟩) l.length c),
        (fun y_ _ => y_ = .int .i64 (k : Int)),
        (fun y_ _ => y_ = .pointer (some ⟨b, off + k * 3, none⟩)),
        (fun y_ _ => y_ = .pointer (some ⟨b, off + k * 3, none⟩)),
        (fun y_ _ => y_ = .string ⟨yn.toArray⟩),
        (fun y_ _ => y_ = .string ⟨LY.toArray⟩),
        (fun y_ _ => y_ = .string ⟨(acc ++ LY).toArray⟩),
        (fun y_ _ => y_ = .string ⟨(acc ++ LY).toArray⟩)]
        (fun q => Below wr.heap.size wr q) (by kernel_rfl) rfl (by kernel_rfl) ?_ ?_ ?_ ?_
      · exact hG0
      · exact ⟨stab_eq _, stab_eq _, stab_eq _, stab_eq _, stab_eq _, stab_eq _, stab_eq _, stab_eq _, stab_eq _, stab_eq _, stab_eq _, stab_eq _, stab_eq _, stab_eq _, stab_eq _, stab_eq _, stab_eq _, stab_eq _, stab_eq _, stab_eq _, fun _ _ _ ⟨A, c, B, h1, h2, h3⟩ hb => ⟨A, c, B, h1, h2.ext h3 hb, Nat.le_trans h3 hb.size⟩, stab_eq _, stab_eq _, stab_eq _, stab_eq _, stab_eq _, stab_eq _, stab_eq _, stab_eq _, stab_eq _, trivial⟩
      · refine ⟨?_, ?_, ?_, ?_, ?_, ?_, ?_, ?_, ?_, ?_, ?_, ?_, ?_, ?_, ?_, ?_, ?_, ?_, ?_, ?_, ?_, ?_, ?_, ?_, ?_, ?_, ?_, ?_, ?_, ?_, trivial⟩
        · intro a x hG hd hs K hK
          have h3 : a.tmps.getD 3 undef = .string ⟨acc.toArray⟩ := hs 3 (by kernel_rfl)
          clear hd hs
          refine wpOp_plain rfl rfl ?_
          go_simp
          exact hK _ _ rfl hG (Below.refl _ _)
        · intro a x hG hd hs K hK
          have h0 : a.tmps.getD 0 undef = .slice (some ⟨b, off, none⟩) l.length c := hs 0 (by kernel_rfl)
          clear hd hs
          refine wpOp_plain rfl rfl ?_
          go_simp
          exact hK _ _ rfl hG (Below.refl _ _)
        · intro a x hG hd hs K hK
          have h4 : a.tmps.getD 4 undef = .int .i64 (k : Int) := hs 4 (by kernel_rfl)
          clear hd hs
          refine wpOp_plain rfl rfl ?_
          go_simp
          exact hK _ _ rfl hG (Below.refl _ _)
        · intro a x hG hd hs K hK
          have h12 : a.tmps.getD 12 undef = .slice (some ⟨b, off, none⟩) l.length c := hd 1 12 (by kernel_rfl)
          have h13 : a.tmps.getD 13 undef = .int .i64 (k : Int) := hd 2 13 (by kernel_rfl)
          clear hd hs
          refine wpOp_plain rfl rfl ?_
          go_simp
          exact hK _ _ rfl hG (Below.refl _ _)
        · intro a x hG hd hs K hK
          have h14 : a.tmps.getD 14 undef = .pointer (some ⟨b, off + k * 3, none⟩) := hd 3 14 (by kernel_rfl)
          clear hd hs
          refine wpOp_plain rfl rfl ?_
          go_simp
          exact hK _ _ rfl hG (Below.refl _ _)
        · intro a x hG hd hs K hK
          have h15 : a.tmps.getD 15 undef = .pointer (some ⟨b, off + k * 3 + 1, none⟩) := hd 4 15 (by kernel_rfl)
          clear hd hs
          refine wpOp_plain rfl rfl ?_
          have hc := (hG.cell (p := ⟨b, off + k * 3 + 1, none⟩) hbl).trans h1
          go_simp
          exact hK _ _ rfl hG (Below.refl _ _)
        · intro a x hG hd hs K hK
          have h16 : a.tmps.getD 16 undef = .int .i64 (yi : Int) := hd 5 16 (by kernel_rfl)
          clear hd hs
          refine wpOp_plain rfl rfl ?_
          have hwr : IntKind.u8.wrap (yi : Int) = (yi : Int) := IntWalk.u8_in _ (by omega)
          go_simp
          exact hK _ _ rfl hG (Below.refl _ _)
        · intro a x hG hd hs K hK
          have h0 : a.tmps.getD 0 undef = .slice (some ⟨b, off, none⟩) l.length c := hs 0 (by kernel_rfl)
          clear hd hs
          refine wpOp_plain rfl rfl ?_
          go_simp
          exact hK _ _ rfl hG (Below.refl _ _)
        · intro a x hG hd hs K hK
          have h4 : a.tmps.getD 4 undef = .int .i64 (k : Int) := hs 4 (by kernel_rfl)
          clear hd hs
          refine wpOp_plain rfl rfl ?_
          go_simp
          exact hK _ _ rfl hG (Below.refl _ _)
        · intro a x hG hd hs K hK
          have h18 : a.tmps.getD 18 undef = .slice (some ⟨b, off, none⟩) l.length c := hd 7 18 (by kernel_rfl)
          have h19 : a.tmps.getD 19 undef = .int .i64 (k : Int) := hd 8 19 (by kernel_rfl)
          clear hd hs
          refine wpOp_plain rfl rfl ?_
          go_simp
          exact hK _ _ rfl hG (Below.refl _ _)
        · intro a x hG hd hs K hK
          have h20 : a.tmps.getD 20 undef = .pointer (some ⟨b, off + k * 3, none⟩) := hd 9 20 (by kernel_rfl)
          clear hd hs
          refine wpOp_plain rfl rfl ?_
          go_simp
          exact hK _ _ rfl hG (Below.refl _ _)
        · intro a x hG hd hs K hK
          have h21 : a.tmps.getD 21 undef = .pointer (some ⟨b, off + k * 3 + 2, none⟩) := hd 10 21 (by kernel_rfl)
          clear hd hs
          refine wpOp_plain rfl rfl ?_
          have hc := (hG.cell (p := ⟨b, off + k * 3 + 2, none⟩) hbl).trans h2
          go_simp
          exact hK _ _ rfl hG (Below.refl _ _)
        · intro a x hG hd hs K hK
          have h22 : a.tmps.getD 22 undef = .int .i64 (yt : Int) := hd 11 22 (by kernel_rfl)
          clear hd hs
          refine wpOp_plain rfl rfl ?_
          have hwr : IntKind.u8.wrap (yt : Int) = (yt : Int) := IntWalk.u8_in _ (by omega)
          go_simp
          exact hK _ _ rfl hG (Below.refl _ _)
        · intro a x hG hd hs K hK
          have h0 : a.tmps.getD 0 undef = .slice (some ⟨b, off, none⟩) l.length c := hs 0 (by kernel_rfl)
          clear hd hs
          refine wpOp_plain rfl rfl ?_
          go_simp
          exact hK _ _ rfl hG (Below.refl _ _)
        · intro a x hG hd hs K hK
          have h4 : a.tmps.getD 4 undef = .int .i64 (k : Int) := hs 4 (by kernel_rfl)
          clear hd hs
          refine wpOp_plain rfl rfl ?_
          go_simp
          exact hK _ _ rfl hG (Below.refl _ _)
        · intro a x hG hd hs K hK
          have h24 : a.tmps.getD 24 undef = .slice (some ⟨b, off, none⟩) l.length c := hd 13 24 (by kernel_rfl)
          have h25 : a.tmps.getD 25 undef = .int .i64 (k : Int) := hd 14 25 (by kernel_rfl)
          clear hd hs
          refine wpOp_plain rfl rfl ?_
          go_simp
          exact hK _ _ rfl hG (Below.refl _ _)
        · intro a x hG hd hs K hK
          have h26 : a.tmps.getD 26 undef = .pointer (some ⟨b, off + k * 3, none⟩) := hd 15 26 (by kernel_rfl)
          clear hd hs
          refine wpOp_plain rfl rfl ?_
          go_simp
          exact hK _ _ rfl hG (Below.refl _ _)
        · intro a x hG hd hs K hK
          have h27 : a.tmps.getD 27 undef = .pointer (some ⟨b, off + k * 3, none⟩) := hd 16 27 (by kernel_rfl)
          clear hd hs
          refine wpOp_plain rfl rfl ?_
          have hc := (hG.cell (p := ⟨b, off + k * 3, none⟩) hbl).trans h0
          go_simp
          exact hK _ _ rfl hG (Below.refl _ _)
        · intro a x hG hd hs K hK
          have h28 : a.tmps.getD 28 undef = .string ⟨yn.toArray⟩ := hd 17 28 (by kernel_rfl)
          clear hd hs
          refine wpOp_plain rfl rfl ?_
          go_simp
          exact hK _ _ rfl hG (Below.refl _ _)
        · intro a x hG hd hs K hK
          have h29 : a.tmps.getD 29 undef = .int .i64 (yn.length : Int) := hd 18 29 (by kernel_rfl)
          clear hd hs
          refine wpOp_plain rfl rfl ?_
          have hwr : IntKind.u8.wrap (yn.length : Int) = (yn.length : Int) := IntWalk.u8_in _ (by omega)
          go_simp
          exact hK _ _ rfl hG (Below.refl _ _)
        · intro a x hG hd hs K hK
          have h17 : a.tmps.getD 17 undef = .int .u8 (yi : Int) := hd 6 17 (by kernel_rfl)
          have h17o := getD_opt h17
          have h23 : a.tmps.getD 23 undef = .int .u8 (yt : Int) := hd 12 23 (by kernel_rfl)
          have h23o := getD_opt h23
          have h30 : a.tmps.getD 30 undef = .int .u8 (yn.length : Int) := hd 19 30 (by kernel_rfl)
          have h30o := getD_opt h30
          clear hd hs
          refine wpOp_plain rfl rfl ?_
          have hl9 := Bs.lit x 5 #[.int .u8 (yi : Int), .int .u8 (yt : Int), .int .u8 (yn.length : Int)] L3 3 HLM.out HL3.out.symm (by simp [maxLen])
          go_simp
          exact hK _ _ ⟨_, _, _, rfl, hl9, by simp⟩ (hG.alloc hG.size _) ((Below.refl _ _).alloc (Nat.le_refl _) _)
        · intro a x hG hd hs K hK
          have h31 : (fun u q => ∃ A c B, u = .slice A 3 c ∧ Bs q B (.slice A 3 c) L3 ∧ B ≤ q.heap.size) (a.tmps.getD 31 undef) x := hd 20 31 (by kernel_rfl)
          clear hd hs
          refine wpOp_plain rfl rfl ?_
          obtain ⟨A9, c9, B9, h31, hb9, hB9⟩ := h31
          have cv := run_string_of (P := Try.prog) hb9 29 9 5 Try.underlying29 Try.underlying5 Try.underlying9
          go_simp
          exact hK _ _ rfl hG (Below.refl _ _)
        · intro a x hG hd hs K hK
          have h0 : a.tmps.getD 0 undef = .slice (some ⟨b, off, none⟩) l.length c := hs 0 (by kernel_rfl)
          clear hd hs
          refine wpOp_plain rfl rfl ?_
          go_simp
          exact hK _ _ rfl hG (Below.refl _ _)
        · intro a x hG hd hs K hK
          have h4 : a.tmps.getD 4 undef = .int .i64 (k : Int) := hs 4 (by kernel_rfl)
          clear hd hs
          refine wpOp_plain rfl rfl ?_
          go_simp
          exact hK _ _ rfl hG (Below.refl _ _)
        · intro a x hG hd hs K hK
          have h33 : a.tmps.getD 33 undef = .slice (some ⟨b, off, none⟩) l.length c := hd 22 33 (by kernel_rfl)
          have h34 : a.tmps.getD 34 undef = .int .i64 (k : Int) := hd 23 34 (by kernel_rfl)
          clear hd hs
          refine wpOp_plain rfl rfl ?_
          go_simp
          exact hK _ _ rfl hG (Below.refl _ _)
        · intro a x hG hd hs K hK
          have h35 : a.tmps.getD 35 undef = .pointer (some ⟨b, off + k * 3, none⟩) := hd 24 35 (by kernel_rfl)
          clear hd hs
          refine wpOp_plain rfl rfl ?_
          go_simp
          exact hK _ _ rfl hG (Below.refl _ _)
        · intro a x hG hd hs K hK
          have h36 : a.tmps.getD 36 undef = .pointer (some ⟨b, off + k * 3, none⟩) := hd 25 36 (by kernel_rfl)
          clear hd hs
          refine wpOp_plain rfl rfl ?_
          have hc := (hG.cell (p := ⟨b, off + k * 3, none⟩) hbl).trans h0
          go_simp
          exact hK _ _ rfl hG (Below.refl _ _)
        · intro a x hG hd hs K hK
          have h32 : a.tmps.getD 32 undef = .string ⟨L3.toArray⟩ := hd 21 32 (by kernel_rfl)
          have h37 : a.tmps.getD 37 undef = .string ⟨yn.toArray⟩ := hd 26 37 (by kernel_rfl)
          clear hd hs
          refine wpOp_plain rfl rfl ?_
          have hq := HC1.out
          have hno : ¬ 9223372036854775807 < L3.length + yn.length := by rw [HL3.out]; omega
          go_simp
          exact hK _ _ rfl hG (Below.refl _ _)
        · intro a x hG hd hs K hK
          have h11 : a.tmps.getD 11 undef = .string ⟨acc.toArray⟩ := hd 0 11 (by kernel_rfl)
          have h38 : a.tmps.getD 38 undef = .string ⟨LY.toArray⟩ := hd 27 38 (by kernel_rfl)
          clear hd hs
          refine wpOp_plain rfl rfl ?_
          have hq := HC2.out
          have hno : ¬ 9223372036854775807 < acc.length + LY.length := by rw [HLL.out]; omega
          go_simp
          exact hK _ _ rfl hG (Below.refl _ _)
        · intro a x hG hd hs K hK
          have h39 : a.tmps.getD 39 undef = .string ⟨(acc ++ LY).toArray⟩ := hd 28 39 (by kernel_rfl)
          clear hd hs
          refine wpOp_plain rfl rfl ?_
          go_simp
          exact hK _ _ rfl hG (Below.refl _ _)
      · intro x hG
        rintro _ rfl _ rfl _ rfl _ rfl _ rfl _ rfl _ rfl _ rfl _ rfl _ rfl _ rfl _ rfl _ rfl _ rfl _ rfl _ rfl _ rfl _ rfl _ rfl _ rfl v20 hv20 _ rfl _ rfl _ rfl _ rfl _ rfl _ rfl _ rfl _ rfl _ rfl
        simp only [Act.put, List.setIfInBounds_toArray, List.set_cons_zero, List.set_cons_succ, REnd]
        try simp only [Exit.then]
        have d2 := hbr.trans (hG.mono hbr.size)
        clear HC1 HC2 h0 h1 h2 hG hG0
        go_wp2
        go_roundw
        case rel => exact ⟨k + 1, by omega, by go_num, by rw [HEE.out], d2⟩
        case measure => simp [intOf]; omega
    · obtain rfl : k = l.length := by omega
      rw [List.take_length]
      go_wp2
      go_ret
      exact ⟨rfl, hbr⟩
end Go.Proofs.Ytahkhieoabbaaaa
