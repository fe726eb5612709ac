/-
  The walks of the document's answers of layer 13, second part: Decode, Choose. By an AI agent.
-/
import Derived.Test.YtkkbmhlmgbepjaaDoorCkR
namespace Go.Proofs.YtkkbmhlmgbepjaaDoor
open Go.RowKit Go.ChangeShapes Go.WideShapes Go.ChangeAt

theorem ck_mp_at (l : List UInt8) (k : Nat) (h : k < (Ck.ckOf l).mp.length) : (Ck.ckOf l).mp[k] = (((Pk.val ((l.drop (20 + 8 * k)).take 4) : Nat) : Int), Pk.val ((l.drop (24 + 8 * k)).take 4)) := by
  have hk : k < 4 := by have := (Ck.good_of l).1; omega
  apply Option.some.inj
  rw [← List.getElem?_eq_getElem h]
  show (Nd.ptrsOf (l.drop 20) 4)[k]? = _
  unfold Nd.ptrsOf
  rw [List.getElem?_map, List.getElem?_range hk]
  show some (Nd.ptrAt (l.drop 20) k) = _
  unfold Nd.ptrAt
  rw [List.drop_drop, List.drop_drop, show 20 + (8 * k + 4) = 24 + 8 * k by omega]
theorem ck_us_at (l : List UInt8) (k : Nat) (h : k < (Ck.ckOf l).us.length) : (Ck.ckOf l).us[k] = ((Pk.val ((l.drop (52 + 2 * k)).take 2) : Nat) : Int) := by
  have hk : k < 8 := by have := (Ck.good_of l).2.1; omega
  apply Option.some.inj
  rw [← List.getElem?_eq_getElem h]
  show (Ck.usOf (l.drop 52) 8)[k]? = _
  unfold Ck.usOf
  rw [List.getElem?_map, List.getElem?_range hk]
  show some (Ck.usAt (l.drop 52) k) = _
  unfold Ck.usAt
  rw [List.drop_drop]
set_option maxRecDepth 100000 in
set_option maxHeartbeats 4000000 in
theorem rdecodeC_any (w : World) (l : List UInt8) (hn : l.length ≤ 1000000) :
    Calls Tryd.prog 9 #[.string ⟨l.toArray⟩] w (DecC l w) := by
  have HD := Lib.hid (Ck.ck_doc l)
  go_enter Tryd.func9, Tryd.ntmps9
  go_upto_region 1 with (fail)
  generalize hW : w.alloc (.cells _ 28) = W0
  have hk0 : Blk W0 w.heap.size 28 (ccells Ck.Ck.zero) := by rw [← hW]; exact Blk.new w _ _
  have b0 : Below w.heap.size w W0 := by rw [← hW]; exact (Below.refl _ _).alloc (Nat.le_refl _) _
  clear hW
  obtain ⟨g0, hg0⟩ : ∃ g0, g0 = w.heap.size := ⟨_, rfl⟩
  rw [← hg0] at hk0 ⊢
  have hg1 : w.heap.size ≤ g0 := by omega
  have hg2 : g0 ≤ w.heap.size := by omega
  clear hg0
  go_wp2_with fail
  refine (rheld_any _ l (by omega)).mono ?_
  rintro e w1 ⟨rfl, b1⟩
  have k1 := hk0.ext b1
  have c1 := b0.trans (b1.mono b0.size)
  clear hk0 b1 b0
  cases hh : Crc.held l with
  | false =>
    rw [hh] at HD
    have HE := Lib.hid (show Ck.ckErr l = 5 from HD.out)
    clear hh HD
    go_wp2_with (refine wpList_store_mid rfl 28 (.tmp 2) (.tmp 10) rfl g0 0 (ccells Ck.Ck.zero).toArray rfl rfl (k1.there 0 19 (by rw [ccells_len _ rfl rfl]; omega)) (by kernel_rfl) (all_oneCell_toArray ccells_one) ?_)
    have hz := k1.setCells (ccells Ck.Ck.zero) 0 (by omega)
    rw [spl_all _ _ rfl] at hz
    have bz := below_setCells (o := 0) (vs := ccells Ck.Ck.zero) c1 hg1
    refine bodyPost_ret (v := .tuple #[cagg Ck.Ck.zero, .int .i64 5]) (res_cell2 (ccells Ck.Ck.zero) _ Tryd.results9 rfl hz.range Tryd.underlying28 rfl (infoC _ rfl rfl) rfl) rfl ?_
    exact DecC.no HE.out (by decide) rfl bz
  | true =>
    rw [hh, if_pos rfl] at HD
    have hlen := Cd.held_len hh
    have hl1 : 128 ≤ l.length := by omega
    have hl2 : l.length ≤ 128 := by omega
    clear hh hlen
    have v1 : Pk.val ((l.drop 4).take 6) < 281474976710656 := Nd.val_lt_of _ 6
    have v2 : Pk.val ((l.drop 10).take 6) < 281474976710656 := Nd.val_lt_of _ 6
    have v3 : Pk.val ((l.drop 16).take 4) < 4294967296 := Nd.val_lt_of _ 4
    have HC0 := Lib.hid (show Value.agg (ccells (ck0 (Ck.ckOf l))).toArray = .agg #[.int .i64 ((Pk.val ((l.drop 4).take 6) : Nat) : Int), .int .i64 ((Pk.val ((l.drop 10).take 6) : Nat) : Int), .int .i64 ((Pk.val ((l.drop 16).take 4) : Nat) : Int), .int .i64 0, .int .u32 0, .int .i64 0, .int .u32 0, .int .i64 0, .int .u32 0, .int .i64 0, .int .u32 0, .int .i64 0, .int .i64 0, .int .i64 0, .int .i64 0, .int .i64 0, .int .i64 0, .int .i64 0, .int .i64 0] from rfl)
    have HG1 := Lib.hid (fun W => rget_eq W l 4 6 4 6 rfl rfl (by omega) (by omega) (by omega))
    have HG2 := Lib.hid (fun W => rget_eq W l 10 6 10 6 rfl rfl (by omega) (by omega) (by omega))
    have HG3 := Lib.hid (fun W => rget_eq W l 16 4 16 4 rfl rfl (by omega) (by omega) (by omega))
    generalize Pk.val ((l.drop 4).take 6) = V1 at *
    generalize Pk.val ((l.drop 10).take 6) = V2 at *
    generalize Pk.val ((l.drop 16).take 4) = V3 at *
    go_wp2_with fail
    refine (HG1.out _).mono ?_
    rintro e w' ⟨rfl, rfl⟩
    go_wp2_with fail
    refine (HG2.out _).mono ?_
    rintro e w' ⟨rfl, rfl⟩
    go_wp2_with fail
    refine (HG3.out _).mono ?_
    rintro e w' ⟨rfl, rfl⟩
    clear HG1 HG2 HG3
    go_upto_region 4 with (refine wpList_store_new rfl 28 (.tmp 4) (.tmp 20) rfl (ccells (ck0 (Ck.ckOf l))) rfl (by exact HC0.out.symm) ?_ rfl (infoC _ rfl rfl) ccells_one ?_)
    · rw [ccells_len _ rfl rfl]; exact Nat.le_refl 19
    generalize hW : (w1.alloc (.cells _ 28)).setCells w1.heap.size 0 _ = w2
    have j2 : Blk w2 w1.heap.size 28 (ccells (ck0 (Ck.ckOf l))) := by rw [← hW]; exact Blk.varC rfl rfl rfl
    have b2 : Below w1.heap.size w1 w2 := by rw [← hW]; exact below_varC
    have k2 := k1.ext b2
    have c2 := c1.trans (b2.mono c1.size)
    have hne0 : g0 < w1.heap.size := k1.lt
    have hg4 : w.heap.size ≤ w1.heap.size := c1.size
    clear hW HC0 k1 c1 b2 v1 v2 v3
    generalize w1.heap.size = g4 at *
    have HLX := Lib.hid (Ck.good_of l)
    have HMA := Lib.hid (fun k h => ck_mp_at l k h)
    have HUA := Lib.hid (fun k h => ck_us_at l k h)
    have HSP := Lib.hid (ck0_spl (Ck.ckOf l) HLX.out.1 HLX.out.2.1)
    generalize hXX : Ck.ckOf l = X at *
    have HXX := Lib.hid hXX
    clear hXX
    go_wp2
    go_loopw [5] (fun i wr => ∃ k : Nat, k ≤ 4 ∧ i = .int .i64 k ∧ Blk wr g4 28 (spl (ccells (ck0 X)) 3 (pcells (X.mp.take k))) ∧ Blk wr g0 28 (ccells Ck.Ck.zero) ∧ Below w.heap.size w wr) (fun i _ => 4 - (intOf i).toNat)
    case atStart => exact ⟨0, by omega, rfl, by rw [List.take_zero, show pcells [] = [] from rfl, spl_nil]; exact j2, k2, c2⟩
    case round =>
      obtain ⟨k, hk, rfl, hkb, hkr, hbw⟩ := hrel
      clear j2 k2 c2
      by_cases hlt : k < 4
      · have hkl : k < X.mp.length := by rw [HLX.out.1]; exact hlt
        have HP := Lib.hid (HMA.out k hkl)
        have HPT := Lib.hid (show pcells (X.mp.take (k + 1)) = pcells (X.mp.take k) ++ [.int .i64 X.mp[k].1, .int .u32 (X.mp[k].2 : Int)] by rw [List.take_succ_eq_append_getElem hkl, pcells_app]; rfl)
        rw [HP.out] at HPT
        have HPL := Lib.hid (show (pcells (X.mp.take k)).length = k * 2 by rw [pcells_len, List.length_take, HLX.out.1]; omega)
        have hV0 : Pk.val ((l.drop (20 + 8 * k)).take 4) < 4294967296 := Nd.val_lt_of _ 4
        have hV1 : Pk.val ((l.drop (24 + 8 * k)).take 4) < 4294967296 := Nd.val_lt_of _ 4
        have HG0 := Lib.hid (fun W z hz => rget_eq W l (20 + 8 * k) 4 z 4 hz rfl (by omega) (by omega) (by omega))
        have HG1 := Lib.hid (fun W z hz => rget_eq W l (24 + 8 * k) 4 z 4 hz rfl (by omega) (by omega) (by omega))
        clear HP
        generalize Pk.val ((l.drop (20 + 8 * k)).take 4) = V0 at *
        generalize Pk.val ((l.drop (24 + 8 * k)).take 4) = V1 at *
        have i1 : (k : Int) < 4 := by omega
        go_wp2_with fail
        refine (HG0.out _ _ (by omega)).mono ?_
        rintro e w' ⟨rfl, rfl⟩
        go_wp2_with fail
        refine (HG1.out _ _ (by omega)).mono ?_
        rintro e w' ⟨rfl, rfl⟩
        clear HG0 HG1
        have hth : wr.there g4 (3 + k * 2) 2 := hkb.there _ 2 (by rw [spl_len _ _ _ (by rw [HPL.out, ccells_len _ rfl rfl]; omega), ccells_len _ rfl rfl]; omega)
        go_wp2_with (refine wpList_store_mid rfl 24 (.tmp 40) (.tmp 38) rfl g4 (3 + k * 2) #[.int .i64 (V0 : Int), .int .u32 (V1 : Int)] rfl rfl hth (by kernel_rfl) (by simp [Value.oneCell']) ?_)
        have hkb2 := hkb.put [.int .i64 (V0 : Int), .int .u32 (V1 : Int)] (by rw [HPL.out, ccells_len _ rfl rfl]; simp; omega) (o := 3 + k * 2) (by rw [HPL.out])
        have hkr2 := hkr.grown (grown_setCells [.int .i64 (V0 : Int), .int .u32 (V1 : Int)] wr (g := g4) (3 + k * 2)) (fun e => by injection e with e; omega)
        have hb2 := below_setCells hbw hg4 (3 + k * 2) [.int .i64 (V0 : Int), .int .u32 (V1 : Int)]
        go_roundw
        case rel => exact ⟨k + 1, by omega, by go_num, by rw [HPT.out]; exact hkb2, hkr2, hb2⟩
        case measure => simp [intOf]; omega
      · obtain rfl : k = 4 := by omega
        rw [List.take_of_length_le (by rw [HLX.out.1]; omega)] at hkb
        have HLB := Lib.hid (show (spl (ccells (ck0 X)) 3 (pcells X.mp)).length = 19 by rw [spl_len _ _ _ (by rw [pcells_len, HLX.out.1, ccells_len _ rfl rfl]; omega), ccells_len _ rfl rfl])
        generalize spl (ccells (ck0 X)) 3 (pcells X.mp) = cs at *
        obtain ⟨w4, hw4⟩ : ∃ w4, w4 = wr := ⟨_, rfl⟩
        rw [← hw4] at hkb hkr hbw ⊢
        clear hw4
        rw [show (((4 : Nat) : Int)) = 4 from rfl]
        go_wp2
        go_loopw [6] (fun i wr => ∃ k : Nat, k ≤ 8 ∧ i = .int .i64 k ∧ Blk wr g4 28 (spl cs 11 (ucells (X.us.take k))) ∧ Blk wr g0 28 (ccells Ck.Ck.zero) ∧ Below w.heap.size w wr) (fun i _ => 8 - (intOf i).toNat)
        case atStart => exact ⟨0, by omega, rfl, by rw [List.take_zero, show ucells [] = [] from rfl, spl_nil]; exact hkb, hkr, hbw⟩
        case round =>
          obtain ⟨k, hk, rfl, hkb2, hkr2, hbw2⟩ := hrel
          clear hkb hkr hbw
          by_cases hlt : k < 8
          · have hkl : k < X.us.length := by rw [HLX.out.2.1]; exact hlt
            have HP := Lib.hid (HUA.out k hkl)
            have HPT := Lib.hid (show ucells (X.us.take (k + 1)) = ucells (X.us.take k) ++ [.int .i64 X.us[k]] by unfold ucells; rw [List.take_succ_eq_append_getElem hkl, List.map_append]; rfl)
            rw [HP.out] at HPT
            have HPL := Lib.hid (show (ucells (X.us.take k)).length = k by rw [ucells_len, List.length_take, HLX.out.2.1]; omega)
            have hV0 : Pk.val ((l.drop (52 + 2 * k)).take 2) < 65536 := Nd.val_lt_of _ 2
            have HG0 := Lib.hid (fun W z hz => rget_eq W l (52 + 2 * k) 2 z 2 hz rfl (by omega) (by omega) (by omega))
            clear HP
            generalize Pk.val ((l.drop (52 + 2 * k)).take 2) = V0 at *
            have i1 : (k : Int) < 8 := by omega
            go_wp2_with fail
            refine (HG0.out _ _ (by omega)).mono ?_
            rintro e w' ⟨rfl, rfl⟩
            clear HG0
            have hll : (spl cs 11 (ucells (X.us.take k))).length = 19 := by rw [spl_len _ _ _ (by rw [HPL.out, HLB.out]; omega), HLB.out]
            have z2 := hkb2.cell (11 + k)
            rw [List.getElem?_eq_getElem (by omega)] at z2
            have z3 := hkb2.frozen (11 + k)
            generalize (spl cs 11 (ucells (X.us.take k)))[11 + k] = old at z2
            have hkb3 := hkb2.put [.int .i64 (V0 : Int)] (by rw [HPL.out, HLB.out]; simp; omega) (o := 11 + k) (by rw [HPL.out])
            rw [← HPT.out] at hkb3
            have hkr3 := hkr2.grown (grown_setCells [.int .i64 (V0 : Int)] wr (g := g4) (11 + k)) (fun e => by injection e with e; omega)
            have hb3 := below_setCells hbw2 hg4 (11 + k) [.int .i64 (V0 : Int)]
            have HF := Lib.hid (And.intro hkb3 (And.intro hkr3 hb3))
            clear hll hkb2 hkr2 hbw2 hkb3 hkr3 hb3
            go_wp2
            go_roundw
            case rel => exact ⟨k + 1, by omega, by go_num, HF.out.1, HF.out.2.1, HF.out.2.2⟩
            case measure => simp [intOf]; omega
          · obtain rfl : k = 8 := by omega
            rw [List.take_of_length_le (by rw [HLX.out.2.1]; omega), HSP.out] at hkb2
            have HLL := Lib.hid (And.intro HLX.out.1 HLX.out.2.1)
            have hrg := hkb2.range
            go_wp2_with (refine wpList_load_at 28 (.tmp 4) rfl rfl g4 0 rfl (ccells X) _ hrg Tryd.underlying28 rfl (infoC _ HLL.out.1 HLL.out.2) ?_)
            refine (rmayC_any X _ HLL.out.1 HLL.out.2).mono ?_
            rintro e w5 ⟨rfl, b5⟩
            have j5 := hkb2.ext b5
            have k5 := hkr2.ext b5
            have c5 := hbw2.trans (b5.mono hbw2.size)
            clear hkb2 hkr2 hbw2 b5 hrg
            cases hm : Ck.mayB X with
            | false =>
              have HE := Lib.hid (show Ck.ckErr l = 3 by rw [HD.out, hm]; simp)
              clear hm HD
              go_wp2_with (refine wpList_store_mid rfl 28 (.tmp 2) (.tmp 63) rfl g0 0 (ccells Ck.Ck.zero).toArray rfl rfl (k5.there 0 19 (by rw [ccells_len _ rfl rfl]; omega)) (by kernel_rfl) (all_oneCell_toArray ccells_one) ?_)
              have hz := k5.setCells (ccells Ck.Ck.zero) 0 (by omega)
              rw [spl_all _ _ rfl] at hz
              have bz := below_setCells (o := 0) (vs := ccells Ck.Ck.zero) c5 hg1
              refine bodyPost_ret (v := .tuple #[cagg Ck.Ck.zero, .int .i64 3]) (res_cell2 (ccells Ck.Ck.zero) _ Tryd.results9 rfl hz.range Tryd.underlying28 rfl (infoC _ rfl rfl) rfl) rfl ?_
              exact DecC.no HE.out (by decide) rfl bz
            | true =>
              rw [hm] at HD
              simp only [true_and] at HD
              have HM := Lib.hid hm
              clear hm
              have hrg := j5.range
              go_wp2_with (refine wpList_load_at 28 (.tmp 4) rfl rfl g4 0 rfl (ccells X) _ hrg Tryd.underlying28 rfl (infoC _ HLL.out.1 HLL.out.2) ?_)
              refine (rencodeC_any X _ HLX.out HM.out).mono ?_
              rintro e w6 ⟨rfl, b6⟩
              have j6 := j5.ext b6
              have k6 := k5.ext b6
              have c6 := c5.trans (b6.mono c5.size)
              have hse : ((⟨(Ck.ckE X).toArray⟩ : ByteArray).toList == (⟨l.toArray⟩ : ByteArray).toList) = (Ck.ckE X == l) := by rw [ByteArray.toList_eq, ByteArray.toList_eq]
              clear j5 k5 c5 b6 hrg
              by_cases he : Ck.ckE X = l
              · rw [show (Ck.ckE X == l) = true by rw [he]; simp] at hse
                rw [if_pos he] at HD
                clear he
                generalize (⟨(Ck.ckE X).toArray⟩ : ByteArray) = S1 at *
                generalize (⟨l.toArray⟩ : ByteArray) = S2 at *
                have HIN := Lib.hid (infoC X HLL.out.1 HLL.out.2)
                have HLZ := Lib.hid (show 0 + (ccells X).toArray.size ≤ (ccells Ck.Ck.zero).length by rw [List.size_toArray, ccells_len _ HLL.out.1 HLL.out.2, ccells_len _ rfl rfl]; omega)
                go_wp2_with (first | refine wpList_load_at 28 (.tmp 4) rfl rfl g4 0 rfl (ccells X) _ j6.range Tryd.underlying28 rfl HIN.out ?_ | refine wpList_store_mid rfl 28 (.tmp 2) (.tmp 64) rfl g0 0 (ccells X).toArray rfl rfl (k6.there 0 _ HLZ.out) HIN.out (all_oneCell_toArray ccells_one) ?_)
                have hz := k6.setCells (ccells X) 0 (by rw [ccells_len _ HLL.out.1 HLL.out.2, ccells_len _ rfl rfl]; omega)
                rw [spl_all _ _ (by rw [ccells_len _ HLL.out.1 HLL.out.2, ccells_len _ rfl rfl])] at hz
                have bz := below_setCells (o := 0) (vs := ccells X) c6 hg1
                refine bodyPost_ret (v := .tuple #[cagg X, .int .i64 0]) (res_cell2 (ccells X) _ Tryd.results9 rfl hz.range Tryd.underlying28 rfl HIN.out rfl) rfl ?_
                have hfin := DecC.yes HD.out bz
                rw [HXX.out] at hfin
                exact hfin
              · rw [show (Ck.ckE X == l) = false by rw [beq_eq_false_iff_ne]; exact he] at hse
                rw [if_neg he] at HD
                clear he
                generalize (⟨(Ck.ckE X).toArray⟩ : ByteArray) = S1 at *
                generalize (⟨l.toArray⟩ : ByteArray) = S2 at *
                go_wp2_with (refine wpList_store_mid rfl 28 (.tmp 2) (.tmp 63) rfl g0 0 (ccells Ck.Ck.zero).toArray rfl rfl (k6.there 0 19 (by rw [ccells_len _ rfl rfl]; omega)) (by kernel_rfl) (all_oneCell_toArray ccells_one) ?_)
                have hz := k6.setCells (ccells Ck.Ck.zero) 0 (by omega)
                rw [spl_all _ _ rfl] at hz
                have bz := below_setCells (o := 0) (vs := ccells Ck.Ck.zero) c6 hg1
                refine bodyPost_ret (v := .tuple #[cagg Ck.Ck.zero, .int .i64 3]) (res_cell2 (ccells Ck.Ck.zero) _ Tryd.results9 rfl hz.range Tryd.underlying28 rfl (infoC _ rfl rfl) rfl) rfl ?_
                exact DecC.no HD.out (by decide) rfl bz

def RChoR (a b : List UInt8) (w : World) (e : Ending) (w' : World) : Prop := e = .returned (.tuple #[cagg (chs a b 2), .bool (!decide ((chs a b 2).s = 0))]) ∧ Below w.heap.size w w'
theorem RChoR.of {a b : List UInt8} {w w' : World} {X : Ck.Ck} {r : Bool} (h : chs a b 2 = X) (hr : r = !decide (X.s = 0)) (hb : Below w.heap.size w w') : RChoR a b w (.returned (.tuple #[cagg X, .bool r])) w' := by
  unfold RChoR
  rw [h, hr]
  exact ⟨rfl, hb⟩
set_option maxRecDepth 100000 in
set_option maxHeartbeats 8000000 in
theorem rchooseC_any (w : World) (a b : List UInt8) (hna : a.length ≤ 1000000) (hnb : b.length ≤ 1000000) :
    Calls Tryd.prog 17 #[.string ⟨a.toArray⟩, .string ⟨b.toArray⟩] w (RChoR a b w) := by
  have HC := Lib.hid (show chs a b 2 = if Ck.ckErr b = 0 ∧ (dec b).s % 2 = 1 ∧ (chs1 a).s < (dec b).s then dec b else chs1 a from rfl)
  have HC1 := Lib.hid (show chs1 a = if Ck.ckErr a = 0 ∧ (dec a).s % 2 = 0 ∧ Ck.Ck.zero.s < (dec a).s then dec a else Ck.Ck.zero from rfl)
  have HLA := Lib.hid (dec_len a)
  have HLB := Lib.hid (dec_len b)
  have HMA := Lib.hid (fun h => dec_may (l := a) h)
  have HMB := Lib.hid (fun h => dec_may (l := b) h)
  have HRA := Lib.hid (fun W => rdecodeC_any W a hna)
  have HRB := Lib.hid (fun W => rdecodeC_any W b hnb)
  unfold DecC at HRA HRB
  generalize dec a = X at *
  generalize dec b = Y at *
  generalize Ck.ckErr a = E at *
  generalize Ck.ckErr b = G at *
  generalize (⟨a.toArray⟩ : ByteArray) = SA at *
  generalize (⟨b.toArray⟩ : ByteArray) = SB at *
  unfold cagg at HRA HRB
  go_enter Tryd.func17, Tryd.ntmps17
  go_upto_region 1 with (fail)
  generalize hW : w.alloc (.cells _ 28) = W0
  have hk0 : Blk W0 w.heap.size 28 (ccells Ck.Ck.zero) := by rw [← hW]; exact Blk.new w _ _
  have b0 : Below w.heap.size w W0 := by rw [← hW]; exact (Below.refl _ _).alloc (Nat.le_refl _) _
  clear hW
  obtain ⟨g0, hg0⟩ : ∃ g0, g0 = w.heap.size := ⟨_, rfl⟩
  rw [← hg0] at hk0 ⊢
  have hg1 : w.heap.size ≤ g0 := by omega
  have hg2 : g0 ≤ w.heap.size := by omega
  clear hg0
  go_wp2_with fail
  refine (HRA.out _).mono ?_
  rintro e w1 ⟨rfl, b1⟩
  have k1 := hk0.ext b1
  have c1 := b0.trans (b1.mono b0.size)
  clear hk0 b0 b1 HRA
  go_upto_region 2 with (with_reducible refine wpList_store_new rfl 28 (.tmp 6) (.tmp 15) rfl (ccells X) rfl rfl ?_ rfl (infoC _ HLA.out.1 HLA.out.2) ccells_one ?_)
  · rw [ccells_len _ HLA.out.1 HLA.out.2]; exact Nat.le_refl 19
  generalize hW : (w1.alloc (.cells _ 28)).setCells w1.heap.size 0 _ = w2
  have j2 : Blk w2 w1.heap.size 28 (ccells X) := by rw [← hW]; exact Blk.varC rfl HLA.out.1 HLA.out.2
  have b2 : Below w1.heap.size w1 w2 := by rw [← hW]; exact below_varC
  clear hW
  have k2 := k1.ext b2
  have c2 := c1.trans (b2.mono c1.size)
  generalize w1.heap.size = ga at *
  clear k1 c1 b2
  go_wp2_with fail
  refine (HRB.out _).mono ?_
  rintro e w3 ⟨rfl, b3⟩
  have k3 := k2.ext b3
  have j3 := j2.ext b3
  have c3 := c2.trans (b3.mono c2.size)
  clear k2 j2 c2 b3 HRB
  go_upto_region 3 with (with_reducible refine wpList_store_new rfl 28 (.tmp 8) (.tmp 20) rfl (ccells Y) rfl rfl ?_ rfl (infoC _ HLB.out.1 HLB.out.2) ccells_one ?_)
  · rw [ccells_len _ HLB.out.1 HLB.out.2]; exact Nat.le_refl 19
  generalize hW : (w3.alloc (.cells _ 28)).setCells w3.heap.size 0 _ = w4
  have i4 : Blk w4 w3.heap.size 28 (ccells Y) := by rw [← hW]; exact Blk.varC rfl HLB.out.1 HLB.out.2
  have b4 : Below w3.heap.size w3 w4 := by rw [← hW]; exact below_varC
  clear hW
  have k4 := k3.ext b4
  have j4 := j3.ext b4
  have c4 := c3.trans (b4.mono c3.size)
  generalize w3.heap.size = gb at *
  clear k3 j3 c3 b4
  have x0 := j4.cell 0
  have y0 := i4.cell 0
  unfold ccells at x0 y0
  simp only [List.getElem?_cons_zero] at x0 y0
  by_cases hE : E = 0
  rotate_left
  · have hE' : ((E : Int) == 0) = false := by rw [beq_eq_false_iff_ne]; omega
    have HN1 := Lib.hid (show chs1 a = Ck.Ck.zero by rw [HC1.out, if_neg (fun h => hE h.1)])
    clear hE
    by_cases hG : G = 0
    rotate_left
    · have hG' : ((G : Int) == 0) = false := by rw [beq_eq_false_iff_ne]; omega
      have HGN := Lib.hid hG
      have HOD := Lib.hid (show ¬ (G = 0 ∧ Y.s % 2 = 1) from fun h => HGN.out h.1)
      clear hG
      have HS := Lib.hid (show chs a b 2 = Ck.Ck.zero by rw [HC.out, HN1.out, if_neg (fun h => HOD.out ⟨h.1, h.2.1⟩)])
      go_wp2_with (refine wpList_store_mid rfl 28 (.tmp 4) (.tmp 59) rfl g0 0 (ccells Ck.Ck.zero).toArray rfl rfl (k4.there 0 19 (by rw [ccells_len _ rfl rfl]; omega)) (by kernel_rfl) (all_oneCell_toArray ccells_one) ?_)
      have hz := k4.setCells (ccells Ck.Ck.zero) 0 (by omega)
      rw [spl_all _ _ rfl] at hz
      have bz := below_setCells (o := 0) (vs := ccells Ck.Ck.zero) c4 hg1
      refine bodyPost_ret (v := .tuple #[cagg Ck.Ck.zero, .bool false]) (res_cell2 (ccells Ck.Ck.zero) _ Tryd.results17 rfl hz.range Tryd.underlying28 rfl (infoC _ rfl rfl) rfl) rfl ?_
      exact RChoR.of HS.out rfl bz
    have hmb := HMB.out hG
    have q1 : 1 ≤ Y.s := hmb.2.1
    have q2 : Y.s ≤ 281474976710655 := hmb.2.2.1
    have hG' : ((G : Int) == 0) = true := by rw [beq_iff_eq]; omega
    clear hmb
    by_cases hO : Y.s % 2 = 1
    rotate_left
    · have hO' : (Y.s % 2 == 1) = false := by rw [beq_eq_false_iff_ne]; exact hO
      have HOD := Lib.hid (show ¬ (G = 0 ∧ Y.s % 2 = 1) from fun h => hO h.2)
      clear hO hG
      have HS := Lib.hid (show chs a b 2 = Ck.Ck.zero by rw [HC.out, HN1.out, if_neg (fun h => HOD.out ⟨h.1, h.2.1⟩)])
      go_wp2_with (refine wpList_store_mid rfl 28 (.tmp 4) (.tmp 59) rfl g0 0 (ccells Ck.Ck.zero).toArray rfl rfl (k4.there 0 19 (by rw [ccells_len _ rfl rfl]; omega)) (by kernel_rfl) (all_oneCell_toArray ccells_one) ?_)
      have hz := k4.setCells (ccells Ck.Ck.zero) 0 (by omega)
      rw [spl_all _ _ rfl] at hz
      have bz := below_setCells (o := 0) (vs := ccells Ck.Ck.zero) c4 hg1
      refine bodyPost_ret (v := .tuple #[cagg Ck.Ck.zero, .bool false]) (res_cell2 (ccells Ck.Ck.zero) _ Tryd.results17 rfl hz.range Tryd.underlying28 rfl (infoC _ rfl rfl) rfl) rfl ?_
      exact RChoR.of HS.out rfl bz
    have hO' : (Y.s % 2 == 1) = true := by rw [beq_iff_eq]; exact hO
    have HOY := Lib.hid (And.intro hG hO)
    clear hO hG
    have HS := Lib.hid (show chs a b 2 = Y by rw [HC.out, HN1.out, if_pos ⟨HOY.out.1, HOY.out.2, by show (0 : Int) < _; omega⟩])
    have HIN := Lib.hid (infoC Y HLB.out.1 HLB.out.2)
    have HLZ := Lib.hid (show 0 + (ccells Y).toArray.size ≤ (ccells Ck.Ck.zero).length by rw [List.size_toArray, ccells_len _ HLB.out.1 HLB.out.2, ccells_len _ rfl rfl]; omega)
    go_wp2_with (first | refine wpList_load_at 28 (.tmp 8) rfl rfl gb 0 rfl (ccells Y) _ i4.range Tryd.underlying28 rfl HIN.out ?_ | refine wpList_store_mid rfl 28 (.tmp 4) (.tmp 58) rfl g0 0 (ccells Y).toArray rfl rfl (k4.there 0 _ HLZ.out) HIN.out (all_oneCell_toArray ccells_one) ?_)
    have hz := k4.setCells (ccells Y) 0 (by rw [ccells_len _ HLB.out.1 HLB.out.2, ccells_len _ rfl rfl]; omega)
    rw [spl_all _ _ (by rw [ccells_len _ HLB.out.1 HLB.out.2, ccells_len _ rfl rfl])] at hz
    have bz := below_setCells (o := 0) (vs := ccells Y) c4 hg1
    refine bodyPost_ret (v := .tuple #[cagg Y, .bool true]) (res_cell2 (ccells Y) _ Tryd.results17 rfl hz.range Tryd.underlying28 rfl HIN.out rfl) rfl ?_
    refine RChoR.of HS.out ?_ bz
    rw [decide_eq_false (by omega)]
    rfl
  have hma := HMA.out hE
  have p1 : 1 ≤ X.s := hma.2.1
  have p2 : X.s ≤ 281474976710655 := hma.2.2.1
  have hE' : ((E : Int) == 0) = true := by rw [beq_iff_eq]; omega
  clear hma
  by_cases hV : X.s % 2 = 0
  rotate_left
  · have hV' : (X.s % 2 == 0) = false := by rw [beq_eq_false_iff_ne]; exact hV
    have HN1 := Lib.hid (show chs1 a = Ck.Ck.zero by rw [HC1.out, if_neg (fun h => hV h.2.1)])
    clear hV hE
    by_cases hG : G = 0
    rotate_left
    · have hG' : ((G : Int) == 0) = false := by rw [beq_eq_false_iff_ne]; omega
      have HGN := Lib.hid hG
      have HOD := Lib.hid (show ¬ (G = 0 ∧ Y.s % 2 = 1) from fun h => HGN.out h.1)
      clear hG
      have HS := Lib.hid (show chs a b 2 = Ck.Ck.zero by rw [HC.out, HN1.out, if_neg (fun h => HOD.out ⟨h.1, h.2.1⟩)])
      go_wp2_with (refine wpList_store_mid rfl 28 (.tmp 4) (.tmp 59) rfl g0 0 (ccells Ck.Ck.zero).toArray rfl rfl (k4.there 0 19 (by rw [ccells_len _ rfl rfl]; omega)) (by kernel_rfl) (all_oneCell_toArray ccells_one) ?_)
      have hz := k4.setCells (ccells Ck.Ck.zero) 0 (by omega)
      rw [spl_all _ _ rfl] at hz
      have bz := below_setCells (o := 0) (vs := ccells Ck.Ck.zero) c4 hg1
      refine bodyPost_ret (v := .tuple #[cagg Ck.Ck.zero, .bool false]) (res_cell2 (ccells Ck.Ck.zero) _ Tryd.results17 rfl hz.range Tryd.underlying28 rfl (infoC _ rfl rfl) rfl) rfl ?_
      exact RChoR.of HS.out rfl bz
    have hmb := HMB.out hG
    have q1 : 1 ≤ Y.s := hmb.2.1
    have q2 : Y.s ≤ 281474976710655 := hmb.2.2.1
    have hG' : ((G : Int) == 0) = true := by rw [beq_iff_eq]; omega
    clear hmb
    by_cases hO : Y.s % 2 = 1
    rotate_left
    · have hO' : (Y.s % 2 == 1) = false := by rw [beq_eq_false_iff_ne]; exact hO
      have HOD := Lib.hid (show ¬ (G = 0 ∧ Y.s % 2 = 1) from fun h => hO h.2)
      clear hO hG
      have HS := Lib.hid (show chs a b 2 = Ck.Ck.zero by rw [HC.out, HN1.out, if_neg (fun h => HOD.out ⟨h.1, h.2.1⟩)])
      go_wp2_with (refine wpList_store_mid rfl 28 (.tmp 4) (.tmp 59) rfl g0 0 (ccells Ck.Ck.zero).toArray rfl rfl (k4.there 0 19 (by rw [ccells_len _ rfl rfl]; omega)) (by kernel_rfl) (all_oneCell_toArray ccells_one) ?_)
      have hz := k4.setCells (ccells Ck.Ck.zero) 0 (by omega)
      rw [spl_all _ _ rfl] at hz
      have bz := below_setCells (o := 0) (vs := ccells Ck.Ck.zero) c4 hg1
      refine bodyPost_ret (v := .tuple #[cagg Ck.Ck.zero, .bool false]) (res_cell2 (ccells Ck.Ck.zero) _ Tryd.results17 rfl hz.range Tryd.underlying28 rfl (infoC _ rfl rfl) rfl) rfl ?_
      exact RChoR.of HS.out rfl bz
    have hO' : (Y.s % 2 == 1) = true := by rw [beq_iff_eq]; exact hO
    have HOY := Lib.hid (And.intro hG hO)
    clear hO hG
    have HS := Lib.hid (show chs a b 2 = Y by rw [HC.out, HN1.out, if_pos ⟨HOY.out.1, HOY.out.2, by show (0 : Int) < _; omega⟩])
    have HIN := Lib.hid (infoC Y HLB.out.1 HLB.out.2)
    have HLZ := Lib.hid (show 0 + (ccells Y).toArray.size ≤ (ccells Ck.Ck.zero).length by rw [List.size_toArray, ccells_len _ HLB.out.1 HLB.out.2, ccells_len _ rfl rfl]; omega)
    go_wp2_with (first | refine wpList_load_at 28 (.tmp 8) rfl rfl gb 0 rfl (ccells Y) _ i4.range Tryd.underlying28 rfl HIN.out ?_ | refine wpList_store_mid rfl 28 (.tmp 4) (.tmp 58) rfl g0 0 (ccells Y).toArray rfl rfl (k4.there 0 _ HLZ.out) HIN.out (all_oneCell_toArray ccells_one) ?_)
    have hz := k4.setCells (ccells Y) 0 (by rw [ccells_len _ HLB.out.1 HLB.out.2, ccells_len _ rfl rfl]; omega)
    rw [spl_all _ _ (by rw [ccells_len _ HLB.out.1 HLB.out.2, ccells_len _ rfl rfl])] at hz
    have bz := below_setCells (o := 0) (vs := ccells Y) c4 hg1
    refine bodyPost_ret (v := .tuple #[cagg Y, .bool true]) (res_cell2 (ccells Y) _ Tryd.results17 rfl hz.range Tryd.underlying28 rfl HIN.out rfl) rfl ?_
    refine RChoR.of HS.out ?_ bz
    rw [decide_eq_false (by omega)]
    rfl
  have hV' : (X.s % 2 == 0) = true := by rw [beq_iff_eq]; exact hV
  have HN1 := Lib.hid (show chs1 a = X by rw [HC1.out, if_pos ⟨hE, hV, by show (0 : Int) < _; omega⟩])
  have HEX := Lib.hid hV
  clear hV hE
  by_cases hG : G = 0
  rotate_left
  · have hG' : ((G : Int) == 0) = false := by rw [beq_eq_false_iff_ne]; omega
    have HGN := Lib.hid hG
    have HOD := Lib.hid (show ¬ (G = 0 ∧ Y.s % 2 = 1) from fun h => HGN.out h.1)
    clear hG
    have HS := Lib.hid (show chs a b 2 = X by rw [HC.out, HN1.out, if_neg (fun h => HOD.out ⟨h.1, h.2.1⟩)])
    have HIN := Lib.hid (infoC X HLA.out.1 HLA.out.2)
    have HLZ := Lib.hid (show 0 + (ccells X).toArray.size ≤ (ccells Ck.Ck.zero).length by rw [List.size_toArray, ccells_len _ HLA.out.1 HLA.out.2, ccells_len _ rfl rfl]; omega)
    go_wp2_with (first | refine wpList_load_at 28 (.tmp 6) rfl rfl ga 0 rfl (ccells X) _ j4.range Tryd.underlying28 rfl HIN.out ?_ | refine wpList_store_mid rfl 28 (.tmp 4) (.tmp 56) rfl g0 0 (ccells X).toArray rfl rfl (k4.there 0 _ HLZ.out) HIN.out (all_oneCell_toArray ccells_one) ?_)
    have hz := k4.setCells (ccells X) 0 (by rw [ccells_len _ HLA.out.1 HLA.out.2, ccells_len _ rfl rfl]; omega)
    rw [spl_all _ _ (by rw [ccells_len _ HLA.out.1 HLA.out.2, ccells_len _ rfl rfl])] at hz
    have bz := below_setCells (o := 0) (vs := ccells X) c4 hg1
    refine bodyPost_ret (v := .tuple #[cagg X, .bool true]) (res_cell2 (ccells X) _ Tryd.results17 rfl hz.range Tryd.underlying28 rfl HIN.out rfl) rfl ?_
    refine RChoR.of HS.out ?_ bz
    rw [decide_eq_false (by omega)]
    rfl
  have hmb := HMB.out hG
  have q1 : 1 ≤ Y.s := hmb.2.1
  have q2 : Y.s ≤ 281474976710655 := hmb.2.2.1
  have hG' : ((G : Int) == 0) = true := by rw [beq_iff_eq]; omega
  clear hmb
  by_cases hO : Y.s % 2 = 1
  rotate_left
  · have hO' : (Y.s % 2 == 1) = false := by rw [beq_eq_false_iff_ne]; exact hO
    have HOD := Lib.hid (show ¬ (G = 0 ∧ Y.s % 2 = 1) from fun h => hO h.2)
    clear hO hG
    have HS := Lib.hid (show chs a b 2 = X by rw [HC.out, HN1.out, if_neg (fun h => HOD.out ⟨h.1, h.2.1⟩)])
    have HIN := Lib.hid (infoC X HLA.out.1 HLA.out.2)
    have HLZ := Lib.hid (show 0 + (ccells X).toArray.size ≤ (ccells Ck.Ck.zero).length by rw [List.size_toArray, ccells_len _ HLA.out.1 HLA.out.2, ccells_len _ rfl rfl]; omega)
    go_wp2_with (first | refine wpList_load_at 28 (.tmp 6) rfl rfl ga 0 rfl (ccells X) _ j4.range Tryd.underlying28 rfl HIN.out ?_ | refine wpList_store_mid rfl 28 (.tmp 4) (.tmp 56) rfl g0 0 (ccells X).toArray rfl rfl (k4.there 0 _ HLZ.out) HIN.out (all_oneCell_toArray ccells_one) ?_)
    have hz := k4.setCells (ccells X) 0 (by rw [ccells_len _ HLA.out.1 HLA.out.2, ccells_len _ rfl rfl]; omega)
    rw [spl_all _ _ (by rw [ccells_len _ HLA.out.1 HLA.out.2, ccells_len _ rfl rfl])] at hz
    have bz := below_setCells (o := 0) (vs := ccells X) c4 hg1
    refine bodyPost_ret (v := .tuple #[cagg X, .bool true]) (res_cell2 (ccells X) _ Tryd.results17 rfl hz.range Tryd.underlying28 rfl HIN.out rfl) rfl ?_
    refine RChoR.of HS.out ?_ bz
    rw [decide_eq_false (by omega)]
    rfl
  have hO' : (Y.s % 2 == 1) = true := by rw [beq_iff_eq]; exact hO
  have HOY := Lib.hid (And.intro hG hO)
  clear hO hG
  have HPR := Lib.hid (show X.s ≠ Y.s by have := HEX.out; have := HOY.out.2; omega)
  by_cases hcmp : Y.s < X.s
  · have HS := Lib.hid (show chs a b 2 = X by rw [HC.out, HN1.out, if_neg (fun h => by have := h.2.2; omega)])
    have HIN := Lib.hid (infoC X HLA.out.1 HLA.out.2)
    have HLZ := Lib.hid (show 0 + (ccells X).toArray.size ≤ (ccells Ck.Ck.zero).length by rw [List.size_toArray, ccells_len _ HLA.out.1 HLA.out.2, ccells_len _ rfl rfl]; omega)
    go_wp2_with (first | refine wpList_load_at 28 (.tmp 6) rfl rfl ga 0 rfl (ccells X) _ j4.range Tryd.underlying28 rfl HIN.out ?_ | refine wpList_store_mid rfl 28 (.tmp 4) (.tmp 56) rfl g0 0 (ccells X).toArray rfl rfl (k4.there 0 _ HLZ.out) HIN.out (all_oneCell_toArray ccells_one) ?_)
    have hz := k4.setCells (ccells X) 0 (by rw [ccells_len _ HLA.out.1 HLA.out.2, ccells_len _ rfl rfl]; omega)
    rw [spl_all _ _ (by rw [ccells_len _ HLA.out.1 HLA.out.2, ccells_len _ rfl rfl])] at hz
    have bz := below_setCells (o := 0) (vs := ccells X) c4 hg1
    refine bodyPost_ret (v := .tuple #[cagg X, .bool true]) (res_cell2 (ccells X) _ Tryd.results17 rfl hz.range Tryd.underlying28 rfl HIN.out rfl) rfl ?_
    refine RChoR.of HS.out ?_ bz
    rw [decide_eq_false (by omega)]
    rfl
  · have HS := Lib.hid (show chs a b 2 = Y by rw [HC.out, HN1.out, if_pos ⟨HOY.out.1, HOY.out.2, by have := HPR.out; omega⟩])
    have HIN := Lib.hid (infoC Y HLB.out.1 HLB.out.2)
    have HLZ := Lib.hid (show 0 + (ccells Y).toArray.size ≤ (ccells Ck.Ck.zero).length by rw [List.size_toArray, ccells_len _ HLB.out.1 HLB.out.2, ccells_len _ rfl rfl]; omega)
    go_wp2_with (first | refine wpList_load_at 28 (.tmp 8) rfl rfl gb 0 rfl (ccells Y) _ i4.range Tryd.underlying28 rfl HIN.out ?_ | refine wpList_store_mid rfl 28 (.tmp 4) (.tmp 58) rfl g0 0 (ccells Y).toArray rfl rfl (k4.there 0 _ HLZ.out) HIN.out (all_oneCell_toArray ccells_one) ?_)
    have hz := k4.setCells (ccells Y) 0 (by rw [ccells_len _ HLB.out.1 HLB.out.2, ccells_len _ rfl rfl]; omega)
    rw [spl_all _ _ (by rw [ccells_len _ HLB.out.1 HLB.out.2, ccells_len _ rfl rfl])] at hz
    have bz := below_setCells (o := 0) (vs := ccells Y) c4 hg1
    refine bodyPost_ret (v := .tuple #[cagg Y, .bool true]) (res_cell2 (ccells Y) _ Tryd.results17 rfl hz.range Tryd.underlying28 rfl HIN.out rfl) rfl ?_
    refine RChoR.of HS.out ?_ bz
    rw [decide_eq_false (by omega)]
    rfl
end Go.Proofs.YtkkbmhlmgbepjaaDoor
