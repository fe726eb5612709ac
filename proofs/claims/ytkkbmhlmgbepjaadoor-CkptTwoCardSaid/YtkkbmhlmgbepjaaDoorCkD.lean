/-
  The walks of ckpt.read and Decode. By an AI agent.
-/
import Derived.Test.YtkkbmhlmgbepjaaDoorCkE
import Derived.Test.YtkkbmhlmgbepjaaDoorVars
namespace Go.Proofs.YtkkbmhlmgbepjaaDoor
open Go.RowKit Go.ChangeShapes Go.WideShapes Go.ChangeAt

theorem Blk.put {w : World} {g off : Nat} {T : TypeId} {cs us : List Value} (h : Blk w g T (spl cs off us)) (vs : List Value) (hl : off + us.length + vs.length ≤ cs.length) {o : Nat} (ho : o = off + us.length) : Blk (w.setCells g o vs) g T (spl cs off (us ++ vs)) := by
  subst ho
  have h1 := h.setCells vs (off + us.length) (by rw [spl_len _ _ _ (by omega)]; omega)
  rw [spl_spl _ _ _ _ hl] at h1
  exact h1
def icl (ws : List Int) : List Value := ws.map fun c => .int .i64 c
theorem infoInt : (Tryd.prog.info? 3).map (fun i => (i.zero, i.size, i.bytes)) = some (some (.int .i64 0), 1, 8) := by kernel_rfl
theorem pW_snoc : ∀ k, Nd.pW (k + 1) = Nd.pW k ++ [4, 4]
  | 0 => rfl
  | k + 1 => by
    show 4 :: 4 :: Nd.pW (k + 1) = 4 :: 4 :: (Nd.pW k ++ [4, 4])
    rw [pW_snoc k]
theorem uW_snoc (k : Nat) : Ck.uW (k + 1) = Ck.uW k ++ [2] := by unfold Ck.uW; rw [List.replicate_succ']
theorem icl_app (a b : List Int) : icl (a ++ b) = icl a ++ icl b := by unfold icl; rw [List.map_append]
/-- The numbers of a block. -/
theorem ck_nums (l : List UInt8) : Pk.nums l Ck.ckW = Pk.val (l.take 4) :: (Ck.ckOf l).s.toNat :: (Ck.ckOf l).n.toNat :: (Ck.ckOf l).a.toNat :: (Nd.pV (Ck.ckOf l).mp ++ Ck.uV (Ck.ckOf l).us) := by
  rw [Ck.nums_ck]; rfl
theorem pV_at : ∀ (ps : List (Int × Nat)) (k : Nat) (h : k < ps.length), (Nd.pV ps)[2 * k]? = some ps[k].1.toNat ∧ (Nd.pV ps)[2 * k + 1]? = some ps[k].2
  | p :: ps, 0, _ => by rw [Nd.pV_cons]; exact ⟨rfl, rfl⟩
  | p :: ps, k + 1, h => by
    rw [Nd.pV_cons, show 2 * (k + 1) = 2 * k + 1 + 1 by omega]
    exact pV_at ps k (by simpa using h)
theorem ck_num_map (l : List UInt8) (k : Nat) (h : k < (Ck.ckOf l).mp.length) : (Pk.nums l Ck.ckW).getD (4 + 2 * k) 0 = (Ck.ckOf l).mp[k].1.toNat ∧ (Pk.nums l Ck.ckW).getD (4 + (2 * k + 1)) 0 = (Ck.ckOf l).mp[k].2 := by
  have h1 := pV_at _ k h
  have hl := Nd.pV_len (Ck.ckOf l).mp
  rw [ck_nums]
  constructor
  · rw [show 4 + 2 * k = 2 * k + 1 + 1 + 1 + 1 by omega, List.getD_eq_getElem?_getD]
    simp only [List.getElem?_cons_succ]
    rw [List.getElem?_append_left (by omega), h1.1]; rfl
  · rw [show 4 + (2 * k + 1) = 2 * k + 1 + 1 + 1 + 1 + 1 by omega, List.getD_eq_getElem?_getD]
    simp only [List.getElem?_cons_succ]
    rw [List.getElem?_append_left (by omega), h1.2]; rfl
theorem ck_num_us (l : List UInt8) (k : Nat) (h : k < (Ck.ckOf l).us.length) : (Pk.nums l Ck.ckW).getD (12 + k) 0 = (Ck.ckOf l).us[k].toNat := by
  have hl := Nd.pV_len (Ck.ckOf l).mp
  have h4 : (Ck.ckOf l).mp.length = 4 := (Ck.good_of l).1
  rw [ck_nums, show 12 + k = (8 + k) + 1 + 1 + 1 + 1 by omega, List.getD_eq_getElem?_getD]
  simp only [List.getElem?_cons_succ]
  rw [List.getElem?_append_right (by omega), show 8 + k - (Nd.pV (Ck.ckOf l).mp).length = k by omega]
  unfold Ck.uV
  rw [List.getElem?_map, List.getElem?_eq_getElem h]; rfl
theorem uerr_ck (l : List UInt8) (h : l.length = 128) : Pk.uerr l Ck.ckW = 0 ∧ Pk.unpacked l Ck.ckW = Pk.nums l Ck.ckW := by
  have e : Pk.uerr l Ck.ckW = 0 := by
    unfold Pk.uerr
    rw [if_pos (by decide), if_neg (by rw [Ck.need_ck]; omega)]
  refine ⟨e, ?_⟩
  unfold Pk.unpacked
  rw [if_pos e]
theorem nums_len (l : List UInt8) : ∀ ws : List Int, (Pk.nums l ws).length = ws.length := by
  intro ws
  induction ws generalizing l with
  | nil => rfl
  | cons w ws ih => rw [Pk.nums, List.length_cons, List.length_cons, ih]
/-- What has been read ahead of the map. -/
def ck0 (x : Ck.Ck) : Ck.Ck := ⟨x.s, x.n, x.a, List.replicate 4 (0, 0), List.replicate 8 0⟩
theorem ck0_spl (x : Ck.Ck) (h : x.mp.length = 4) (h' : x.us.length = 8) : spl (spl (ccells (ck0 x)) 3 (pcells x.mp)) 11 (ucells x.us) = ccells x := by
  have e1 : spl (ccells (ck0 x)) 3 (pcells x.mp) = .int .i64 x.s :: .int .i64 x.n :: .int .i64 x.a :: (pcells x.mp ++ ucells (List.replicate 8 0)) := by
    unfold spl ccells ck0
    simp only [List.take_succ_cons, List.take_zero, List.cons_append, List.nil_append]
    rw [show 3 + (pcells x.mp).length = 8 + 1 + 1 + 1 by rw [pcells_len, h]]
    simp only [List.drop_succ_cons]
    rw [List.drop_left' (by rw [pcells_len]; rfl)]
  rw [e1]
  unfold spl ccells
  rw [show (11 : Nat) = 8 + 1 + 1 + 1 from rfl]
  simp only [List.take_succ_cons, List.cons_append]
  rw [List.take_left' (by rw [pcells_len, h]), show 8 + 1 + 1 + 1 + (ucells x.us).length = 16 + 1 + 1 + 1 by rw [ucells_len, h']]
  simp only [List.drop_succ_cons]
  rw [List.drop_eq_nil_of_le (by rw [List.length_append, pcells_len, ucells_len, h]; simp), List.append_nil]
/-- What read leaves. -/
def ReadR (l : List UInt8) (w : World) (e : Ending) (w' : World) : Prop := e = .returned (.tuple #[cagg (if Ck.rdB l then Ck.ckOf l else Ck.Ck.zero), .bool (Ck.rdB l)]) ∧ Below w.heap.size w w'
theorem ReadR.no {l : List UInt8} {w w' : World} (h : Ck.rdB l = false) (b : Below w.heap.size w w') : ReadR l w (.returned (.tuple #[cagg Ck.Ck.zero, .bool false])) w' := by
  unfold ReadR
  rw [h]
  exact ⟨rfl, b⟩
theorem ReadR.yes {l : List UInt8} {w w' : World} (h : Ck.rdB l = true) (b : Below w.heap.size w w') : ReadR l w (.returned (.tuple #[cagg (Ck.ckOf l), .bool true])) w' := by
  unfold ReadR
  rw [h]
  exact ⟨rfl, b⟩
theorem cell_grown {w w' : World} {g b o : Nat} {v : Value} (hgr : w.grownBy w' (some g)) (hb : b < w.heap.size) (hne : b ≠ g) (h : w.cell? ⟨b, o, none⟩ = some v) : w'.cell? ⟨b, o, none⟩ = some v :=
  (World.cell?_of_block (hgr.block b hb (fun e => by injection e with e; exact hne e))).trans h
theorem ptrs_bd (l : List UInt8) (n : Nat) : ∀ p ∈ Nd.ptrsOf l n, 0 ≤ p.1 ∧ p.1 < 4294967296 ∧ p.2 < 4294967296 := by
  intro p hp
  unfold Nd.ptrsOf at hp
  obtain ⟨i, _, rfl⟩ := List.mem_map.1 hp
  have h1 : Pk.val ((l.drop (8 * i)).take 4) < 4294967296 := Nd.val_lt_of _ 4
  have h2 : Pk.val ((l.drop (8 * i + 4)).take 4) < 4294967296 := Nd.val_lt_of _ 4
  unfold Nd.ptrAt
  simp only
  omega
theorem us_bd (l : List UInt8) (n : Nat) : ∀ p ∈ Ck.usOf l n, 0 ≤ p ∧ p < 65536 := by
  intro p hp
  unfold Ck.usOf at hp
  obtain ⟨i, _, rfl⟩ := List.mem_map.1 hp
  have h1 : Pk.val ((l.drop (2 * i)).take 2) < 65536 := Nd.val_lt_of _ 2
  unfold Ck.usAt
  omega

set_option maxRecDepth 100000 in
set_option maxHeartbeats 4000000 in
theorem readC_any (w : World) (v : Value) (l : List UInt8) (h : Bs w w.heap.size v l) (hl : l.length = 128) :
    Calls Tryd.prog 19 #[v] w (ReadR l w) := by
  obtain ⟨A, c, rfl, hc, hm, _⟩ := h.openD
  have HB := Lib.hid h
  have hl1 : 128 ≤ l.length := by omega
  have hl2 : l.length ≤ 128 := by omega
  have hl3 : ((l.length : Int) != 128) = false := by rw [bne_eq_false_iff_eq]; omega
  have HUE := Lib.hid (uerr_ck l hl)
  have g1' : (124 : Int) ≤ c := by omega
  have g2' : (124 : Nat) ≤ c := by omega
  clear h hl
  go_enter Tryd.func19, Tryd.ntmps19
  go_upto_region 1 with (fail)
  generalize hW : w.alloc (.cells _ 28) = W0
  have hk0 : Blk W0 w.heap.size 28 (ccells Ck.Ck.zero) := by rw [← hW]; exact Blk.new w _ _
  have b0 : Below w.heap.size w W0 := by rw [← hW]; exact (Below.refl _ _).alloc (Nat.le_refl _) _
  clear hW
  obtain ⟨g0, hg0⟩ : ∃ g0, g0 = w.heap.size := ⟨_, rfl⟩
  rw [← hg0] at hk0 ⊢
  have hg1 : w.heap.size ≤ g0 := by omega
  have hg2 : g0 ≤ w.heap.size := by omega
  clear hg0
  go_upto_region 2 with (fail)
  have hown0 := (Blk.new W0 3 #[.int .i64 4, .int .i64 6, .int .i64 6, .int .i64 4]).own (base := W0.heap.size) (Nat.le_refl _) 4 4 1 rfl (Nat.le_refl _) (by simp [maxLen])
  rw [List.take_of_length_le (by simp)] at hown0
  have b1 := (Below.refl W0.heap.size W0).alloc (Nat.le_refl _) (.cells #[.int .i64 4, .int .i64 6, .int .i64 6, .int .i64 4] 3)
  rw [show (#[.int .i64 4, .int .i64 6, .int .i64 6, .int .i64 4] : Array Value).toList = icl [4, 6, 6, 4] from rfl] at hown0
  generalize W0.alloc (.cells #[.int .i64 4, .int .i64 6, .int .i64 6, .int .i64 4] 3) = W1 at *
  generalize hv4 : Value.slice (some ⟨W0.heap.size, 0, none⟩) 4 4 = v4 at hown0 ⊢
  clear hv4
  go_wp2
  go_loopw [4, 11] (fun y i wr => ∃ k : Nat, k ≤ 4 ∧ i = .int .i64 k ∧ wr.ownsRow W0.heap.size 3 1 y (4 + 2 * k) (icl ([4, 6, 6, 4] ++ Nd.pW k)) ∧ Below W0.heap.size W0 wr) (fun _ i _ => 4 - (intOf i).toNat)
  case atStart => exact ⟨0, by omega, rfl, by rw [show Nd.pW 0 = [] from rfl, List.append_nil]; exact hown0, b1⟩
  case round =>
    obtain ⟨k, hk, rfl, hown, hbw⟩ := hrel
    clear hown0 b1
    by_cases hlt : k < 4
    · have HSN := Lib.hid (show icl ([4, 6, 6, 4] ++ Nd.pW (k + 1)) = icl ([4, 6, 6, 4] ++ Nd.pW k) ++ [.int .i64 4, .int .i64 4] by rw [pW_snoc, ← List.append_assoc, icl_app]; rfl)
      go_wp2_with (at_builtin; refine stop_ ?_)
      have hkn := Blk.new wr 3 #[.int .i64 4, .int .i64 4]
      have ho2 := hown.alloc (.cells #[.int .i64 4, .int .i64 4] 3)
      have d2 := hbw.alloc hbw.size (.cells #[.int .i64 4, .int .i64 4] 3)
      obtain ⟨ua, wa, hruna, howna, hgra, _⟩ := run_append_rds (P := Tryd.prog) (ty := 66) Tryd.underlying66 infoInt rfl (by decide) ho2 (hkn.rds 0 2 2 1 (by simp) (by omega) (by simp [maxLen])) (by simp [Value.oneCell']) (by rw [maxLen_eq]; omega) (by omega) d2.size
      refine wpList_append_run (v := u4) (u := .slice (some ⟨wr.heap.size, 0, none⟩) 2 2) rfl (.tmp 13) (.tmp 14) 66 rfl rfl rfl hruna ?_
      have d3 := d2.grown hgra d2.size (fun g hg => (ho2.lt g hg).1)
      clear hkn ho2 hruna hgra d2 hown hbw
      go_wp2
      go_roundw
      case rel => exact ⟨k + 1, by omega, by go_num, by rw [HSN.out, show 4 + 2 * (k + 1) = 4 + 2 * k + 2 by omega]; exact howna, d3⟩
      case measure => simp [intOf]; omega
    · obtain rfl : k = 4 := by omega
      obtain ⟨w3, hw3⟩ : ∃ w3, w3 = wr := ⟨_, rfl⟩
      rw [← hw3] at hown hbw ⊢
      clear hw3
      rw [show (((4 : Nat) : Int)) = 4 from rfl]
      go_wp2
      go_loopw [4, 17] (fun y i wr => ∃ k : Nat, k ≤ 8 ∧ i = .int .i64 k ∧ wr.ownsRow W0.heap.size 3 1 y (12 + k) (icl ([4, 6, 6, 4] ++ (Nd.pW 4 ++ Ck.uW k))) ∧ Below W0.heap.size W0 wr) (fun _ i _ => 8 - (intOf i).toNat)
      case atStart => exact ⟨0, by omega, rfl, by rw [show Ck.uW 0 = [] from rfl, List.append_nil]; exact hown, hbw⟩
      case round =>
        obtain ⟨k, hk, rfl, hown2, hbw2⟩ := hrel
        clear hown hbw
        by_cases hlt : k < 8
        · have HSN := Lib.hid (show icl ([4, 6, 6, 4] ++ (Nd.pW 4 ++ Ck.uW (k + 1))) = icl ([4, 6, 6, 4] ++ (Nd.pW 4 ++ Ck.uW k)) ++ [.int .i64 2] by rw [uW_snoc, ← List.append_assoc (Nd.pW 4), ← List.append_assoc, icl_app]; rfl)
          go_wp2_with (at_builtin; refine stop_ ?_)
          refine wpList_append_one rfl _ _ rfl rfl rfl rfl Tryd.underlying66 infoInt rfl hown2 rfl (by rw [maxLen_eq]; omega) (by omega) hbw2.size ?_
          intro v' w' hown' hgr
          have hb' := hbw2.grown hgr hbw2.size (fun g hg => (hown2.lt g hg).1)
          clear hown2 hgr hbw2
          go_wp2
          go_roundw
          case rel => exact ⟨k + 1, by omega, by go_num, by rw [HSN.out]; exact hown', hb'⟩
          case measure => simp [intOf]; omega
        · obtain rfl : k = 8 := by omega
          rw [show icl ([4, 6, 6, 4] ++ (Nd.pW 4 ++ Ck.uW 8)) = icl Ck.ckW from rfl] at hown2
          have HIS := Lib.hid (show Is .i64 wr wr.heap.size u4 Ck.ckW from Rds.of_own hown2)
          have k1 := hk0.ext hbw2
          have c1 := b0.trans (hbw2.mono b0.size)
          obtain ⟨w1, hw1⟩ : ∃ w1, w1 = wr := ⟨_, rfl⟩
          rw [← hw1] at HIS k1 c1 ⊢
          have HBH := Lib.hid ((HB.out.ext (Nat.le_refl _) c1).head (k := 124) (by omega))
          have HB1 := Lib.hid ((HB.out.ext (Nat.le_refl _) c1).more c1.size)
          clear hw1 hown2 hbw2 hk0 b0 HB
          have HRD := Lib.hid (show Ck.rdB l = (Pk.clr (l.take 124) (68 : Nat) && Pk.val (l.take 4) == 1667985524) from rfl)
          go_wp2_with fail
          refine (clear_any _ _ _ (l.take 124) 68 HBH.out (by omega)).mono ?_
          rintro e w' ⟨rfl, rfl⟩
          cases hcl : Pk.clr (l.take 124) (68 : Int) with
          | false =>
            have HE := Lib.hid (show Ck.rdB l = false by rw [HRD.out]; rw [show Pk.clr (l.take 124) ((68 : Nat) : Int) = false from hcl]; rfl)
            clear hcl HRD
            go_wp2_with (refine wpList_store_mid rfl 28 (.tmp 2) (.tmp 32) rfl g0 0 (ccells Ck.Ck.zero).toArray rfl rfl (k1.there 0 19 (by rw [ccells_len _ rfl rfl]; omega)) (by kernel_rfl) (all_oneCell_toArray ccells_one) ?_)
            have hz := k1.setCells (ccells Ck.Ck.zero) 0 (by omega)
            rw [spl_all _ _ rfl] at hz
            have bz := below_setCells (o := 0) (vs := ccells Ck.Ck.zero) c1 hg1
            refine bodyPost_ret (v := .tuple #[cagg Ck.Ck.zero, .bool false]) (res_cell2 (ccells Ck.Ck.zero) _ Tryd.results19 rfl hz.range Tryd.underlying28 rfl (infoC _ rfl rfl) rfl) rfl ?_
            exact ReadR.no HE.out bz
          | true =>
            have HCL := Lib.hid (show Pk.clr (l.take 124) ((68 : Nat) : Int) = true from hcl)
            rw [HCL.out, Bool.true_and] at HRD
            clear hcl
            go_wp2_with fail
            refine (unpack_any w1 _ _ _ l Ck.ckW HB1.out HIS.out (Nat.le_refl _) (by decide)).mono ?_
            rintro e w2 ⟨x2, rfl, hown, hb2⟩
            rw [HUE.out.1]
            rw [HUE.out.2] at hown
            have hsx : Us w2 w2.heap.size x2 (Pk.nums l Ck.ckW) := Us.of_own hown
            have k2 := k1.ext hb2
            have c2 := c1.trans (hb2.mono c1.size)
            obtain ⟨A2, cx, rfl, hcx, hmx, hcell⟩ := hsx.openD
            have hnl : (Pk.nums l Ck.ckW).length = 20 := nums_len l Ck.ckW
            rw [hnl] at hcx hcell ⊢
            obtain ⟨bx, ox, rfl, hbx, hx0⟩ := hcell 0 (by omega)
            have HV := Lib.hid (show ∀ j, j < 20 → w2.cell? ⟨bx, ox + j, none⟩ = some (.int .u64 ((Pk.nums l Ck.ckW).getD j 0 : Nat)) by
              intro j hj
              obtain ⟨b', o', e', _, hh⟩ := hcell j hj
              injection e' with e'
              injection e' with e1 e2
              subst e1 e2
              exact hh)
            clear hcell hsx hown hb2 k1 c1 HIS hnl hx0
            have hx0 := HV.out 0 (by omega)
            have hx1 := HV.out 1 (by omega)
            have hx2 := HV.out 2 (by omega)
            have hx3 := HV.out 3 (by omega)
            rw [ck_nums] at hx0 hx1 hx2 hx3
            simp only [List.getD_cons_zero, List.getD_cons_succ, Nat.add_zero] at hx0 hx1 hx2 hx3
            have v0 : Pk.val (l.take 4) < 4294967296 := Nd.val_lt_of l 4
            have HG := Lib.hid (Ck.good_of l)
            have v1 : (Ck.ckOf l).s.toNat < 281474976710656 := by show (((Pk.val ((l.drop 4).take 6) : Nat) : Int)).toNat < _; rw [Int.toNat_natCast]; exact Nd.val_lt_of _ 6
            have v2 : (Ck.ckOf l).n.toNat < 281474976710656 := by show (((Pk.val ((l.drop 10).take 6) : Nat) : Int)).toNat < _; rw [Int.toNat_natCast]; exact Nd.val_lt_of _ 6
            have v3 : (Ck.ckOf l).a.toNat < 4294967296 := by show (((Pk.val ((l.drop 16).take 4) : Nat) : Int)).toNat < _; rw [Int.toNat_natCast]; exact Nd.val_lt_of _ 4
            have HMP := Lib.hid (fun k (hk : k < (Ck.ckOf l).mp.length) => ck_num_map l k hk)
            have HMB := Lib.hid (show ∀ p ∈ (Ck.ckOf l).mp, 0 ≤ p.1 ∧ p.1 < 4294967296 ∧ p.2 < 4294967296 from ptrs_bd (l.drop 20) 4)
            have HUS := Lib.hid (fun k (hk : k < (Ck.ckOf l).us.length) => ck_num_us l k hk)
            have HUB := Lib.hid (show ∀ p ∈ (Ck.ckOf l).us, 0 ≤ p ∧ p < 65536 from us_bd (l.drop 52) 8)
            have e1 : (Ck.ckOf l).s = (((Ck.ckOf l).s.toNat : Nat) : Int) := (Int.toNat_of_nonneg (Int.natCast_nonneg _)).symm
            have e2 : (Ck.ckOf l).n = (((Ck.ckOf l).n.toNat : Nat) : Int) := (Int.toNat_of_nonneg (Int.natCast_nonneg _)).symm
            have e3 : (Ck.ckOf l).a = (((Ck.ckOf l).a.toNat : Nat) : Int) := (Int.toNat_of_nonneg (Int.natCast_nonneg _)).symm
            have HX := Lib.hid (And.intro e1 (And.intro e2 e3))
            clear e1 e2 e3
            generalize Pk.val (l.take 4) = V0 at *
            have HXD := Lib.hid (fun (b : Below w.heap.size w w) => b)
            generalize hXX : Ck.ckOf l = X at *
            have HXX := Lib.hid hXX
            clear hXX HXD
            generalize X.s.toNat = V1 at *
            generalize X.n.toNat = V2 at *
            generalize X.a.toNat = V3 at *
            by_cases h0 : V0 = 1667985524
            rotate_left
            · have h0' : ((V0 : Int) != 1667985524) = true := by rw [bne_iff_ne]; omega
              have HE := Lib.hid (show Ck.rdB l = false by rw [HRD.out, beq_eq_false_iff_ne]; exact h0)
              clear h0 HRD
              go_wp2_with (refine wpList_store_mid rfl 28 (.tmp 2) (.tmp 47) rfl g0 0 (ccells Ck.Ck.zero).toArray rfl rfl (k2.there 0 19 (by rw [ccells_len _ rfl rfl]; omega)) (by kernel_rfl) (all_oneCell_toArray ccells_one) ?_)
              have hz := k2.setCells (ccells Ck.Ck.zero) 0 (by omega)
              rw [spl_all _ _ rfl] at hz
              have bz := below_setCells (o := 0) (vs := ccells Ck.Ck.zero) c2 hg1
              refine bodyPost_ret (v := .tuple #[cagg Ck.Ck.zero, .bool false]) (res_cell2 (ccells Ck.Ck.zero) _ Tryd.results19 rfl hz.range Tryd.underlying28 rfl (infoC _ rfl rfl) rfl) rfl ?_
              exact ReadR.no HE.out bz
            have h0' : ((V0 : Int) != 1667985524) = false := by rw [bne_eq_false_iff_eq]; omega
            have HE := Lib.hid (show Ck.rdB l = true by rw [HRD.out, beq_iff_eq]; exact h0)
            have HX0 := Lib.hid (show Value.agg (ccells (ck0 X)).toArray = .agg #[.int .i64 (V1 : Int), .int .i64 (V2 : Int), .int .i64 (V3 : Int), .int .i64 0, .int .u32 0, .int .i64 0, .int .u32 0, .int .i64 0, .int .u32 0, .int .i64 0, .int .u32 0, .int .i64 0, .int .i64 0, .int .i64 0, .int .i64 0, .int .i64 0, .int .i64 0, .int .i64 0, .int .i64 0] by unfold ccells ck0; rw [HX.out.1, HX.out.2.1, HX.out.2.2]; rfl)
            clear h0 HRD
            go_wp2_with fail
            refine wp_region_vars 15 [.slice (some ⟨bx, ox, none⟩) 20 cx, .pointer (some ⟨bx, ox + 1, none⟩), .int .u64 (V1 : Int), .int .i64 (V1 : Int), .slice (some ⟨bx, ox, none⟩) 20 cx, .pointer (some ⟨bx, ox + 2, none⟩), .int .u64 (V2 : Int), .int .i64 (V2 : Int), .slice (some ⟨bx, ox, none⟩) 20 cx, .pointer (some ⟨bx, ox + 3, none⟩), .int .u64 (V3 : Int), .int .i64 (V3 : Int), .agg (ccells (ck0 X)).toArray, undef, undef] [⟨13, 14, 7, 60, 28, ccells Ck.Ck.zero, ccells (ck0 X)⟩] (by kernel_rfl) rfl (by kernel_rfl) rfl ?_ ?_ ?_
            · intro xv hxv
              simp only [List.mem_cons, List.not_mem_nil, or_false] at hxv
              rcases hxv with rfl
              · refine ⟨by kernel_rfl, by kernel_rfl, of_decide_eq_true (by kernel_rfl), by rw [ccells_len _ rfl rfl, ccells_len _ rfl rfl], by kernel_rfl, ⟨12, by kernel_rfl, by simp, rfl⟩, ?_, ?_⟩
                · intro a x K h
                  refine wpOp_plain rfl rfl ?_
                  go_simp
                  exact h
                · intro a x g K h1 h2 h3 h
                  refine wpOp_plain rfl rfl ?_
                  refine wp_store_mid 28 (.tmp 7) (.tmp 60) rfl g 0 (ccells (ck0 X)).toArray h1 h2 (by rw [List.size_toArray]; exact h3) (infoC _ rfl rfl) (all_oneCell_toArray ccells_one) ?_
                  exact h
            · refine ⟨?_, ?_, ?_, ?_, ?_, ?_, ?_, ?_, ?_, ?_, ?_, ?_, ?_, ?_, ?_, trivial⟩
              · intro _ a x hG hd hs K hK
                replace hG : Below (w2).heap.size (w2) x := hG
                replace hK : ∀ (v : Value) w', v = .slice (some ⟨bx, ox, none⟩) 20 cx → Below (w2).heap.size (w2) w' → Below x.heap.size x w' → K _ w' := fun v w' e1 e2 e3 => hK v w' (fun _ => e1) e2 e3
                have h5 : a.tmps.getD 5 undef = .slice (some ⟨bx, ox, none⟩) 20 cx := hs 5 (by kernel_rfl)
                clear hd hs
                refine wpOp_plain rfl rfl ?_
                go_simp
                exact hK _ _ rfl hG (Below.refl _ _)
              · intro _ a x hG hd hs K hK
                replace hG : Below (w2).heap.size (w2) x := hG
                replace hK : ∀ (v : Value) w', v = .pointer (some ⟨bx, ox + 1, none⟩) → Below (w2).heap.size (w2) w' → Below x.heap.size x w' → K _ w' := fun v w' e1 e2 e3 => hK v w' (fun _ => e1) e2 e3
                have h48 : a.tmps.getD 48 undef = .slice (some ⟨bx, ox, none⟩) 20 cx := hd 0 48 (by kernel_rfl) (by simp)
                clear hd hs
                refine wpOp_plain rfl rfl ?_
                go_simp
                exact hK _ _ rfl hG (Below.refl _ _)
              · intro _ a x hG hd hs K hK
                replace hG : Below (w2).heap.size (w2) x := hG
                replace hK : ∀ (v : Value) w', v = .int .u64 (V1 : Int) → Below (w2).heap.size (w2) w' → Below x.heap.size x w' → K _ w' := fun v w' e1 e2 e3 => hK v w' (fun _ => e1) e2 e3
                have h49 : a.tmps.getD 49 undef = .pointer (some ⟨bx, ox + 1, none⟩) := hd 1 49 (by kernel_rfl) (by simp)
                clear hd hs
                refine wpOp_plain rfl rfl ?_
                have hc := (hG.cell (p := ⟨bx, ox + 1, none⟩) hbx).trans hx1
                go_simp
                exact hK _ _ rfl hG (Below.refl _ _)
              · intro _ a x hG hd hs K hK
                replace hG : Below (w2).heap.size (w2) x := hG
                replace hK : ∀ (v : Value) w', v = .int .i64 (V1 : Int) → Below (w2).heap.size (w2) w' → Below x.heap.size x w' → K _ w' := fun v w' e1 e2 e3 => hK v w' (fun _ => e1) e2 e3
                have h50 : a.tmps.getD 50 undef = .int .u64 (V1 : Int) := hd 2 50 (by kernel_rfl) (by simp)
                clear hd hs
                refine wpOp_plain rfl rfl ?_
                have hwr : IntKind.i64.wrap (V1 : Int) = (V1 : Int) := IntWalk.i64_in _ (by omega)
                go_simp
                exact hK _ _ rfl hG (Below.refl _ _)
              · intro _ a x hG hd hs K hK
                replace hG : Below (w2).heap.size (w2) x := hG
                replace hK : ∀ (v : Value) w', v = .slice (some ⟨bx, ox, none⟩) 20 cx → Below (w2).heap.size (w2) w' → Below x.heap.size x w' → K _ w' := fun v w' e1 e2 e3 => hK v w' (fun _ => e1) e2 e3
                have h5 : a.tmps.getD 5 undef = .slice (some ⟨bx, ox, none⟩) 20 cx := hs 5 (by kernel_rfl)
                clear hd hs
                refine wpOp_plain rfl rfl ?_
                go_simp
                exact hK _ _ rfl hG (Below.refl _ _)
              · intro _ a x hG hd hs K hK
                replace hG : Below (w2).heap.size (w2) x := hG
                replace hK : ∀ (v : Value) w', v = .pointer (some ⟨bx, ox + 2, none⟩) → Below (w2).heap.size (w2) w' → Below x.heap.size x w' → K _ w' := fun v w' e1 e2 e3 => hK v w' (fun _ => e1) e2 e3
                have h52 : a.tmps.getD 52 undef = .slice (some ⟨bx, ox, none⟩) 20 cx := hd 4 52 (by kernel_rfl) (by simp)
                clear hd hs
                refine wpOp_plain rfl rfl ?_
                go_simp
                exact hK _ _ rfl hG (Below.refl _ _)
              · intro _ a x hG hd hs K hK
                replace hG : Below (w2).heap.size (w2) x := hG
                replace hK : ∀ (v : Value) w', v = .int .u64 (V2 : Int) → Below (w2).heap.size (w2) w' → Below x.heap.size x w' → K _ w' := fun v w' e1 e2 e3 => hK v w' (fun _ => e1) e2 e3
                have h53 : a.tmps.getD 53 undef = .pointer (some ⟨bx, ox + 2, none⟩) := hd 5 53 (by kernel_rfl) (by simp)
                clear hd hs
                refine wpOp_plain rfl rfl ?_
                have hc := (hG.cell (p := ⟨bx, ox + 2, none⟩) hbx).trans hx2
                go_simp
                exact hK _ _ rfl hG (Below.refl _ _)
              · intro _ a x hG hd hs K hK
                replace hG : Below (w2).heap.size (w2) x := hG
                replace hK : ∀ (v : Value) w', v = .int .i64 (V2 : Int) → Below (w2).heap.size (w2) w' → Below x.heap.size x w' → K _ w' := fun v w' e1 e2 e3 => hK v w' (fun _ => e1) e2 e3
                have h54 : a.tmps.getD 54 undef = .int .u64 (V2 : Int) := hd 6 54 (by kernel_rfl) (by simp)
                clear hd hs
                refine wpOp_plain rfl rfl ?_
                have hwr : IntKind.i64.wrap (V2 : Int) = (V2 : Int) := IntWalk.i64_in _ (by omega)
                go_simp
                exact hK _ _ rfl hG (Below.refl _ _)
              · intro _ a x hG hd hs K hK
                replace hG : Below (w2).heap.size (w2) x := hG
                replace hK : ∀ (v : Value) w', v = .slice (some ⟨bx, ox, none⟩) 20 cx → Below (w2).heap.size (w2) w' → Below x.heap.size x w' → K _ w' := fun v w' e1 e2 e3 => hK v w' (fun _ => e1) e2 e3
                have h5 : a.tmps.getD 5 undef = .slice (some ⟨bx, ox, none⟩) 20 cx := hs 5 (by kernel_rfl)
                clear hd hs
                refine wpOp_plain rfl rfl ?_
                go_simp
                exact hK _ _ rfl hG (Below.refl _ _)
              · intro _ a x hG hd hs K hK
                replace hG : Below (w2).heap.size (w2) x := hG
                replace hK : ∀ (v : Value) w', v = .pointer (some ⟨bx, ox + 3, none⟩) → Below (w2).heap.size (w2) w' → Below x.heap.size x w' → K _ w' := fun v w' e1 e2 e3 => hK v w' (fun _ => e1) e2 e3
                have h56 : a.tmps.getD 56 undef = .slice (some ⟨bx, ox, none⟩) 20 cx := hd 8 56 (by kernel_rfl) (by simp)
                clear hd hs
                refine wpOp_plain rfl rfl ?_
                go_simp
                exact hK _ _ rfl hG (Below.refl _ _)
              · intro _ a x hG hd hs K hK
                replace hG : Below (w2).heap.size (w2) x := hG
                replace hK : ∀ (v : Value) w', v = .int .u64 (V3 : Int) → Below (w2).heap.size (w2) w' → Below x.heap.size x w' → K _ w' := fun v w' e1 e2 e3 => hK v w' (fun _ => e1) e2 e3
                have h57 : a.tmps.getD 57 undef = .pointer (some ⟨bx, ox + 3, none⟩) := hd 9 57 (by kernel_rfl) (by simp)
                clear hd hs
                refine wpOp_plain rfl rfl ?_
                have hc := (hG.cell (p := ⟨bx, ox + 3, none⟩) hbx).trans hx3
                go_simp
                exact hK _ _ rfl hG (Below.refl _ _)
              · intro _ a x hG hd hs K hK
                replace hG : Below (w2).heap.size (w2) x := hG
                replace hK : ∀ (v : Value) w', v = .int .i64 (V3 : Int) → Below (w2).heap.size (w2) w' → Below x.heap.size x w' → K _ w' := fun v w' e1 e2 e3 => hK v w' (fun _ => e1) e2 e3
                have h58 : a.tmps.getD 58 undef = .int .u64 (V3 : Int) := hd 10 58 (by kernel_rfl) (by simp)
                clear hd hs
                refine wpOp_plain rfl rfl ?_
                have hwr : IntKind.i64.wrap (V3 : Int) = (V3 : Int) := IntWalk.i64_in _ (by omega)
                go_simp
                exact hK _ _ rfl hG (Below.refl _ _)
              · intro _ a x hG hd hs K hK
                replace hG : Below (w2).heap.size (w2) x := hG
                replace hK : ∀ (v : Value) w', v = .agg (ccells (ck0 X)).toArray → Below (w2).heap.size (w2) w' → Below x.heap.size x w' → K _ w' := fun v w' e1 e2 e3 => hK v w' (fun _ => e1) e2 e3
                have h51 : a.tmps.getD 51 undef = .int .i64 (V1 : Int) := hd 3 51 (by kernel_rfl) (by simp)
                have h51o := getD_opt h51
                have h55 : a.tmps.getD 55 undef = .int .i64 (V2 : Int) := hd 7 55 (by kernel_rfl) (by simp)
                have h55o := getD_opt h55
                have h59 : a.tmps.getD 59 undef = .int .i64 (V3 : Int) := hd 11 59 (by kernel_rfl) (by simp)
                have h59o := getD_opt h59
                clear hd hs
                refine wpOp_plain rfl rfl ?_
                go_simp
                rw [← HX0.out]
                exact hK _ _ rfl hG (Below.refl _ _)
              · intro hno
                exact absurd rfl ((hno _ (List.Mem.head _)).1)
              · intro hno
                exact absurd rfl ((hno _ (List.Mem.head _)).2)
            · intro x gs hG hgs
              intro v0 hv0 v1 hv1 v2 hv2 v3 hv3 v4 hv4 v5 hv5 v6 hv6 v7 hv7 v8 hv8 v9 hv9 v10 hv10 v11 hv11 v12 hv12 v13 hv13
              replace hv0 : v0 = .slice (some ⟨bx, ox, none⟩) 20 cx := hv0
              subst hv0
              replace hv1 : v1 = .pointer (some ⟨bx, ox + 1, none⟩) := hv1
              subst hv1
              replace hv2 : v2 = .int .u64 (V1 : Int) := hv2
              subst hv2
              replace hv3 : v3 = .int .i64 (V1 : Int) := hv3
              subst hv3
              replace hv4 : v4 = .slice (some ⟨bx, ox, none⟩) 20 cx := hv4
              subst hv4
              replace hv5 : v5 = .pointer (some ⟨bx, ox + 2, none⟩) := hv5
              subst hv5
              replace hv6 : v6 = .int .u64 (V2 : Int) := hv6
              subst hv6
              replace hv7 : v7 = .int .i64 (V2 : Int) := hv7
              subst hv7
              replace hv8 : v8 = .slice (some ⟨bx, ox, none⟩) 20 cx := hv8
              subst hv8
              replace hv9 : v9 = .pointer (some ⟨bx, ox + 3, none⟩) := hv9
              subst hv9
              replace hv10 : v10 = .int .u64 (V3 : Int) := hv10
              subst hv10
              replace hv11 : v11 = .int .i64 (V3 : Int) := hv11
              subst hv11
              replace hv12 : v12 = .agg (ccells (ck0 X)).toArray := hv12
              subst hv12
              replace hv13 : v13 = .pointer (some ⟨gs.getD 0 0, 0, none⟩) := hv13
              subst hv13
              obtain ⟨gl0, gk0⟩ := hgs 0 _ rfl
              replace gl0 : (w2).heap.size ≤ gs.getD 0 0 := gl0
              replace gk0 : Blk x (gs.getD 0 0) 28 (ccells (ck0 X)) := gk0
              clear hgs
              generalize gs.getD 0 0 = gv0 at *
              simp only [Act.put, List.setIfInBounds_toArray, List.set_cons_zero, List.set_cons_succ, REnd]
              try simp only [Exit.then]
              obtain ⟨w3, rfl⟩ : ∃ w3, w3 = x := ⟨x, rfl⟩
              have kz := k2.ext hG
              have hg0l := k2.lt
              have c3 := c2.trans (hG.mono c2.size)
              have hs2 := c2.size
              have hs3 := hG.size
              have hlt7 := gk0.lt
              have hg7 : w.heap.size ≤ gv0 := by omega
              have hne0 : g0 ≠ gv0 := by omega
              have hneb : bx ≠ gv0 := by omega
              have hbx3 : bx < w3.heap.size := by omega
              have HV3 := Lib.hid (fun j hj => (hG.cell (p := ⟨bx, ox + j, none⟩) hbx).trans (HV.out j hj))
              have HLX := Lib.hid HG.out
              clear k2 hG c2 HV hx0 hx1 hx2 hx3 HX0 v0 v1 v2 v3
              have q1 : ¬ cx = 4 := by omega
              have q2 : (4 : Int) ≤ cx := by omega
              have q3 : (4 : Nat) ≤ cx := by omega
              have q4 : ¬ cx - 4 = 8 := by omega
              go_wp2
              go_loopw [8, 63] (fun _ i wr => ∃ k : Nat, k ≤ 4 ∧ i = .int .i64 k ∧ Blk wr gv0 28 (spl (ccells (ck0 X)) 3 (pcells (X.mp.take k))) ∧ w3.grownBy wr (some gv0)) (fun _ i _ => 4 - (intOf i).toNat)
              case atStart => exact ⟨0, by omega, rfl, by rw [List.take_zero, show pcells [] = [] from rfl, spl_nil]; exact gk0, World.grownBy.refl _ _⟩
              case round =>
                obtain ⟨k, hk, rfl, hkb, hgr⟩ := hrel
                clear gk0
                by_cases hlt : k < 4
                · have hkl : k < X.mp.length := by rw [HLX.out.1]; exact hlt
                  have hn := HMP.out k hkl
                  have hbd := HMB.out _ (List.getElem_mem hkl)
                  have HY0 := Lib.hid (HV3.out (4 + 2 * k) (by omega))
                  have HY1 := Lib.hid (HV3.out (4 + (2 * k + 1)) (by omega))
                  rw [hn.1] at HY0
                  rw [hn.2] at HY1
                  have HPT := Lib.hid (show pcells (X.mp.take (k + 1)) = pcells (X.mp.take k) ++ [.int .i64 X.mp[k].1, .int .u32 (X.mp[k].2 : Int)] by rw [List.take_succ_eq_append_getElem hkl, pcells_app]; rfl)
                  have hpl : (pcells (X.mp.take k)).length = k * 2 := by rw [pcells_len, List.length_take, HLX.out.1]; omega
                  have HPL := Lib.hid hpl
                  clear hn hpl
                  generalize X.mp[k] = pp at *
                  obtain ⟨aa, s⟩ := pp
                  simp only at HY0 HY1 HPT hbd
                  obtain ⟨aa, rfl⟩ := Int.eq_ofNat_of_zero_le hbd.1
                  rw [Int.toNat_natCast] at HY0
                  have y1 : aa < 4294967296 := by omega
                  have y2 : s < 4294967296 := by omega
                  clear hbd
                  have z0 := cell_grown hgr hbx3 hneb HY0.out
                  have z1 := cell_grown hgr hbx3 hneb HY1.out
                  rw [← Nat.add_assoc] at z0 z1
                  go_wp2_with fail
                  have hG0 : (fun (b : Bool) (x : World) => (b = false → Blk x gv0 28 (spl (ccells (ck0 X)) 3 (pcells (X.mp.take k))) ∧ x.cell? ⟨bx, ox + 4 + 2 * k, none⟩ = some (.int .u64 (aa : Int)) ∧ x.cell? ⟨bx, ox + 4 + (2 * k + 1), none⟩ = some (.int .u64 (s : Int))) ∧ (b = true → Blk x gv0 28 (spl (ccells (ck0 X)) 3 (pcells (X.mp.take (k + 1))))) ∧ w3.grownBy x (some gv0)) false wr.drew := ⟨fun _ => ⟨hkb.drew, z0, z1⟩, (fun h => by cases h), grown_drew hgr⟩
                  clear HY0 HY1
                  refine wp_region_tail 18 17 [(fun y_ _ => y_ = .int .i64 (k : Int)),
                    (fun y_ _ => y_ = .slice (some ⟨bx, ox + 4, none⟩) 16 (cx - 4)),
                    (fun y_ _ => y_ = .int .i64 (k : Int)),
                    (fun y_ _ => y_ = .int .i64 (2 * (k : Int))),
                    (fun y_ _ => y_ = .pointer (some ⟨bx, ox + 4 + 2 * k, none⟩)),
                    (fun y_ _ => y_ = .int .u64 (aa : Int)),
                    (fun y_ _ => y_ = .int .i64 (aa : Int)),
                    (fun y_ _ => y_ = .slice (some ⟨bx, ox + 4, none⟩) 16 (cx - 4)),
                    (fun y_ _ => y_ = .int .i64 (k : Int)),
                    (fun y_ _ => y_ = .int .i64 (2 * (k : Int))),
                    (fun y_ _ => y_ = .int .i64 (2 * (k : Int) + 1)),
                    (fun y_ _ => y_ = .pointer (some ⟨bx, ox + 4 + (2 * k + 1), none⟩)),
                    (fun y_ _ => y_ = .int .u64 (s : Int)),
                    (fun y_ _ => y_ = .int .u32 (s : Int)),
                    (fun y_ _ => y_ = .agg #[.int .i64 (aa : Int), .int .u32 (s : Int)]),
                    (fun y_ _ => y_ = .pointer (some ⟨gv0, 3, none⟩)),
                    (fun y_ _ => y_ = .pointer (some ⟨gv0, 3 + k * 2, none⟩)),
                    (fun y_ _ => y_ = undef)]
                    (fun (b : Bool) (x : World) => (b = false → Blk x gv0 28 (spl (ccells (ck0 X)) 3 (pcells (X.mp.take k))) ∧ x.cell? ⟨bx, ox + 4 + 2 * k, none⟩ = some (.int .u64 (aa : Int)) ∧ x.cell? ⟨bx, ox + 4 + (2 * k + 1), none⟩ = some (.int .u64 (s : Int))) ∧ (b = true → Blk x gv0 28 (spl (ccells (ck0 X)) 3 (pcells (X.mp.take (k + 1))))) ∧ w3.grownBy x (some gv0)) (fun _ _ => True) (by kernel_rfl) rfl (by decide) (by kernel_rfl) (by kernel_rfl) ?_ ?_ ?_ ?_ ?_
                  · exact hG0
                  · exact ⟨stab_eq _, stab_eq _, stab_eq _, stab_eq _, stab_eq _, stab_eq _, stab_eq _, stab_eq _, stab_eq _, stab_eq _, stab_eq _, stab_eq _, stab_eq _, stab_eq _, stab_eq _, stab_eq _, stab_eq _, stab_eq _, trivial⟩
                  · exact ⟨stabE_eq _, stabE_eq _, stabE_eq _, stabE_eq _, stabE_eq _, stabE_eq _, stabE_eq _, stabE_eq _, stabE_eq _, stabE_eq _, stabE_eq _, stabE_eq _, stabE_eq _, stabE_eq _, stabE_eq _, stabE_eq _, stabE_eq _, trivial⟩
                  · refine ⟨?_, ?_, ?_, ?_, ?_, ?_, ?_, ?_, ?_, ?_, ?_, ?_, ?_, ?_, ?_, ?_, ?_, ?_, trivial⟩
                    · intro a x hG hd hs K hK
                      replace hG : (fun (b : Bool) (x : World) => (b = false → Blk x gv0 28 (spl (ccells (ck0 X)) 3 (pcells (X.mp.take k))) ∧ x.cell? ⟨bx, ox + 4 + 2 * k, none⟩ = some (.int .u64 (aa : Int)) ∧ x.cell? ⟨bx, ox + 4 + (2 * k + 1), none⟩ = some (.int .u64 (s : Int))) ∧ (b = true → Blk x gv0 28 (spl (ccells (ck0 X)) 3 (pcells (X.mp.take (k + 1))))) ∧ w3.grownBy x (some gv0)) false x := hG
                      have h8 : a.tmps.getD 8 undef = .int .i64 (k : Int) := hs 8 (by kernel_rfl)
                      clear hd hs
                      refine wpOp_plain rfl rfl ?_
                      go_simp
                      exact hK _ _ rfl hG (Below.refl _ _)
                    · intro a x hG hd hs K hK
                      replace hG : (fun (b : Bool) (x : World) => (b = false → Blk x gv0 28 (spl (ccells (ck0 X)) 3 (pcells (X.mp.take k))) ∧ x.cell? ⟨bx, ox + 4 + 2 * k, none⟩ = some (.int .u64 (aa : Int)) ∧ x.cell? ⟨bx, ox + 4 + (2 * k + 1), none⟩ = some (.int .u64 (s : Int))) ∧ (b = true → Blk x gv0 28 (spl (ccells (ck0 X)) 3 (pcells (X.mp.take (k + 1))))) ∧ w3.grownBy x (some gv0)) false x := hG
                      have h5 : a.tmps.getD 5 undef = .slice (some ⟨bx, ox + 4, none⟩) 16 (cx - 4) := hs 5 (by kernel_rfl)
                      clear hd hs
                      refine wpOp_plain rfl rfl ?_
                      go_simp
                      exact hK _ _ rfl hG (Below.refl _ _)
                    · intro a x hG hd hs K hK
                      replace hG : (fun (b : Bool) (x : World) => (b = false → Blk x gv0 28 (spl (ccells (ck0 X)) 3 (pcells (X.mp.take k))) ∧ x.cell? ⟨bx, ox + 4 + 2 * k, none⟩ = some (.int .u64 (aa : Int)) ∧ x.cell? ⟨bx, ox + 4 + (2 * k + 1), none⟩ = some (.int .u64 (s : Int))) ∧ (b = true → Blk x gv0 28 (spl (ccells (ck0 X)) 3 (pcells (X.mp.take (k + 1))))) ∧ w3.grownBy x (some gv0)) false x := hG
                      have h8 : a.tmps.getD 8 undef = .int .i64 (k : Int) := hs 8 (by kernel_rfl)
                      clear hd hs
                      refine wpOp_plain rfl rfl ?_
                      go_simp
                      exact hK _ _ rfl hG (Below.refl _ _)
                    · intro a x hG hd hs K hK
                      replace hG : (fun (b : Bool) (x : World) => (b = false → Blk x gv0 28 (spl (ccells (ck0 X)) 3 (pcells (X.mp.take k))) ∧ x.cell? ⟨bx, ox + 4 + 2 * k, none⟩ = some (.int .u64 (aa : Int)) ∧ x.cell? ⟨bx, ox + 4 + (2 * k + 1), none⟩ = some (.int .u64 (s : Int))) ∧ (b = true → Blk x gv0 28 (spl (ccells (ck0 X)) 3 (pcells (X.mp.take (k + 1))))) ∧ w3.grownBy x (some gv0)) false x := hG
                      have h68 : a.tmps.getD 68 undef = .int .i64 (k : Int) := hd 2 68 (by kernel_rfl)
                      clear hd hs
                      refine wpOp_plain rfl rfl ?_
                      have hwr : IntKind.i64.wrap (2 * (k : Int)) = 2 * (k : Int) := IntWalk.i64_in _ (by omega)
                      go_simp
                      exact hK _ _ rfl hG (Below.refl _ _)
                    · intro a x hG hd hs K hK
                      replace hG : (fun (b : Bool) (x : World) => (b = false → Blk x gv0 28 (spl (ccells (ck0 X)) 3 (pcells (X.mp.take k))) ∧ x.cell? ⟨bx, ox + 4 + 2 * k, none⟩ = some (.int .u64 (aa : Int)) ∧ x.cell? ⟨bx, ox + 4 + (2 * k + 1), none⟩ = some (.int .u64 (s : Int))) ∧ (b = true → Blk x gv0 28 (spl (ccells (ck0 X)) 3 (pcells (X.mp.take (k + 1))))) ∧ w3.grownBy x (some gv0)) false x := hG
                      have h67 : a.tmps.getD 67 undef = .slice (some ⟨bx, ox + 4, none⟩) 16 (cx - 4) := hd 1 67 (by kernel_rfl)
                      have h69 : a.tmps.getD 69 undef = .int .i64 (2 * (k : Int)) := hd 3 69 (by kernel_rfl)
                      clear hd hs
                      refine wpOp_plain rfl rfl ?_
                      have f1 : (2 * (k : Int)).toNat = 2 * k := by omega
                      have f2 : (0 : Int) ≤ 2 * (k : Int) := by omega
                      have f3 : 2 * (k : Int) < 16 := by omega
                      go_simp
                      exact hK _ _ rfl hG (Below.refl _ _)
                    · intro a x hG hd hs K hK
                      replace hG : (fun (b : Bool) (x : World) => (b = false → Blk x gv0 28 (spl (ccells (ck0 X)) 3 (pcells (X.mp.take k))) ∧ x.cell? ⟨bx, ox + 4 + 2 * k, none⟩ = some (.int .u64 (aa : Int)) ∧ x.cell? ⟨bx, ox + 4 + (2 * k + 1), none⟩ = some (.int .u64 (s : Int))) ∧ (b = true → Blk x gv0 28 (spl (ccells (ck0 X)) 3 (pcells (X.mp.take (k + 1))))) ∧ w3.grownBy x (some gv0)) false x := hG
                      have h70 : a.tmps.getD 70 undef = .pointer (some ⟨bx, ox + 4 + 2 * k, none⟩) := hd 4 70 (by kernel_rfl)
                      clear hd hs
                      refine wpOp_plain rfl rfl ?_
                      have hc := (hG.1 rfl).2.1
                      go_simp
                      exact hK _ _ rfl hG (Below.refl _ _)
                    · intro a x hG hd hs K hK
                      replace hG : (fun (b : Bool) (x : World) => (b = false → Blk x gv0 28 (spl (ccells (ck0 X)) 3 (pcells (X.mp.take k))) ∧ x.cell? ⟨bx, ox + 4 + 2 * k, none⟩ = some (.int .u64 (aa : Int)) ∧ x.cell? ⟨bx, ox + 4 + (2 * k + 1), none⟩ = some (.int .u64 (s : Int))) ∧ (b = true → Blk x gv0 28 (spl (ccells (ck0 X)) 3 (pcells (X.mp.take (k + 1))))) ∧ w3.grownBy x (some gv0)) false x := hG
                      have h71 : a.tmps.getD 71 undef = .int .u64 (aa : Int) := hd 5 71 (by kernel_rfl)
                      clear hd hs
                      refine wpOp_plain rfl rfl ?_
                      have hwr : IntKind.i64.wrap (aa : Int) = (aa : Int) := IntWalk.i64_in _ (by omega)
                      go_simp
                      exact hK _ _ rfl hG (Below.refl _ _)
                    · intro a x hG hd hs K hK
                      replace hG : (fun (b : Bool) (x : World) => (b = false → Blk x gv0 28 (spl (ccells (ck0 X)) 3 (pcells (X.mp.take k))) ∧ x.cell? ⟨bx, ox + 4 + 2 * k, none⟩ = some (.int .u64 (aa : Int)) ∧ x.cell? ⟨bx, ox + 4 + (2 * k + 1), none⟩ = some (.int .u64 (s : Int))) ∧ (b = true → Blk x gv0 28 (spl (ccells (ck0 X)) 3 (pcells (X.mp.take (k + 1))))) ∧ w3.grownBy x (some gv0)) false x := hG
                      have h5 : a.tmps.getD 5 undef = .slice (some ⟨bx, ox + 4, none⟩) 16 (cx - 4) := hs 5 (by kernel_rfl)
                      clear hd hs
                      refine wpOp_plain rfl rfl ?_
                      go_simp
                      exact hK _ _ rfl hG (Below.refl _ _)
                    · intro a x hG hd hs K hK
                      replace hG : (fun (b : Bool) (x : World) => (b = false → Blk x gv0 28 (spl (ccells (ck0 X)) 3 (pcells (X.mp.take k))) ∧ x.cell? ⟨bx, ox + 4 + 2 * k, none⟩ = some (.int .u64 (aa : Int)) ∧ x.cell? ⟨bx, ox + 4 + (2 * k + 1), none⟩ = some (.int .u64 (s : Int))) ∧ (b = true → Blk x gv0 28 (spl (ccells (ck0 X)) 3 (pcells (X.mp.take (k + 1))))) ∧ w3.grownBy x (some gv0)) false x := hG
                      have h8 : a.tmps.getD 8 undef = .int .i64 (k : Int) := hs 8 (by kernel_rfl)
                      clear hd hs
                      refine wpOp_plain rfl rfl ?_
                      go_simp
                      exact hK _ _ rfl hG (Below.refl _ _)
                    · intro a x hG hd hs K hK
                      replace hG : (fun (b : Bool) (x : World) => (b = false → Blk x gv0 28 (spl (ccells (ck0 X)) 3 (pcells (X.mp.take k))) ∧ x.cell? ⟨bx, ox + 4 + 2 * k, none⟩ = some (.int .u64 (aa : Int)) ∧ x.cell? ⟨bx, ox + 4 + (2 * k + 1), none⟩ = some (.int .u64 (s : Int))) ∧ (b = true → Blk x gv0 28 (spl (ccells (ck0 X)) 3 (pcells (X.mp.take (k + 1))))) ∧ w3.grownBy x (some gv0)) false x := hG
                      have h74 : a.tmps.getD 74 undef = .int .i64 (k : Int) := hd 8 74 (by kernel_rfl)
                      clear hd hs
                      refine wpOp_plain rfl rfl ?_
                      have hwr : IntKind.i64.wrap (2 * (k : Int)) = 2 * (k : Int) := IntWalk.i64_in _ (by omega)
                      go_simp
                      exact hK _ _ rfl hG (Below.refl _ _)
                    · intro a x hG hd hs K hK
                      replace hG : (fun (b : Bool) (x : World) => (b = false → Blk x gv0 28 (spl (ccells (ck0 X)) 3 (pcells (X.mp.take k))) ∧ x.cell? ⟨bx, ox + 4 + 2 * k, none⟩ = some (.int .u64 (aa : Int)) ∧ x.cell? ⟨bx, ox + 4 + (2 * k + 1), none⟩ = some (.int .u64 (s : Int))) ∧ (b = true → Blk x gv0 28 (spl (ccells (ck0 X)) 3 (pcells (X.mp.take (k + 1))))) ∧ w3.grownBy x (some gv0)) false x := hG
                      have h75 : a.tmps.getD 75 undef = .int .i64 (2 * (k : Int)) := hd 9 75 (by kernel_rfl)
                      clear hd hs
                      refine wpOp_plain rfl rfl ?_
                      have hwr : IntKind.i64.wrap (2 * (k : Int) + 1) = 2 * (k : Int) + 1 := IntWalk.i64_in _ (by omega)
                      go_simp
                      exact hK _ _ rfl hG (Below.refl _ _)
                    · intro a x hG hd hs K hK
                      replace hG : (fun (b : Bool) (x : World) => (b = false → Blk x gv0 28 (spl (ccells (ck0 X)) 3 (pcells (X.mp.take k))) ∧ x.cell? ⟨bx, ox + 4 + 2 * k, none⟩ = some (.int .u64 (aa : Int)) ∧ x.cell? ⟨bx, ox + 4 + (2 * k + 1), none⟩ = some (.int .u64 (s : Int))) ∧ (b = true → Blk x gv0 28 (spl (ccells (ck0 X)) 3 (pcells (X.mp.take (k + 1))))) ∧ w3.grownBy x (some gv0)) false x := hG
                      have h73 : a.tmps.getD 73 undef = .slice (some ⟨bx, ox + 4, none⟩) 16 (cx - 4) := hd 7 73 (by kernel_rfl)
                      have h76 : a.tmps.getD 76 undef = .int .i64 (2 * (k : Int) + 1) := hd 10 76 (by kernel_rfl)
                      clear hd hs
                      refine wpOp_plain rfl rfl ?_
                      have f1 : (2 * (k : Int) + 1).toNat = 2 * k + 1 := by omega
                      have f2 : (0 : Int) ≤ 2 * (k : Int) + 1 := by omega
                      have f3 : 2 * (k : Int) + 1 < 16 := by omega
                      go_simp
                      exact hK _ _ rfl hG (Below.refl _ _)
                    · intro a x hG hd hs K hK
                      replace hG : (fun (b : Bool) (x : World) => (b = false → Blk x gv0 28 (spl (ccells (ck0 X)) 3 (pcells (X.mp.take k))) ∧ x.cell? ⟨bx, ox + 4 + 2 * k, none⟩ = some (.int .u64 (aa : Int)) ∧ x.cell? ⟨bx, ox + 4 + (2 * k + 1), none⟩ = some (.int .u64 (s : Int))) ∧ (b = true → Blk x gv0 28 (spl (ccells (ck0 X)) 3 (pcells (X.mp.take (k + 1))))) ∧ w3.grownBy x (some gv0)) false x := hG
                      have h77 : a.tmps.getD 77 undef = .pointer (some ⟨bx, ox + 4 + (2 * k + 1), none⟩) := hd 11 77 (by kernel_rfl)
                      clear hd hs
                      refine wpOp_plain rfl rfl ?_
                      have hc := (hG.1 rfl).2.2
                      go_simp
                      exact hK _ _ rfl hG (Below.refl _ _)
                    · intro a x hG hd hs K hK
                      replace hG : (fun (b : Bool) (x : World) => (b = false → Blk x gv0 28 (spl (ccells (ck0 X)) 3 (pcells (X.mp.take k))) ∧ x.cell? ⟨bx, ox + 4 + 2 * k, none⟩ = some (.int .u64 (aa : Int)) ∧ x.cell? ⟨bx, ox + 4 + (2 * k + 1), none⟩ = some (.int .u64 (s : Int))) ∧ (b = true → Blk x gv0 28 (spl (ccells (ck0 X)) 3 (pcells (X.mp.take (k + 1))))) ∧ w3.grownBy x (some gv0)) false x := hG
                      have h78 : a.tmps.getD 78 undef = .int .u64 (s : Int) := hd 12 78 (by kernel_rfl)
                      clear hd hs
                      refine wpOp_plain rfl rfl ?_
                      have hwr : IntKind.u32.wrap (s : Int) = (s : Int) := IntWalk.u32_in _ (by omega)
                      go_simp
                      exact hK _ _ rfl hG (Below.refl _ _)
                    · intro a x hG hd hs K hK
                      replace hG : (fun (b : Bool) (x : World) => (b = false → Blk x gv0 28 (spl (ccells (ck0 X)) 3 (pcells (X.mp.take k))) ∧ x.cell? ⟨bx, ox + 4 + 2 * k, none⟩ = some (.int .u64 (aa : Int)) ∧ x.cell? ⟨bx, ox + 4 + (2 * k + 1), none⟩ = some (.int .u64 (s : Int))) ∧ (b = true → Blk x gv0 28 (spl (ccells (ck0 X)) 3 (pcells (X.mp.take (k + 1))))) ∧ w3.grownBy x (some gv0)) false x := hG
                      have h72 : a.tmps.getD 72 undef = .int .i64 (aa : Int) := hd 6 72 (by kernel_rfl)
                      have h72o := getD_opt h72
                      have h79 : a.tmps.getD 79 undef = .int .u32 (s : Int) := hd 13 79 (by kernel_rfl)
                      have h79o := getD_opt h79
                      clear hd hs
                      refine wpOp_plain rfl rfl ?_
                      go_simp
                      exact hK _ _ rfl hG (Below.refl _ _)
                    · intro a x hG hd hs K hK
                      replace hG : (fun (b : Bool) (x : World) => (b = false → Blk x gv0 28 (spl (ccells (ck0 X)) 3 (pcells (X.mp.take k))) ∧ x.cell? ⟨bx, ox + 4 + 2 * k, none⟩ = some (.int .u64 (aa : Int)) ∧ x.cell? ⟨bx, ox + 4 + (2 * k + 1), none⟩ = some (.int .u64 (s : Int))) ∧ (b = true → Blk x gv0 28 (spl (ccells (ck0 X)) 3 (pcells (X.mp.take (k + 1))))) ∧ w3.grownBy x (some gv0)) false x := hG
                      have h7 : a.tmps.getD 7 undef = .pointer (some ⟨gv0, 0, none⟩) := hs 7 (by kernel_rfl)
                      clear hd hs
                      refine wpOp_plain rfl rfl ?_
                      go_simp
                      exact hK _ _ rfl hG (Below.refl _ _)
                    · intro a x hG hd hs K hK
                      replace hG : (fun (b : Bool) (x : World) => (b = false → Blk x gv0 28 (spl (ccells (ck0 X)) 3 (pcells (X.mp.take k))) ∧ x.cell? ⟨bx, ox + 4 + 2 * k, none⟩ = some (.int .u64 (aa : Int)) ∧ x.cell? ⟨bx, ox + 4 + (2 * k + 1), none⟩ = some (.int .u64 (s : Int))) ∧ (b = true → Blk x gv0 28 (spl (ccells (ck0 X)) 3 (pcells (X.mp.take (k + 1))))) ∧ w3.grownBy x (some gv0)) false x := hG
                      have h81 : a.tmps.getD 81 undef = .pointer (some ⟨gv0, 3, none⟩) := hd 15 81 (by kernel_rfl)
                      have h66 : a.tmps.getD 66 undef = .int .i64 (k : Int) := hd 0 66 (by kernel_rfl)
                      clear hd hs
                      refine wpOp_plain rfl rfl ?_
                      go_simp
                      exact hK _ _ rfl hG (Below.refl _ _)
                    · intro a x hG hd hs K hK
                      replace hG : (fun (b : Bool) (x : World) => (b = false → Blk x gv0 28 (spl (ccells (ck0 X)) 3 (pcells (X.mp.take k))) ∧ x.cell? ⟨bx, ox + 4 + 2 * k, none⟩ = some (.int .u64 (aa : Int)) ∧ x.cell? ⟨bx, ox + 4 + (2 * k + 1), none⟩ = some (.int .u64 (s : Int))) ∧ (b = true → Blk x gv0 28 (spl (ccells (ck0 X)) 3 (pcells (X.mp.take (k + 1))))) ∧ w3.grownBy x (some gv0)) false x := hG
                      have h82 : a.tmps.getD 82 undef = .pointer (some ⟨gv0, 3 + k * 2, none⟩) := hd 16 82 (by kernel_rfl)
                      have h80 : a.tmps.getD 80 undef = .agg #[.int .i64 (aa : Int), .int .u32 (s : Int)] := hd 14 80 (by kernel_rfl)
                      clear hd hs
                      refine wpOp_plain rfl rfl ?_
                      have hll : (spl (ccells (ck0 X)) 3 (pcells (X.mp.take k))).length = 19 := by rw [spl_len _ _ _ (by rw [HPL.out, ccells_len _ rfl rfl]; omega), ccells_len _ rfl rfl]
                      refine wp_store_mid 24 (.tmp 82) (.tmp 80) rfl gv0 (3 + k * 2) #[.int .i64 (aa : Int), .int .u32 (s : Int)] h82 h80 ((hG.1 rfl).1.there _ 2 (by rw [hll]; omega)) (by kernel_rfl) (by simp [Value.oneCell']) ?_
                      refine hK _ _ rfl ⟨(fun h => by cases h), fun _ => ?_, hG.2.2.trans (grown_setCells _ _ _)⟩ trivial
                      rw [HPT.out]
                      exact (hG.1 rfl).1.put _ (by rw [HPL.out, ccells_len _ rfl rfl]; simp; omega) (by rw [HPL.out])
                  · intro x hG
                    rintro _ rfl _ rfl _ rfl _ rfl _ rfl _ rfl _ rfl _ rfl _ rfl _ rfl _ rfl _ rfl _ rfl _ rfl _ rfl _ rfl _ rfl
                    simp only [Act.put, List.setIfInBounds_toArray, List.set_cons_zero, List.set_cons_succ, REnd]
                    try simp only [Exit.then]
                    go_wp2
                    go_roundw
                    case rel => exact ⟨k + 1, by omega, by go_num, hG.2.1 rfl, hG.2.2⟩
                    case measure => simp [intOf]; omega
                · obtain rfl : k = 4 := by omega
                  rw [List.take_of_length_le (by rw [HLX.out.1]; omega)] at hkb
                  have HLB := Lib.hid (show (spl (ccells (ck0 X)) 3 (pcells X.mp)).length = 19 by rw [spl_len _ _ _ (by rw [pcells_len, HLX.out.1, ccells_len _ rfl rfl]; omega), ccells_len _ rfl rfl])
                  have HSP := Lib.hid (ck0_spl X HLX.out.1 HLX.out.2.1)
                  generalize spl (ccells (ck0 X)) 3 (pcells X.mp) = cs at *
                  obtain ⟨w4, hw4⟩ : ∃ w4, w4 = wr := ⟨_, rfl⟩
                  rw [← hw4] at hkb hgr ⊢
                  clear hw4
                  rw [show (((4 : Nat) : Int)) = 4 from rfl]
                  have z5 : ox + 4 + 8 = ox + 12 := by omega
                  go_wp2
                  go_loopw [9, 86] (fun _ i wr => ∃ k : Nat, k ≤ 8 ∧ i = .int .i64 k ∧ Blk wr gv0 28 (spl cs 11 (ucells (X.us.take k))) ∧ w3.grownBy wr (some gv0)) (fun _ i _ => 8 - (intOf i).toNat)
                  case atStart => exact ⟨0, by omega, rfl, by rw [List.take_zero, show ucells [] = [] from rfl, spl_nil]; exact hkb, hgr⟩
                  case round =>
                    obtain ⟨k, hk, rfl, hkb2, hgr2⟩ := hrel
                    clear hkb hgr
                    by_cases hlt : k < 8
                    · have hkl : k < X.us.length := by rw [HLX.out.2.1]; exact hlt
                      have hn := HUS.out k hkl
                      have hbd := HUB.out _ (List.getElem_mem hkl)
                      have HY0 := Lib.hid (HV3.out (12 + k) (by omega))
                      rw [hn] at HY0
                      have HPT := Lib.hid (show ucells (X.us.take (k + 1)) = ucells (X.us.take k) ++ [.int .i64 X.us[k]] by unfold ucells; rw [List.take_succ_eq_append_getElem hkl, List.map_append]; rfl)
                      have HPL := Lib.hid (show (ucells (X.us.take k)).length = k by rw [ucells_len, List.length_take, HLX.out.2.1]; omega)
                      clear hn
                      generalize X.us[k] = uu at *
                      obtain ⟨un, rfl⟩ := Int.eq_ofNat_of_zero_le hbd.1
                      rw [Int.toNat_natCast] at HY0
                      have y1 : un < 65536 := by omega
                      clear hbd
                      have z0 := cell_grown hgr2 hbx3 hneb HY0.out
                      rw [← Nat.add_assoc] at z0
                      have hll : (spl cs 11 (ucells (X.us.take k))).length = 19 := by rw [spl_len _ _ _ (by rw [HPL.out, HLB.out]; omega), HLB.out]
                      have z2 := hkb2.cell (11 + k)
                      rw [List.getElem?_eq_getElem (by omega)] at z2
                      have z3 := hkb2.frozen (11 + k)
                      generalize (spl cs 11 (ucells (X.us.take k)))[11 + k] = old at z2
                      have hkb3 := hkb2.put [.int .i64 (un : Int)] (by rw [HPL.out, HLB.out]; simp; omega) (o := 11 + k) (by rw [HPL.out])
                      rw [← HPT.out] at hkb3
                      have hgr3 := hgr2.trans (grown_setCells (g := gv0) [.int .i64 (un : Int)] wr (11 + k))
                      have HF := Lib.hid (And.intro hkb3 hgr3)
                      clear HY0 hll hkb2 hgr2 hkb3 hgr3
                      have i1 : (k : Int) < 8 := by omega
                      have i2 : (k : Int) < 16 - 8 := by omega
                      go_wp2
                      go_roundw
                      case rel => exact ⟨k + 1, by omega, by go_num, HF.out.1, HF.out.2⟩
                      case measure => simp [intOf]; omega
                    · obtain rfl : k = 8 := by omega
                      rw [List.take_of_length_le (by rw [HLX.out.2.1]; omega), HSP.out] at hkb2
                      have kz2 := kz.grown hgr2 (fun e => by injection e with e; exact hne0 e)
                      have c4 := below_of_grown c3 hgr2 hg7 (by have := c3.size; omega)
                      have HIN := Lib.hid (infoC X HLX.out.1 HLX.out.2.1)
                      have HLZ := Lib.hid (show 0 + (ccells X).toArray.size ≤ (ccells Ck.Ck.zero).length by rw [List.size_toArray, ccells_len _ HLX.out.1 HLX.out.2.1, ccells_len _ rfl rfl]; omega)
                      go_wp2_with (first | refine wpList_load_at 28 (.tmp 7) rfl rfl gv0 0 rfl (ccells X) _ hkb2.range Tryd.underlying28 rfl HIN.out ?_ | refine wpList_store_mid rfl 28 (.tmp 2) (.tmp 98) rfl g0 0 (ccells X).toArray rfl rfl (kz2.there 0 _ HLZ.out) HIN.out (all_oneCell_toArray ccells_one) ?_)
                      have hz := kz2.setCells (ccells X) 0 (by rw [ccells_len _ HLX.out.1 HLX.out.2.1, ccells_len _ rfl rfl]; omega)
                      rw [spl_all _ _ (by rw [ccells_len _ HLX.out.1 HLX.out.2.1, ccells_len _ rfl rfl])] at hz
                      have bz := below_setCells (o := 0) (vs := ccells X) c4 hg1
                      refine bodyPost_ret (v := .tuple #[cagg X, .bool true]) (res_cell2 (ccells X) _ Tryd.results19 rfl hz.range Tryd.underlying28 rfl HIN.out rfl) rfl ?_
                      have hfin := ReadR.yes HE.out bz
                      rw [HXX.out] at hfin
                      exact hfin
end Go.Proofs.YtkkbmhlmgbepjaaDoor
