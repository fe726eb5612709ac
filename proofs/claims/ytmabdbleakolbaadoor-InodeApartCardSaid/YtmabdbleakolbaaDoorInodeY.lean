/-
  The walk of inode.pointers: it reads pointers out of octets into an array in memory. By an AI agent.
-/
import Derived.Test.YtmabdbleakolbaaDoorInodeW
import Derived.Test.YtmabdbleakolbaaDoorMid
namespace Go.Proofs.YtmabdbleakolbaaDoor
open Go.RowKit Go.ChangeShapes Go.WideShapes Go.ChangeAt

theorem uerr_44 (l : List UInt8) (h : 8 ≤ l.length) : Pk.uerr l [4, 4] = 0 ∧ Pk.unpacked l [4, 4] = [Pk.val (l.take 4), Pk.val ((l.drop 4).take 4)] := by
  have e : Pk.uerr l [4, 4] = 0 := by
    unfold Pk.uerr
    rw [if_pos (by decide), if_neg (by rw [show Pk.need [4, 4] = 8 from rfl]; omega)]
  refine ⟨e, ?_⟩
  unfold Pk.unpacked
  rw [if_pos e]
  rfl
theorem Blk.ptr_set {w : World} {g : Nat} {T : TypeId} {cs : List Value} {l : List UInt8} {k off : Nat} (h : Blk w g T (spl cs off (pcells (Nd.ptrsOf l k)))) (hl : off + (k + 1) * 2 ≤ cs.length) (z : Int) (s : Nat) (hz : Nd.ptrAt l k = (z, s)) :
    Blk (w.setCells g (off + k * 2) [.int .i64 z, .int .u32 (s : Int)]) g T (spl cs off (pcells (Nd.ptrsOf l (k + 1)))) := by
  have hp : (pcells (Nd.ptrsOf l k)).length = k * 2 := by rw [pcells_len, Nd.ptrsOf_len]
  have h1 := h.setCells [.int .i64 z, .int .u32 (s : Int)] (off + k * 2) (by rw [spl_len _ _ _ (by rw [hp]; omega)]; simp; omega)
  have h2 := spl_spl cs off (pcells (Nd.ptrsOf l k)) [.int .i64 z, .int .u32 (s : Int)] (by rw [hp]; simp; omega)
  rw [hp] at h2
  rw [h2] at h1
  rw [Nd.ptrsOf_snoc, pcells_app, hz]
  exact h1

theorem grown_drew {a w : World} {row : Option Nat} (h : a.grownBy w row) : a.grownBy w.drew row := ⟨h.os, h.tape, h.output, h.size, h.block⟩
set_option maxRecDepth 100000 in
set_option maxHeartbeats 4000000 in
theorem pointers_any (w : World) (v : Value) (B g off n c : Nat) (l : List UInt8) (T : TypeId) (cs : List Value) (h : Bs w B v l) (hB : B ≤ g) (hk : Blk w g T cs) (hcs : off + n * 2 ≤ cs.length) (hl : 8 * n ≤ l.length) (hn : n ≤ 100) (hnc : n ≤ c) :
    Calls Tryd.prog 32 #[v, .slice (some ⟨g, off, none⟩) n c] w fun e w' => e = .returned (.bool (Pk.clr l ((8 * n : Nat) : Int))) ∧ Blk w' g T (spl cs off (pcells (Nd.ptrsOf l n))) ∧ w.grownBy w' (some g) := by
  obtain ⟨A, cb, rfl, hcb, hmb, _⟩ := h.openD
  have HB := Lib.hid h
  clear h
  go_enter Tryd.func32, Tryd.ntmps32
  go_wp2
  go_loopw [10] (fun i wr => ∃ k : Nat, k ≤ n ∧ i = .int .i64 k ∧ Blk wr g T (spl cs off (pcells (Nd.ptrsOf l k))) ∧ w.grownBy wr (some g)) (fun i _ => n - (intOf i).toNat)
  case atStart => exact ⟨0, Nat.zero_le _, rfl, by rw [show Nd.ptrsOf l 0 = [] from rfl, show pcells [] = [] from rfl, spl_nil]; exact hk, World.grownBy.refl w _⟩
  case round =>
    obtain ⟨k, hkn, rfl, hkb, hgr⟩ := hrel
    have hs := hgr.size
    have hBs : Bs wr B (.slice A l.length cb) l := Rds.keep HB.out fun p hp => World.cell?_of_block (hgr.block p.block (by have := hk.lt; omega) (fun e => by injection e with e; omega))
    have hgl := hkb.lt
    by_cases hlt : k < n
    · have ht := hBs.tail (k := 8 * k) (by omega)
      rw [if_neg (by omega)] at ht
      obtain ⟨A', cb', hA', _, _, hc'⟩ := hBs.openD
      obtain ⟨ba, oa, rfl, hba, _⟩ := hc' 0 (by omega)
      injection hA' with hA' hln hcc
      subst hA' hcc
      clear hln
      clear hc'
      simp only [Option.map_some, add_plain] at ht
      rw [show oa + 8 * k = oa + k * 8 by omega, show l.length - 8 * k = l.length - k * 8 by omega, show cb - 8 * k = cb - k * 8 by omega] at ht
      have HT := Lib.hid ht
      have g1 : k * 8 ≤ l.length := by omega
      have g2 : k * 8 < cb := by omega
      have g3 : ((k : Int) * 8).toNat = k * 8 := by omega
      clear ht hBs
      go_wp2_with fail
      have b1 := (Below.refl wr.heap.size wr).alloc (Nat.le_refl _) (.cells #[.int .i64 4, .int .i64 4] 3)
      obtain ⟨ue, uv⟩ := uerr_44 (l.drop (8 * k)) (by rw [List.length_drop]; omega)
      refine (unpack_any _ _ _ (wr.heap.size + 1) (l.drop (8 * k)) [4, 4] (Bs.more (HT.out.ext (by omega) b1) (by omega)) (Is.lit .i64 wr _ _ [4, 4] 2 rfl rfl (by simp [maxLen])) (by simp) (by simp)).mono ?_
      rintro e w2 ⟨x, rfl, hown, hb2⟩
      rw [ue]
      rw [uv, List.drop_drop] at hown
      have c2 := b1.trans (hb2.mono b1.size)
      have hsx : Us w2 w2.heap.size x [Pk.val ((l.drop (8 * k)).take 4), Pk.val ((l.drop (8 * k + 4)).take 4)] := Us.of_own hown
      have hgr2 := hgr.trans (grown_of_below c2 (some g))
      have hkb2 := hkb.ext c2
      have HP := Lib.hid (show Nd.ptrAt l k = (((Pk.val ((l.drop (8 * k)).take 4) : Nat) : Int), Pk.val ((l.drop (8 * k + 4)).take 4)) from rfl)
      have hV0 : Pk.val ((l.drop (8 * k)).take 4) < 4294967296 := Nd.val_lt_of _ 4
      have hV1 : Pk.val ((l.drop (8 * k + 4)).take 4) < 4294967296 := Nd.val_lt_of _ 4
      generalize Pk.val ((l.drop (8 * k)).take 4) = V0 at *
      generalize Pk.val ((l.drop (8 * k + 4)).take 4) = V1 at *
      obtain ⟨A2, c2', rfl, hc2, hm2, hcell2⟩ := hsx.openD
      obtain ⟨bx, ox, rfl, hbx, hex⟩ := hcell2 0 (by simp)
      obtain ⟨bx', ox', hb', _, hex1⟩ := hcell2 1 (by simp)
      injection hb' with hb'
      injection hb' with e1 e2
      subst e1 e2
      simp only [List.getD_cons_zero, List.getD_cons_succ, Nat.add_zero, List.length_cons, List.length_nil, Nat.zero_add, Nat.reduceAdd] at hex hex1 hc2
      simp only [List.length_cons, List.length_nil, Nat.zero_add, Nat.reduceAdd]
      clear hcell2 hsx hown uv ue HT hgr hkb c2 b1 hb2
      go_wp2_with fail
      have hG0 : (fun (b : Bool) (x : World) => (b = false → Blk x g T (spl cs off (pcells (Nd.ptrsOf l k))) ∧ x.cell? ⟨bx, ox, none⟩ = some (.int .u64 (V0 : Int)) ∧ x.cell? ⟨bx, ox + 1, none⟩ = some (.int .u64 (V1 : Int))) ∧ (b = true → Blk x g T (spl cs off (pcells (Nd.ptrsOf l (k + 1))))) ∧ w.grownBy x (some g)) false w2.drew := ⟨fun _ => ⟨hkb2.drew, hex, hex1⟩, (fun h => by cases h), grown_drew hgr2⟩
      refine wp_region_tail 13 12 [(fun y_ _ => y_ = .slice (some ⟨g, off, none⟩) n c),
        (fun y_ _ => y_ = .int .i64 (k : Int)),
        (fun y_ _ => y_ = .slice (some ⟨bx, ox, none⟩) 2 c2'),
        (fun y_ _ => y_ = .pointer (some ⟨bx, ox, none⟩)),
        (fun y_ _ => y_ = .int .u64 (V0 : Int)),
        (fun y_ _ => y_ = .int .i64 (V0 : Int)),
        (fun y_ _ => y_ = .slice (some ⟨bx, ox, none⟩) 2 c2'),
        (fun y_ _ => y_ = .pointer (some ⟨bx, ox + 1, none⟩)),
        (fun y_ _ => y_ = .int .u64 (V1 : Int)),
        (fun y_ _ => y_ = .int .u32 (V1 : Int)),
        (fun y_ _ => y_ = .agg #[.int .i64 (V0 : Int), .int .u32 (V1 : Int)]),
        (fun y_ _ => y_ = .pointer (some ⟨g, off + k * 2, none⟩)),
        (fun y_ _ => y_ = undef)]
        (fun (b : Bool) (x : World) => (b = false → Blk x g T (spl cs off (pcells (Nd.ptrsOf l k))) ∧ x.cell? ⟨bx, ox, none⟩ = some (.int .u64 (V0 : Int)) ∧ x.cell? ⟨bx, ox + 1, none⟩ = some (.int .u64 (V1 : Int))) ∧ (b = true → Blk x g T (spl cs off (pcells (Nd.ptrsOf l (k + 1))))) ∧ w.grownBy x (some g)) (fun _ _ => True) (by kernel_rfl) rfl (by decide) (by kernel_rfl) (by kernel_rfl) ?_ ?_ ?_ ?_ ?_
      · exact hG0
      · exact ⟨stab_eq _, stab_eq _, stab_eq _, stab_eq _, stab_eq _, stab_eq _, stab_eq _, stab_eq _, stab_eq _, stab_eq _, stab_eq _, stab_eq _, stab_eq _, trivial⟩
      · exact ⟨stabE_eq _, stabE_eq _, stabE_eq _, stabE_eq _, stabE_eq _, stabE_eq _, stabE_eq _, stabE_eq _, stabE_eq _, stabE_eq _, stabE_eq _, stabE_eq _, trivial⟩
      · refine ⟨?_, ?_, ?_, ?_, ?_, ?_, ?_, ?_, ?_, ?_, ?_, ?_, ?_, trivial⟩
        · intro a x hG hd hs K hK
          replace hG : (fun (b : Bool) (x : World) => (b = false → Blk x g T (spl cs off (pcells (Nd.ptrsOf l k))) ∧ x.cell? ⟨bx, ox, none⟩ = some (.int .u64 (V0 : Int)) ∧ x.cell? ⟨bx, ox + 1, none⟩ = some (.int .u64 (V1 : Int))) ∧ (b = true → Blk x g T (spl cs off (pcells (Nd.ptrsOf l (k + 1))))) ∧ w.grownBy x (some g)) false x := hG
          have h1 : a.tmps.getD 1 undef = .slice (some ⟨g, off, none⟩) n c := hs 1 (by kernel_rfl)
          clear hd hs
          refine wpOp_plain rfl rfl ?_
          go_simp
          exact hK _ _ rfl hG (Below.refl _ _)
        · intro a x hG hd hs K hK
          replace hG : (fun (b : Bool) (x : World) => (b = false → Blk x g T (spl cs off (pcells (Nd.ptrsOf l k))) ∧ x.cell? ⟨bx, ox, none⟩ = some (.int .u64 (V0 : Int)) ∧ x.cell? ⟨bx, ox + 1, none⟩ = some (.int .u64 (V1 : Int))) ∧ (b = true → Blk x g T (spl cs off (pcells (Nd.ptrsOf l (k + 1))))) ∧ w.grownBy x (some g)) false x := hG
          have h5 : a.tmps.getD 5 undef = .int .i64 (k : Int) := hs 5 (by kernel_rfl)
          clear hd hs
          refine wpOp_plain rfl rfl ?_
          go_simp
          exact hK _ _ rfl hG (Below.refl _ _)
        · intro a x hG hd hs K hK
          replace hG : (fun (b : Bool) (x : World) => (b = false → Blk x g T (spl cs off (pcells (Nd.ptrsOf l k))) ∧ x.cell? ⟨bx, ox, none⟩ = some (.int .u64 (V0 : Int)) ∧ x.cell? ⟨bx, ox + 1, none⟩ = some (.int .u64 (V1 : Int))) ∧ (b = true → Blk x g T (spl cs off (pcells (Nd.ptrsOf l (k + 1))))) ∧ w.grownBy x (some g)) false x := hG
          have h6 : a.tmps.getD 6 undef = .slice (some ⟨bx, ox, none⟩) 2 c2' := hs 6 (by kernel_rfl)
          clear hd hs
          refine wpOp_plain rfl rfl ?_
          go_simp
          exact hK _ _ rfl hG (Below.refl _ _)
        · intro a x hG hd hs K hK
          replace hG : (fun (b : Bool) (x : World) => (b = false → Blk x g T (spl cs off (pcells (Nd.ptrsOf l k))) ∧ x.cell? ⟨bx, ox, none⟩ = some (.int .u64 (V0 : Int)) ∧ x.cell? ⟨bx, ox + 1, none⟩ = some (.int .u64 (V1 : Int))) ∧ (b = true → Blk x g T (spl cs off (pcells (Nd.ptrsOf l (k + 1))))) ∧ w.grownBy x (some g)) false x := hG
          have h26 : a.tmps.getD 26 undef = .slice (some ⟨bx, ox, none⟩) 2 c2' := hd 2 26 (by kernel_rfl)
          clear hd hs
          refine wpOp_plain rfl rfl ?_
          go_simp
          exact hK _ _ rfl hG (Below.refl _ _)
        · intro a x hG hd hs K hK
          replace hG : (fun (b : Bool) (x : World) => (b = false → Blk x g T (spl cs off (pcells (Nd.ptrsOf l k))) ∧ x.cell? ⟨bx, ox, none⟩ = some (.int .u64 (V0 : Int)) ∧ x.cell? ⟨bx, ox + 1, none⟩ = some (.int .u64 (V1 : Int))) ∧ (b = true → Blk x g T (spl cs off (pcells (Nd.ptrsOf l (k + 1))))) ∧ w.grownBy x (some g)) false x := hG
          have h27 : a.tmps.getD 27 undef = .pointer (some ⟨bx, ox, none⟩) := hd 3 27 (by kernel_rfl)
          clear hd hs
          refine wpOp_plain rfl rfl ?_
          have hc := (hG.1 rfl).2.1
          go_simp
          exact hK _ _ rfl hG (Below.refl _ _)
        · intro a x hG hd hs K hK
          replace hG : (fun (b : Bool) (x : World) => (b = false → Blk x g T (spl cs off (pcells (Nd.ptrsOf l k))) ∧ x.cell? ⟨bx, ox, none⟩ = some (.int .u64 (V0 : Int)) ∧ x.cell? ⟨bx, ox + 1, none⟩ = some (.int .u64 (V1 : Int))) ∧ (b = true → Blk x g T (spl cs off (pcells (Nd.ptrsOf l (k + 1))))) ∧ w.grownBy x (some g)) false x := hG
          have h28 : a.tmps.getD 28 undef = .int .u64 (V0 : Int) := hd 4 28 (by kernel_rfl)
          clear hd hs
          refine wpOp_plain rfl rfl ?_
          have hwr : IntKind.i64.wrap (V0 : Int) = (V0 : Int) := IntWalk.i64_in _ (by omega)
          go_simp
          exact hK _ _ rfl hG (Below.refl _ _)
        · intro a x hG hd hs K hK
          replace hG : (fun (b : Bool) (x : World) => (b = false → Blk x g T (spl cs off (pcells (Nd.ptrsOf l k))) ∧ x.cell? ⟨bx, ox, none⟩ = some (.int .u64 (V0 : Int)) ∧ x.cell? ⟨bx, ox + 1, none⟩ = some (.int .u64 (V1 : Int))) ∧ (b = true → Blk x g T (spl cs off (pcells (Nd.ptrsOf l (k + 1))))) ∧ w.grownBy x (some g)) false x := hG
          have h6 : a.tmps.getD 6 undef = .slice (some ⟨bx, ox, none⟩) 2 c2' := hs 6 (by kernel_rfl)
          clear hd hs
          refine wpOp_plain rfl rfl ?_
          go_simp
          exact hK _ _ rfl hG (Below.refl _ _)
        · intro a x hG hd hs K hK
          replace hG : (fun (b : Bool) (x : World) => (b = false → Blk x g T (spl cs off (pcells (Nd.ptrsOf l k))) ∧ x.cell? ⟨bx, ox, none⟩ = some (.int .u64 (V0 : Int)) ∧ x.cell? ⟨bx, ox + 1, none⟩ = some (.int .u64 (V1 : Int))) ∧ (b = true → Blk x g T (spl cs off (pcells (Nd.ptrsOf l (k + 1))))) ∧ w.grownBy x (some g)) false x := hG
          have h30 : a.tmps.getD 30 undef = .slice (some ⟨bx, ox, none⟩) 2 c2' := hd 6 30 (by kernel_rfl)
          clear hd hs
          refine wpOp_plain rfl rfl ?_
          go_simp
          exact hK _ _ rfl hG (Below.refl _ _)
        · intro a x hG hd hs K hK
          replace hG : (fun (b : Bool) (x : World) => (b = false → Blk x g T (spl cs off (pcells (Nd.ptrsOf l k))) ∧ x.cell? ⟨bx, ox, none⟩ = some (.int .u64 (V0 : Int)) ∧ x.cell? ⟨bx, ox + 1, none⟩ = some (.int .u64 (V1 : Int))) ∧ (b = true → Blk x g T (spl cs off (pcells (Nd.ptrsOf l (k + 1))))) ∧ w.grownBy x (some g)) false x := hG
          have h31 : a.tmps.getD 31 undef = .pointer (some ⟨bx, ox + 1, none⟩) := hd 7 31 (by kernel_rfl)
          clear hd hs
          refine wpOp_plain rfl rfl ?_
          have hc := (hG.1 rfl).2.2
          go_simp
          exact hK _ _ rfl hG (Below.refl _ _)
        · intro a x hG hd hs K hK
          replace hG : (fun (b : Bool) (x : World) => (b = false → Blk x g T (spl cs off (pcells (Nd.ptrsOf l k))) ∧ x.cell? ⟨bx, ox, none⟩ = some (.int .u64 (V0 : Int)) ∧ x.cell? ⟨bx, ox + 1, none⟩ = some (.int .u64 (V1 : Int))) ∧ (b = true → Blk x g T (spl cs off (pcells (Nd.ptrsOf l (k + 1))))) ∧ w.grownBy x (some g)) false x := hG
          have h32 : a.tmps.getD 32 undef = .int .u64 (V1 : Int) := hd 8 32 (by kernel_rfl)
          clear hd hs
          refine wpOp_plain rfl rfl ?_
          have hwr : IntKind.u32.wrap (V1 : Int) = (V1 : Int) := IntWalk.u32_in _ (by omega)
          go_simp
          exact hK _ _ rfl hG (Below.refl _ _)
        · intro a x hG hd hs K hK
          replace hG : (fun (b : Bool) (x : World) => (b = false → Blk x g T (spl cs off (pcells (Nd.ptrsOf l k))) ∧ x.cell? ⟨bx, ox, none⟩ = some (.int .u64 (V0 : Int)) ∧ x.cell? ⟨bx, ox + 1, none⟩ = some (.int .u64 (V1 : Int))) ∧ (b = true → Blk x g T (spl cs off (pcells (Nd.ptrsOf l (k + 1))))) ∧ w.grownBy x (some g)) false x := hG
          have h29 : a.tmps.getD 29 undef = .int .i64 (V0 : Int) := hd 5 29 (by kernel_rfl)
          have h29o := getD_opt h29
          have h33 : a.tmps.getD 33 undef = .int .u32 (V1 : Int) := hd 9 33 (by kernel_rfl)
          have h33o := getD_opt h33
          clear hd hs
          refine wpOp_plain rfl rfl ?_
          go_simp
          exact hK _ _ rfl hG (Below.refl _ _)
        · intro a x hG hd hs K hK
          replace hG : (fun (b : Bool) (x : World) => (b = false → Blk x g T (spl cs off (pcells (Nd.ptrsOf l k))) ∧ x.cell? ⟨bx, ox, none⟩ = some (.int .u64 (V0 : Int)) ∧ x.cell? ⟨bx, ox + 1, none⟩ = some (.int .u64 (V1 : Int))) ∧ (b = true → Blk x g T (spl cs off (pcells (Nd.ptrsOf l (k + 1))))) ∧ w.grownBy x (some g)) false x := hG
          have h24 : a.tmps.getD 24 undef = .slice (some ⟨g, off, none⟩) n c := hd 0 24 (by kernel_rfl)
          have h25 : a.tmps.getD 25 undef = .int .i64 (k : Int) := hd 1 25 (by kernel_rfl)
          clear hd hs
          refine wpOp_plain rfl rfl ?_
          go_simp
          exact hK _ _ rfl hG (Below.refl _ _)
        · intro a x hG hd hs K hK
          replace hG : (fun (b : Bool) (x : World) => (b = false → Blk x g T (spl cs off (pcells (Nd.ptrsOf l k))) ∧ x.cell? ⟨bx, ox, none⟩ = some (.int .u64 (V0 : Int)) ∧ x.cell? ⟨bx, ox + 1, none⟩ = some (.int .u64 (V1 : Int))) ∧ (b = true → Blk x g T (spl cs off (pcells (Nd.ptrsOf l (k + 1))))) ∧ w.grownBy x (some g)) false x := hG
          have h35 : a.tmps.getD 35 undef = .pointer (some ⟨g, off + k * 2, none⟩) := hd 11 35 (by kernel_rfl)
          have h34 : a.tmps.getD 34 undef = .agg #[.int .i64 (V0 : Int), .int .u32 (V1 : Int)] := hd 10 34 (by kernel_rfl)
          clear hd hs
          refine wpOp_plain rfl rfl ?_
          refine wp_store_mid 24 (.tmp 35) (.tmp 34) rfl g (off + k * 2) #[.int .i64 (V0 : Int), .int .u32 (V1 : Int)] h35 h34 ((hG.1 rfl).1.there _ 2 ?_) (by kernel_rfl) (by simp [Value.oneCell']) ?_
          · rw [spl_len _ _ _ (by rw [pcells_len, Nd.ptrsOf_len]; omega)]; omega
          · exact hK _ _ rfl ⟨(fun h => by cases h), fun _ => (hG.1 rfl).1.ptr_set (by omega) V0 V1 HP.out, hG.2.2.trans (grown_setCells _ _ _)⟩ trivial
      · intro x hG
        rintro _ rfl _ rfl _ rfl _ rfl _ rfl _ rfl _ rfl _ rfl _ rfl _ rfl _ rfl _ rfl
        simp only [Act.put, List.setIfInBounds_toArray, List.set_cons_zero, List.set_cons_succ, REnd]
        try simp only [Exit.then]
        go_wp2
        go_roundw
        case rel => exact ⟨k + 1, by omega, by go_num, hG.2.1 rfl, hG.2.2⟩
        case measure => simp [intOf]; omega
    · obtain rfl : k = n := by omega
      have HC := Lib.hid (show ((8 * k : Nat) : Int) = (k : Int) * 8 by omega)
      clear HB hlt
      go_wp2_with fail
      refine (clear_any _ _ B l ((k : Int) * 8) hBs (by omega)).mono ?_
      rintro e w' ⟨rfl, rfl⟩
      go_wp2
      go_ret
      exact ⟨by rw [HC.out]; rfl, hkb, hgr⟩
end Go.Proofs.YtmabdbleakolbaaDoor
