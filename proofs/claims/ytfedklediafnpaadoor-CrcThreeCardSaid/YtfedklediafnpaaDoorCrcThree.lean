/-
  CrcThree: of three times as many octets the sums, exclusive-or, are the sum of the octets, exclusive-or. For every input; the table of halves holds what its initialiser lays (the card ties it).
-/
import Derived.Test.YtfedklediafnpaaDoorCrcL
import Derived.Test.YtfedklediafnpaaDoorDoor
import Derived.Test.YtfedklediafnpaaDoorRegion
import Derived.Deep.DeepCutAuto
namespace Go.Proofs.YtfedklediafnpaaDoor
open Go.ChangeShapes Go.WideShapes Go.ChangeAt Go.RowKit

theorem infoU8 : (Tryd.prog.info? 5).map (fun i => (i.zero, i.size, i.bytes)) = some (some (.int .u8 0), 1, 1) := by kernel_rfl

set_option maxRecDepth 100000 in
set_option maxHeartbeats 1000000 in
theorem crcThree_walk (w : World) (v0 v1 v2 : Value) (l0 l1 l2 : List UInt8) (hH : Halves w) (h0 : Bs w w.heap.size v0 l0) (h1 : Bs w w.heap.size v1 l1) (h2 : Bs w w.heap.size v2 l2) :
    Calls Tryd.prog 5 #[v0, v1, v2] w fun e w' => e = .returned (.bool true) ∧ Below w.heap.size w w' := by
  go_enter Tryd.func5, Tryd.ntmps5
  go_wp2_with fail
  refine (few_any _ _ _ _ h0).mono ?_
  rintro e w' ⟨u0, rfl, b0, rfl⟩
  go_wp2_with fail
  refine (few_any _ _ _ _ h1).mono ?_
  rintro e w' ⟨u1, rfl, b1, rfl⟩
  go_wp2_with fail
  refine (few_any _ _ _ _ h2).mono ?_
  rintro e w' ⟨u2, rfl, b2, rfl⟩
  have hm0 : (l0.take 300).length ≤ 300 := by rw [List.length_take]; omega
  generalize l0.take 300 = m0 at *
  generalize l1.take 300 = m1 at *
  generalize l2.take 300 = m2 at *
  obtain ⟨A0, c0, rfl, hc0, hx0, hcell0⟩ := b0.openD
  obtain ⟨A1, c1, rfl, hc1, hx1, hcell1⟩ := b1.openD
  obtain ⟨A2, c2, rfl, hc2, hx2, hcell2⟩ := b2.openD
  clear h0 h1 h2
  go_upto_if 21 with fail
  go_cut [7] (fun s wx => w = wx ∧ ∃ n : Nat, s = .int .i64 n ∧ n ≤ m0.length ∧ n ≤ m1.length)
  case first =>
    by_cases h : m1.length < m0.length
    · have h' : (m1.length : Int) < m0.length := by omega
      go_wp2
      go_meet
      exact ⟨rfl, _, rfl, by omega, by omega⟩
    · have h' : ¬ (m1.length : Int) < m0.length := by omega
      go_wp2
      go_meet
      exact ⟨rfl, _, rfl, by omega, by omega⟩
  case rest =>
    obtain ⟨rfl, n1, rfl, ha, hb⟩ := hcut
    go_upto_if 27 with fail
    go_cut [7] (fun s wx => w = wx ∧ ∃ n : Nat, s = .int .i64 n ∧ n ≤ m0.length ∧ n ≤ m1.length ∧ n ≤ m2.length)
    case first =>
      by_cases h : m2.length < n1
      · have h' : (m2.length : Int) < n1 := by omega
        go_wp2
        go_meet
        exact ⟨rfl, _, rfl, by omega, by omega, by omega⟩
      · have h' : ¬ (m2.length : Int) < n1 := by omega
        go_wp2
        go_meet
        exact ⟨rfl, _, rfl, by omega, by omega, by omega⟩
    case rest =>
      obtain ⟨rfl, n, rfl, hn0, hn1, hn2⟩ := hcut
      clear ha hb
      go_wp2
      go_loopw [8, 9] (fun x i wr => ∃ k : Nat, k ≤ n ∧ i = .int .i64 k ∧ wr.ownsRow w.heap.size 5 1 x k ((Crc.xor3 (m0.take k) (m1.take k) (m2.take k)).map fun c => .int .u8 (c.toNat : Int)) ∧ Below w.heap.size w wr) (fun _ i _ => n - (intOf i).toNat)
      case atStart => exact ⟨0, by omega, rfl, World.ownsRow_nil _ _ _ _, Below.refl _ _⟩
      case round =>
        obtain ⟨k, hk, rfl, hown, hbw⟩ := hrel
        by_cases hlt : k < n
        · obtain ⟨p0, o0, rfl, hp0, he0⟩ := hcell0 k (by omega)
          obtain ⟨p1, o1, rfl, hp1, he1⟩ := hcell1 k (by omega)
          obtain ⟨p2, o2, rfl, hp2, he2⟩ := hcell2 k (by omega)
          have HS := Lib.hid (Crc.xor3_snoc m0 m1 m2 k (by omega) (by omega) (by omega))
          generalize m0.getD k 0 = ch0 at *
          generalize m1.getD k 0 = ch1 at *
          generalize m2.getD k 0 = ch2 at *
          clear hcell0 hcell1 hcell2
          have hl0 : (k : Int) < m0.length := by omega
          have hl1 : (k : Int) < m1.length := by omega
          have hl2 : (k : Int) < m2.length := by omega
          have hk0 : (0 : Int) ≤ k := by omega
          have hk0' : k < m0.length := by omega
          have hk1' : k < m1.length := by omega
          have hk2' : k < m2.length := by omega
          have ex1 := u8_xor_nat ch0.toNat ch1.toNat ch0.toNat_lt ch1.toNat_lt
          have ex2 := u8_xor_nat (ch0 ^^^ ch1).toNat ch2.toNat (ch0 ^^^ ch1).toNat_lt ch2.toNat_lt
          rw [← UInt8.toNat_xor] at ex1 ex2
          generalize ch0 ^^^ ch1 = c01 at *
          generalize c01 ^^^ ch2 = c012 at *
          go_wp2_with fail
          have hG0 : (fun (b : Bool) (x : World) => Below w.heap.size w x ∧ (b = false → x.ownsRow w.heap.size 5 1 u8 k ((Crc.xor3 (m0.take k) (m1.take k) (m2.take k)).map fun c => .int .u8 (c.toNat : Int)))) false wr.drew := ⟨hbw.drew, fun _ => hown.drew⟩
          refine wp_region_tail 18 16 [(fun v _ => v = u8),
            (fun v _ => v = .slice (some ⟨p0, o0, none⟩) m0.length c0),
            (fun v _ => v = .int .i64 k),
            (fun v _ => v = .pointer (some ⟨p0, o0 + k, none⟩)),
            (fun v _ => v = .int .u8 (ch0.toNat : Int)),
            (fun v _ => v = .slice (some ⟨p1, o1, none⟩) m1.length c1),
            (fun v _ => v = .int .i64 k),
            (fun v _ => v = .pointer (some ⟨p1, o1 + k, none⟩)),
            (fun v _ => v = .int .u8 (ch1.toNat : Int)),
            (fun v _ => v = .int .u8 (c01.toNat : Int)),
            (fun v _ => v = .slice (some ⟨p2, o2, none⟩) m2.length c2),
            (fun v _ => v = .int .i64 k),
            (fun v _ => v = .pointer (some ⟨p2, o2 + k, none⟩)),
            (fun v _ => v = .int .u8 (ch2.toNat : Int)),
            (fun v _ => v = .int .u8 (c012.toNat : Int)),
            (fun v x => ∃ g, v = .slice (some ⟨g, 0, none⟩) 1 1 ∧ Blk x g 5 [.int .u8 (c012.toNat : Int)] ∧ u8.ownBlock ≠ some g),
            (fun v x => x.ownsRow w.heap.size 5 1 v (k + 1) ((Crc.xor3 (m0.take (k + 1)) (m1.take (k + 1)) (m2.take (k + 1))).map fun c => .int .u8 (c.toNat : Int))),
            (fun v x => x.ownsRow w.heap.size 5 1 v (k + 1) ((Crc.xor3 (m0.take (k + 1)) (m1.take (k + 1)) (m2.take (k + 1))).map fun c => .int .u8 (c.toNat : Int)))]
            (fun (b : Bool) (x : World) => Below w.heap.size w x ∧ (b = false → x.ownsRow w.heap.size 5 1 u8 k ((Crc.xor3 (m0.take k) (m1.take k) (m2.take k)).map fun c => .int .u8 (c.toNat : Int)))) (fun x x' => x.grownBy x' u8.ownBlock) (by kernel_rfl) rfl (by decide) (by kernel_rfl) (by kernel_rfl) ?_ ?_ ?_ ?_ ?_
          · exact hG0
          · exact ⟨stab_eq _, stab_eq _, stab_eq _, stab_eq _, stab_eq _, stab_eq _, stab_eq _, stab_eq _, stab_eq _, stab_eq _, stab_eq _, stab_eq _, stab_eq _, stab_eq _, stab_eq _, fun _ _ _ ⟨g, h1, h2, h3⟩ hb => ⟨g, h1, h2.ext hb, h3⟩, fun _ _ _ h hb => own_ext h hb, fun _ _ _ h hb => own_ext h hb, trivial⟩
          · exact ⟨stabE_eq _, stabE_eq _, stabE_eq _, stabE_eq _, stabE_eq _, stabE_eq _, stabE_eq _, stabE_eq _, stabE_eq _, stabE_eq _, stabE_eq _, stabE_eq _, stabE_eq _, stabE_eq _, stabE_eq _, fun _ _ _ ⟨g, h1, h2, h3⟩ hb => ⟨g, h1, h2.grown hb (Ne.symm h3), h3⟩, trivial⟩
          · refine ⟨?_, ?_, ?_, ?_, ?_, ?_, ?_, ?_, ?_, ?_, ?_, ?_, ?_, ?_, ?_, ?_, ?_, ?_, trivial⟩
            · intro a x hG hd hs K hK
              replace hG : (fun (b : Bool) (x : World) => Below w.heap.size w x ∧ (b = false → x.ownsRow w.heap.size 5 1 u8 k ((Crc.xor3 (m0.take k) (m1.take k) (m2.take k)).map fun c => .int .u8 (c.toNat : Int)))) false x := hG
              have h8 : a.tmps.getD 8 undef = u8 := hs 8 (by kernel_rfl)
              clear hd hs
              refine wpOp_plain rfl rfl ?_
              go_simp
              exact hK _ _ rfl hG (Below.refl _ _)
            · intro a x hG hd hs K hK
              replace hG : (fun (b : Bool) (x : World) => Below w.heap.size w x ∧ (b = false → x.ownsRow w.heap.size 5 1 u8 k ((Crc.xor3 (m0.take k) (m1.take k) (m2.take k)).map fun c => .int .u8 (c.toNat : Int)))) false x := hG
              have h0 : a.tmps.getD 0 undef = .slice (some ⟨p0, o0, none⟩) m0.length c0 := hs 0 (by kernel_rfl)
              clear hd hs
              refine wpOp_plain rfl rfl ?_
              go_simp
              exact hK _ _ rfl hG (Below.refl _ _)
            · intro a x hG hd hs K hK
              replace hG : (fun (b : Bool) (x : World) => Below w.heap.size w x ∧ (b = false → x.ownsRow w.heap.size 5 1 u8 k ((Crc.xor3 (m0.take k) (m1.take k) (m2.take k)).map fun c => .int .u8 (c.toNat : Int)))) false x := hG
              have h9 : a.tmps.getD 9 undef = .int .i64 k := hs 9 (by kernel_rfl)
              clear hd hs
              refine wpOp_plain rfl rfl ?_
              go_simp
              exact hK _ _ rfl hG (Below.refl _ _)
            · intro a x hG hd hs K hK
              replace hG : (fun (b : Bool) (x : World) => Below w.heap.size w x ∧ (b = false → x.ownsRow w.heap.size 5 1 u8 k ((Crc.xor3 (m0.take k) (m1.take k) (m2.take k)).map fun c => .int .u8 (c.toNat : Int)))) false x := hG
              have h36 : a.tmps.getD 36 undef = .slice (some ⟨p0, o0, none⟩) m0.length c0 := hd 1 36 (by kernel_rfl)
              have h37 : a.tmps.getD 37 undef = .int .i64 k := hd 2 37 (by kernel_rfl)
              clear hd hs
              refine wpOp_plain rfl rfl ?_
              go_simp
              exact hK _ _ rfl hG (Below.refl _ _)
            · intro a x hG hd hs K hK
              replace hG : (fun (b : Bool) (x : World) => Below w.heap.size w x ∧ (b = false → x.ownsRow w.heap.size 5 1 u8 k ((Crc.xor3 (m0.take k) (m1.take k) (m2.take k)).map fun c => .int .u8 (c.toNat : Int)))) false x := hG
              have h38 : a.tmps.getD 38 undef = .pointer (some ⟨p0, o0 + k, none⟩) := hd 3 38 (by kernel_rfl)
              clear hd hs
              refine wpOp_plain rfl rfl ?_
              have hc := (hG.1.cell (p := ⟨p0, o0 + k, none⟩) hp0).trans he0
              go_simp
              exact hK _ _ rfl hG (Below.refl _ _)
            · intro a x hG hd hs K hK
              replace hG : (fun (b : Bool) (x : World) => Below w.heap.size w x ∧ (b = false → x.ownsRow w.heap.size 5 1 u8 k ((Crc.xor3 (m0.take k) (m1.take k) (m2.take k)).map fun c => .int .u8 (c.toNat : Int)))) false x := hG
              have h1 : a.tmps.getD 1 undef = .slice (some ⟨p1, o1, none⟩) m1.length c1 := hs 1 (by kernel_rfl)
              clear hd hs
              refine wpOp_plain rfl rfl ?_
              go_simp
              exact hK _ _ rfl hG (Below.refl _ _)
            · intro a x hG hd hs K hK
              replace hG : (fun (b : Bool) (x : World) => Below w.heap.size w x ∧ (b = false → x.ownsRow w.heap.size 5 1 u8 k ((Crc.xor3 (m0.take k) (m1.take k) (m2.take k)).map fun c => .int .u8 (c.toNat : Int)))) false x := hG
              have h9 : a.tmps.getD 9 undef = .int .i64 k := hs 9 (by kernel_rfl)
              clear hd hs
              refine wpOp_plain rfl rfl ?_
              go_simp
              exact hK _ _ rfl hG (Below.refl _ _)
            · intro a x hG hd hs K hK
              replace hG : (fun (b : Bool) (x : World) => Below w.heap.size w x ∧ (b = false → x.ownsRow w.heap.size 5 1 u8 k ((Crc.xor3 (m0.take k) (m1.take k) (m2.take k)).map fun c => .int .u8 (c.toNat : Int)))) false x := hG
              have h40 : a.tmps.getD 40 undef = .slice (some ⟨p1, o1, none⟩) m1.length c1 := hd 5 40 (by kernel_rfl)
              have h41 : a.tmps.getD 41 undef = .int .i64 k := hd 6 41 (by kernel_rfl)
              clear hd hs
              refine wpOp_plain rfl rfl ?_
              go_simp
              exact hK _ _ rfl hG (Below.refl _ _)
            · intro a x hG hd hs K hK
              replace hG : (fun (b : Bool) (x : World) => Below w.heap.size w x ∧ (b = false → x.ownsRow w.heap.size 5 1 u8 k ((Crc.xor3 (m0.take k) (m1.take k) (m2.take k)).map fun c => .int .u8 (c.toNat : Int)))) false x := hG
              have h42 : a.tmps.getD 42 undef = .pointer (some ⟨p1, o1 + k, none⟩) := hd 7 42 (by kernel_rfl)
              clear hd hs
              refine wpOp_plain rfl rfl ?_
              have hc := (hG.1.cell (p := ⟨p1, o1 + k, none⟩) hp1).trans he1
              go_simp
              exact hK _ _ rfl hG (Below.refl _ _)
            · intro a x hG hd hs K hK
              replace hG : (fun (b : Bool) (x : World) => Below w.heap.size w x ∧ (b = false → x.ownsRow w.heap.size 5 1 u8 k ((Crc.xor3 (m0.take k) (m1.take k) (m2.take k)).map fun c => .int .u8 (c.toNat : Int)))) false x := hG
              have h39 : a.tmps.getD 39 undef = .int .u8 (ch0.toNat : Int) := hd 4 39 (by kernel_rfl)
              have h43 : a.tmps.getD 43 undef = .int .u8 (ch1.toNat : Int) := hd 8 43 (by kernel_rfl)
              clear hd hs
              refine wpOp_plain rfl rfl ?_
              go_simp
              exact hK _ _ rfl hG (Below.refl _ _)
            · intro a x hG hd hs K hK
              replace hG : (fun (b : Bool) (x : World) => Below w.heap.size w x ∧ (b = false → x.ownsRow w.heap.size 5 1 u8 k ((Crc.xor3 (m0.take k) (m1.take k) (m2.take k)).map fun c => .int .u8 (c.toNat : Int)))) false x := hG
              have h2 : a.tmps.getD 2 undef = .slice (some ⟨p2, o2, none⟩) m2.length c2 := hs 2 (by kernel_rfl)
              clear hd hs
              refine wpOp_plain rfl rfl ?_
              go_simp
              exact hK _ _ rfl hG (Below.refl _ _)
            · intro a x hG hd hs K hK
              replace hG : (fun (b : Bool) (x : World) => Below w.heap.size w x ∧ (b = false → x.ownsRow w.heap.size 5 1 u8 k ((Crc.xor3 (m0.take k) (m1.take k) (m2.take k)).map fun c => .int .u8 (c.toNat : Int)))) false x := hG
              have h9 : a.tmps.getD 9 undef = .int .i64 k := hs 9 (by kernel_rfl)
              clear hd hs
              refine wpOp_plain rfl rfl ?_
              go_simp
              exact hK _ _ rfl hG (Below.refl _ _)
            · intro a x hG hd hs K hK
              replace hG : (fun (b : Bool) (x : World) => Below w.heap.size w x ∧ (b = false → x.ownsRow w.heap.size 5 1 u8 k ((Crc.xor3 (m0.take k) (m1.take k) (m2.take k)).map fun c => .int .u8 (c.toNat : Int)))) false x := hG
              have h45 : a.tmps.getD 45 undef = .slice (some ⟨p2, o2, none⟩) m2.length c2 := hd 10 45 (by kernel_rfl)
              have h46 : a.tmps.getD 46 undef = .int .i64 k := hd 11 46 (by kernel_rfl)
              clear hd hs
              refine wpOp_plain rfl rfl ?_
              go_simp
              exact hK _ _ rfl hG (Below.refl _ _)
            · intro a x hG hd hs K hK
              replace hG : (fun (b : Bool) (x : World) => Below w.heap.size w x ∧ (b = false → x.ownsRow w.heap.size 5 1 u8 k ((Crc.xor3 (m0.take k) (m1.take k) (m2.take k)).map fun c => .int .u8 (c.toNat : Int)))) false x := hG
              have h47 : a.tmps.getD 47 undef = .pointer (some ⟨p2, o2 + k, none⟩) := hd 12 47 (by kernel_rfl)
              clear hd hs
              refine wpOp_plain rfl rfl ?_
              have hc := (hG.1.cell (p := ⟨p2, o2 + k, none⟩) hp2).trans he2
              go_simp
              exact hK _ _ rfl hG (Below.refl _ _)
            · intro a x hG hd hs K hK
              replace hG : (fun (b : Bool) (x : World) => Below w.heap.size w x ∧ (b = false → x.ownsRow w.heap.size 5 1 u8 k ((Crc.xor3 (m0.take k) (m1.take k) (m2.take k)).map fun c => .int .u8 (c.toNat : Int)))) false x := hG
              have h44 : a.tmps.getD 44 undef = .int .u8 (c01.toNat : Int) := hd 9 44 (by kernel_rfl)
              have h48 : a.tmps.getD 48 undef = .int .u8 (ch2.toNat : Int) := hd 13 48 (by kernel_rfl)
              clear hd hs
              refine wpOp_plain rfl rfl ?_
              go_simp
              exact hK _ _ rfl hG (Below.refl _ _)
            · intro a x hG hd hs K hK
              replace hG : (fun (b : Bool) (x : World) => Below w.heap.size w x ∧ (b = false → x.ownsRow w.heap.size 5 1 u8 k ((Crc.xor3 (m0.take k) (m1.take k) (m2.take k)).map fun c => .int .u8 (c.toNat : Int)))) false x := hG
              have h49 : a.tmps.getD 49 undef = .int .u8 (c012.toNat : Int) := hd 14 49 (by kernel_rfl)
              have h49o := getD_opt h49
              clear hd hs
              refine wpOp_plain rfl rfl ?_
              go_simp
              have hn := Blk.new x 5 #[.int .u8 (c012.toNat : Int)]
              refine hK _ _ ⟨x.heap.size, rfl, hn, fun e => ?_⟩ ⟨hG.1.alloc hG.1.size _, fun h => (hG.2 h).alloc _⟩ ((Below.refl _ _).alloc (Nat.le_refl _) _)
              have := ((hG.2 rfl).lt _ e).2
              omega
            · intro a x hG hd hs K hK
              replace hG : (fun (b : Bool) (x : World) => Below w.heap.size w x ∧ (b = false → x.ownsRow w.heap.size 5 1 u8 k ((Crc.xor3 (m0.take k) (m1.take k) (m2.take k)).map fun c => .int .u8 (c.toNat : Int)))) false x := hG
              have h35 : a.tmps.getD 35 undef = u8 := hd 0 35 (by kernel_rfl)
              have h50 : (fun v x => ∃ g, v = .slice (some ⟨g, 0, none⟩) 1 1 ∧ Blk x g 5 [.int .u8 (c012.toNat : Int)] ∧ u8.ownBlock ≠ some g) (a.tmps.getD 50 undef) x := hd 15 50 (by kernel_rfl)
              clear hd hs
              refine wpOp_plain rfl rfl ?_
              obtain ⟨g, hg1, hg2, hg3⟩ := h50
              obtain ⟨v', w', hrun, hown', hgr, _⟩ := run_append_rds (P := Tryd.prog) (ty := 23) Tryd.underlying23 infoU8 rfl (by decide) (hG.2 rfl) (hg2.rds 0 1 1 1 (by simp) (by omega) (by simp [maxLen])) (by simp [Value.oneCell']) (by simp [maxLen]; omega) (by omega) hG.1.size
              refine wp_append 35 50 23 rfl h35 hg1 hrun ?_
              refine hK _ _ ?_ ⟨hG.1.grown hgr hG.1.size (fun g hg => ((hG.2 rfl).lt g hg).1), fun h => by cases h⟩ hgr
              rw [HS.out, List.map_append]
              exact hown'
            · intro a x hG hd hs K hK
              replace hG : (fun (b : Bool) (x : World) => Below w.heap.size w x ∧ (b = false → x.ownsRow w.heap.size 5 1 u8 k ((Crc.xor3 (m0.take k) (m1.take k) (m2.take k)).map fun c => .int .u8 (c.toNat : Int)))) true x := hG
              have h51 : (fun v x => x.ownsRow w.heap.size 5 1 v (k + 1) ((Crc.xor3 (m0.take (k + 1)) (m1.take (k + 1)) (m2.take (k + 1))).map fun c => .int .u8 (c.toNat : Int))) (a.tmps.getD 51 undef) x := hd 16 51 (by kernel_rfl)
              clear hd hs
              refine wpOp_plain rfl rfl ?_
              obtain ⟨uu, huu⟩ : ∃ uu, a.tmps.getD 51 undef = uu := ⟨_, rfl⟩
              rw [huu] at h51
              go_simp
              exact hK _ _ h51 hG (Below.refl _ _)
          · intro x hG
            rintro _ rfl _ rfl _ rfl _ rfl _ rfl _ rfl _ rfl _ rfl _ rfl _ rfl _ rfl _ rfl _ rfl _ rfl _ rfl v15 hv15 v16 hv16 v17 hv17
            simp only [Act.put, List.setIfInBounds_toArray, List.set_cons_zero, List.set_cons_succ, REnd]
            try simp only [Exit.then]
            go_wp2
            go_roundw
            case rel => exact ⟨k + 1, by omega, by go_num, hv17, hG.1⟩
            case measure => simp [intOf]; omega
        · obtain rfl : k = n := by omega
          clear hcell0 hcell1 hcell2
          have t0 := (b0.head hn0).ext (Nat.le_refl _) hbw
          have t1 := (b1.head hn1).ext (Nat.le_refl _) hbw
          have t2 := (b2.head hn2).ext (Nat.le_refl _) hbw
          have hlen : (Crc.xor3 (m0.take k) (m1.take k) (m2.take k)).length = k := by
            rw [Crc.length_xor3 _ _ _ (by simp only [List.length_take]; omega) (by simp only [List.length_take]; omega), List.length_take]; omega
          have hX : Bs wr wr.heap.size u8 (Crc.xor3 (m0.take k) (m1.take k) (m2.take k)) := Bs.of_own (by rw [hlen]; exact hown)
          have hsum := Crc.sum_xor3 (m0.take k) (m1.take k) (m2.take k) (by simp only [List.length_take]; omega) (by simp only [List.length_take]; omega)
          generalize Crc.xor3 (m0.take k) (m1.take k) (m2.take k) = xx at *
          generalize m0.take k = x0 at *
          generalize m1.take k = x1 at *
          generalize m2.take k = x2 at *
          obtain ⟨A3, c3, rfl, hc3, hx3, _⟩ := hX.open_
          have hH' := hH.ext hbw
          have HSUM := Lib.hid hsum
          have HLEN := Lib.hid hlen
          clear hsum hlen hown
          have ex1 := u32_xor_nat (Crc.sum x0) (Crc.sum x1) (Crc.sum_lt _) (Crc.sum_lt _)
          have ex2 := u32_xor_nat (Crc.sum x0 ^^^ Crc.sum x1) (Crc.sum x2) (Nat.xor_lt_two_pow (n := 32) (Crc.sum_lt _) (Crc.sum_lt _)) (Crc.sum_lt _)
          generalize Crc.sum x0 ^^^ Crc.sum x1 = S01 at *
          rw [← HSUM.out] at ex2
          have i0 : (k : Int) ≤ c0 := by omega
          have i1 : (k : Int) ≤ c1 := by omega
          have i2 : (k : Int) ≤ c2 := by omega
          have ik : (0 : Int) ≤ k := by omega
          have j0 : k ≤ c0 := by omega
          have j1 : k ≤ c1 := by omega
          have j2 : k ≤ c2 := by omega
          clear HSUM
          go_wp2_with fail
          have hG0 : Below wr.heap.size wr wr.drew := (Below.refl _ _).drew
          refine wp_region_list 25 [(fun v _ => v = .slice A0 m0.length c0),
            (fun v _ => v = .int .i64 k),
            (fun v _ => v = .slice A0 k c0),
            (fun v x => Bss x x.heap.size v [x0]),
            (fun v _ => v = .int .u32 (Crc.sum x0 : Nat)),
            (fun v _ => v = .slice A1 m1.length c1),
            (fun v _ => v = .int .i64 k),
            (fun v _ => v = .slice A1 k c1),
            (fun v x => Bss x x.heap.size v [x1]),
            (fun v _ => v = .int .u32 (Crc.sum x1 : Nat)),
            (fun v _ => v = .int .u32 (S01 : Nat)),
            (fun v _ => v = .slice A2 m2.length c2),
            (fun v _ => v = .int .i64 k),
            (fun v _ => v = .slice A2 k c2),
            (fun v x => Bss x x.heap.size v [x2]),
            (fun v _ => v = .int .u32 (Crc.sum x2 : Nat)),
            (fun v _ => v = .int .u32 (Crc.sum xx : Nat)),
            (fun v _ => v = .slice A3 xx.length c3),
            (fun v x => Bss x x.heap.size v [xx]),
            (fun v _ => v = .int .u32 (Crc.sum xx : Nat)),
            (fun v _ => v = .bool true),
            (fun v _ => v = .bool true),
            (fun v _ => v = .bool true),
            (fun v _ => v = .bool true),
            (fun v _ => v = .bool true)]
            (fun x => Below wr.heap.size wr x) (by kernel_rfl) rfl (by kernel_rfl) ?_ ?_ ?_ ?_
          · exact hG0
          · exact ⟨stab_eq _, stab_eq _, stab_eq _, stab_bss _, stab_eq _, stab_eq _, stab_eq _, stab_eq _, stab_bss _, stab_eq _, stab_eq _, stab_eq _, stab_eq _, stab_eq _, stab_bss _, stab_eq _, stab_eq _, stab_eq _, stab_bss _, stab_eq _, stab_eq _, stab_eq _, stab_eq _, stab_eq _, stab_eq _, trivial⟩
          · refine ⟨?_, ?_, ?_, ?_, ?_, ?_, ?_, ?_, ?_, ?_, ?_, ?_, ?_, ?_, ?_, ?_, ?_, ?_, ?_, ?_, ?_, ?_, ?_, ?_, ?_, trivial⟩
            · intro a x hG hd hs K hK
              have h0 : a.tmps.getD 0 undef = .slice A0 m0.length c0 := hs 0 (by kernel_rfl)
              clear hd hs
              refine wpOp_plain rfl rfl ?_
              go_simp
              exact hK _ _ rfl hG (Below.refl _ _)
            · intro a x hG hd hs K hK
              have h7 : a.tmps.getD 7 undef = .int .i64 k := hs 7 (by kernel_rfl)
              clear hd hs
              refine wpOp_plain rfl rfl ?_
              go_simp
              exact hK _ _ rfl hG (Below.refl _ _)
            · intro a x hG hd hs K hK
              have h52 : a.tmps.getD 52 undef = .slice A0 m0.length c0 := hd 0 52 (by kernel_rfl)
              have h53 : a.tmps.getD 53 undef = .int .i64 k := hd 1 53 (by kernel_rfl)
              clear hd hs
              refine wpOp_plain rfl rfl ?_
              go_simp
              exact hK _ _ rfl hG (Below.refl _ _)
            · intro a x hG hd hs K hK
              have h54 : a.tmps.getD 54 undef = .slice A0 k c0 := hd 2 54 (by kernel_rfl)
              have h54o := getD_opt h54
              clear hd hs
              refine wpOp_plain rfl rfl ?_
              go_simp
              exact hK _ _ ((Bss.lit1 _ ((t0.ext hbw.size hG).more (Nat.le_trans hbw.size hG.size))).more (by simp)) (hG.alloc hG.size _) ((Below.refl _ _).alloc (Nat.le_refl _) _)
            · intro a x hG hd hs K hK
              have h55 : (fun v x => Bss x x.heap.size v [x0]) (a.tmps.getD 55 undef) x := hd 3 55 (by kernel_rfl)
              clear hd hs
              refine wpOp_plain rfl rfl ?_
              obtain ⟨uu, huu⟩ : ∃ uu, a.tmps.getD 55 undef = uu := ⟨_, rfl⟩
              rw [huu] at h55
              go_simp
              refine (sum_any _ _ _ _ (hH'.ext hG) h55).mono ?_
              rintro e w' ⟨rfl, rfl⟩
              simp only [List.flatten_cons, List.flatten_nil, List.append_nil]
              exact hK _ _ rfl hG (Below.refl _ _)
            · intro a x hG hd hs K hK
              have h1 : a.tmps.getD 1 undef = .slice A1 m1.length c1 := hs 1 (by kernel_rfl)
              clear hd hs
              refine wpOp_plain rfl rfl ?_
              go_simp
              exact hK _ _ rfl hG (Below.refl _ _)
            · intro a x hG hd hs K hK
              have h7 : a.tmps.getD 7 undef = .int .i64 k := hs 7 (by kernel_rfl)
              clear hd hs
              refine wpOp_plain rfl rfl ?_
              go_simp
              exact hK _ _ rfl hG (Below.refl _ _)
            · intro a x hG hd hs K hK
              have h57 : a.tmps.getD 57 undef = .slice A1 m1.length c1 := hd 5 57 (by kernel_rfl)
              have h58 : a.tmps.getD 58 undef = .int .i64 k := hd 6 58 (by kernel_rfl)
              clear hd hs
              refine wpOp_plain rfl rfl ?_
              go_simp
              exact hK _ _ rfl hG (Below.refl _ _)
            · intro a x hG hd hs K hK
              have h59 : a.tmps.getD 59 undef = .slice A1 k c1 := hd 7 59 (by kernel_rfl)
              have h59o := getD_opt h59
              clear hd hs
              refine wpOp_plain rfl rfl ?_
              go_simp
              exact hK _ _ ((Bss.lit1 _ ((t1.ext hbw.size hG).more (Nat.le_trans hbw.size hG.size))).more (by simp)) (hG.alloc hG.size _) ((Below.refl _ _).alloc (Nat.le_refl _) _)
            · intro a x hG hd hs K hK
              have h60 : (fun v x => Bss x x.heap.size v [x1]) (a.tmps.getD 60 undef) x := hd 8 60 (by kernel_rfl)
              clear hd hs
              refine wpOp_plain rfl rfl ?_
              obtain ⟨uu, huu⟩ : ∃ uu, a.tmps.getD 60 undef = uu := ⟨_, rfl⟩
              rw [huu] at h60
              go_simp
              refine (sum_any _ _ _ _ (hH'.ext hG) h60).mono ?_
              rintro e w' ⟨rfl, rfl⟩
              simp only [List.flatten_cons, List.flatten_nil, List.append_nil]
              exact hK _ _ rfl hG (Below.refl _ _)
            · intro a x hG hd hs K hK
              have h56 : a.tmps.getD 56 undef = .int .u32 (Crc.sum x0 : Nat) := hd 4 56 (by kernel_rfl)
              have h61 : a.tmps.getD 61 undef = .int .u32 (Crc.sum x1 : Nat) := hd 9 61 (by kernel_rfl)
              clear hd hs
              refine wpOp_plain rfl rfl ?_
              go_simp
              exact hK _ _ rfl hG (Below.refl _ _)
            · intro a x hG hd hs K hK
              have h2 : a.tmps.getD 2 undef = .slice A2 m2.length c2 := hs 2 (by kernel_rfl)
              clear hd hs
              refine wpOp_plain rfl rfl ?_
              go_simp
              exact hK _ _ rfl hG (Below.refl _ _)
            · intro a x hG hd hs K hK
              have h7 : a.tmps.getD 7 undef = .int .i64 k := hs 7 (by kernel_rfl)
              clear hd hs
              refine wpOp_plain rfl rfl ?_
              go_simp
              exact hK _ _ rfl hG (Below.refl _ _)
            · intro a x hG hd hs K hK
              have h63 : a.tmps.getD 63 undef = .slice A2 m2.length c2 := hd 11 63 (by kernel_rfl)
              have h64 : a.tmps.getD 64 undef = .int .i64 k := hd 12 64 (by kernel_rfl)
              clear hd hs
              refine wpOp_plain rfl rfl ?_
              go_simp
              exact hK _ _ rfl hG (Below.refl _ _)
            · intro a x hG hd hs K hK
              have h65 : a.tmps.getD 65 undef = .slice A2 k c2 := hd 13 65 (by kernel_rfl)
              have h65o := getD_opt h65
              clear hd hs
              refine wpOp_plain rfl rfl ?_
              go_simp
              exact hK _ _ ((Bss.lit1 _ ((t2.ext hbw.size hG).more (Nat.le_trans hbw.size hG.size))).more (by simp)) (hG.alloc hG.size _) ((Below.refl _ _).alloc (Nat.le_refl _) _)
            · intro a x hG hd hs K hK
              have h66 : (fun v x => Bss x x.heap.size v [x2]) (a.tmps.getD 66 undef) x := hd 14 66 (by kernel_rfl)
              clear hd hs
              refine wpOp_plain rfl rfl ?_
              obtain ⟨uu, huu⟩ : ∃ uu, a.tmps.getD 66 undef = uu := ⟨_, rfl⟩
              rw [huu] at h66
              go_simp
              refine (sum_any _ _ _ _ (hH'.ext hG) h66).mono ?_
              rintro e w' ⟨rfl, rfl⟩
              simp only [List.flatten_cons, List.flatten_nil, List.append_nil]
              exact hK _ _ rfl hG (Below.refl _ _)
            · intro a x hG hd hs K hK
              have h62 : a.tmps.getD 62 undef = .int .u32 (S01 : Nat) := hd 10 62 (by kernel_rfl)
              have h67 : a.tmps.getD 67 undef = .int .u32 (Crc.sum x2 : Nat) := hd 15 67 (by kernel_rfl)
              clear hd hs
              refine wpOp_plain rfl rfl ?_
              go_simp
              exact hK _ _ rfl hG (Below.refl _ _)
            · intro a x hG hd hs K hK
              have h8 : a.tmps.getD 8 undef = .slice A3 xx.length c3 := hs 8 (by kernel_rfl)
              clear hd hs
              refine wpOp_plain rfl rfl ?_
              go_simp
              exact hK _ _ rfl hG (Below.refl _ _)
            · intro a x hG hd hs K hK
              have h69 : a.tmps.getD 69 undef = .slice A3 xx.length c3 := hd 17 69 (by kernel_rfl)
              have h69o := getD_opt h69
              clear hd hs
              refine wpOp_plain rfl rfl ?_
              go_simp
              exact hK _ _ ((Bss.lit1 _ ((hX.ext (Nat.le_refl _) hG).more hG.size)).more (by simp)) (hG.alloc hG.size _) ((Below.refl _ _).alloc (Nat.le_refl _) _)
            · intro a x hG hd hs K hK
              have h70 : (fun v x => Bss x x.heap.size v [xx]) (a.tmps.getD 70 undef) x := hd 18 70 (by kernel_rfl)
              clear hd hs
              refine wpOp_plain rfl rfl ?_
              obtain ⟨uu, huu⟩ : ∃ uu, a.tmps.getD 70 undef = uu := ⟨_, rfl⟩
              rw [huu] at h70
              go_simp
              refine (sum_any _ _ _ _ (hH'.ext hG) h70).mono ?_
              rintro e w' ⟨rfl, rfl⟩
              simp only [List.flatten_cons, List.flatten_nil, List.append_nil]
              exact hK _ _ rfl hG (Below.refl _ _)
            · intro a x hG hd hs K hK
              have h68 : a.tmps.getD 68 undef = .int .u32 (Crc.sum xx : Nat) := hd 16 68 (by kernel_rfl)
              have h71 : a.tmps.getD 71 undef = .int .u32 (Crc.sum xx : Nat) := hd 19 71 (by kernel_rfl)
              clear hd hs
              refine wpOp_plain rfl rfl ?_
              go_simp
              exact hK _ _ rfl hG (Below.refl _ _)
            · intro a x hG hd hs K hK
              have h72 : a.tmps.getD 72 undef = .bool true := hd 20 72 (by kernel_rfl)
              clear hd hs
              refine wpOp_plain rfl rfl ?_
              go_simp
              exact hK _ _ rfl hG (Below.refl _ _)
            · intro a x hG hd hs K hK
              have h73 : a.tmps.getD 73 undef = .bool true := hd 21 73 (by kernel_rfl)
              clear hd hs
              refine wpOp_yes rfl rfl rfl h73 ?_
              go_simp
              refine (awake_any _ (hH'.ext hG)).mono ?_
              rintro e w' ⟨rfl, hb⟩
              exact hK _ _ rfl (hG.trans (hb.mono hG.size)) hb
            · intro a x hG hd hs K hK
              have h73 : a.tmps.getD 73 undef = .bool true := hd 21 73 (by kernel_rfl)
              have h74 : a.tmps.getD 74 undef = .bool true := hd 22 74 (by kernel_rfl)
              clear hd hs
              refine wpOp_plain rfl rfl ?_
              go_simp
              exact hK _ _ rfl hG (Below.refl _ _)
            · intro a x hG hd hs K hK
              have h75 : a.tmps.getD 75 undef = .bool true := hd 23 75 (by kernel_rfl)
              clear hd hs
              refine wpOp_plain rfl rfl ?_
              go_simp
              exact hK _ _ rfl hG (Below.refl _ _)
          · intro x hG
            rintro _ rfl _ rfl _ rfl v3 hv3 _ rfl _ rfl _ rfl _ rfl v8 hv8 _ rfl _ rfl _ rfl _ rfl _ rfl v14 hv14 _ rfl _ rfl _ rfl v18 hv18 _ rfl _ rfl _ rfl _ rfl _ rfl _ rfl
            simp only [Act.put, List.setIfInBounds_toArray, List.set_cons_zero, List.set_cons_succ, REnd]
            try simp only [Exit.then]
            go_wp2
            go_ret
            exact ⟨rfl, hbw.trans (hG.mono hbw.size)⟩

/-- What the walk gives, for every argument and every world that holds the table. -/
theorem crcThree_contract (H : Type) (enc : TypeId × Value → H) (W : World) (base : Nat) (args : Array Value) (ds gs : List (DataW H)) (before : List MemPlace)
    (hval : ∀ (j : Nat) t v, Tryd.f5.params[j]? = some t → args[j]? = some v → Value.okWide Tryd.prog W .any base t v)
    (hW : DataW.Whole enc Tryd.prog Tryd.f5.params.toList Rows.crcThreeSpec.vars false W args.toList ds gs before) (hL : laidMetH Tryd.prog Rows.crcThreeRow.laid W) :
    Calls Tryd.prog 5 args W fun e W' => ∃ v, e = .returned v ∧ Rows.crcThreeSpec.post enc Tryd.prog Tryd.f5 false true false false W args v W' := by
  have hW' := hW
  obtain ⟨p, q, hA0, hV, hps, hfz, hnd⟩ := hW
  have hA : DataW.TrodAll enc Tryd.prog W 0 (fun _ => true) true Tryd.f5.params.toList args.toList ds p := hA0
  rw [Tryd.params5] at hA hval
  obtain ⟨v0, vs0, d0, ds0, p0, q0, hargs, rfl, rfl, h0, r0⟩ := trodAll_cons hA
  obtain ⟨v1, vs1, d1, ds1, p1, q1, rfl, rfl, rfl, h1, r1⟩ := trodAll_cons r0
  obtain ⟨v2, vs2, d2, ds2, p2, q2, rfl, rfl, rfl, h2, r2⟩ := trodAll_cons r1
  obtain ⟨rfl, rfl, rfl⟩ := trodAll_nil r2
  obtain rfl : args = #[v0, v1, v2] := by cases args; simp_all
  obtain ⟨rfl, rfl⟩ := trodVars_none hV
  obtain ⟨l0, b0⟩ := bs_of_trod Tryd.underlying23 Tryd.underlying5 cellsU8 (hval 0 23 v0 rfl rfl) h0
  obtain ⟨l1, b1⟩ := bs_of_trod Tryd.underlying23 Tryd.underlying5 cellsU8 (hval 1 23 v1 rfl rfl) h1
  obtain ⟨l2, b2⟩ := bs_of_trod Tryd.underlying23 Tryd.underlying5 cellsU8 (hval 2 23 v2 rfl rfl) h2
  clear hA0
  refine (crcThree_walk W v0 v1 v2 l0 l1 l2 (halves_of hL) b0 b1 b2).mono fun e W' ⟨he, hb⟩ => ?_
  subst he
  exact ⟨_, rfl, law_post laidOut (by rw [Tryd.params5]; decide +kernel) rfl Tryd.underlying4 rfl rfl hW' hb⟩

theorem crcThree_met (os : Os) : laidMet Tryd.prog Rows.crcThreeRow.laid ((laidWorld os).forCall (fun _ _ => 0) ⟨#[], #[.slice none 0 0, .slice none 0 0, .slice none 0 0], []⟩).memory :=
  laidMet_of_run' 8 (by kernel_rfl) (by kernel_rfl)
theorem crcThree_reads (os : Os) {H : Type} (enc : TypeId × Value → H) : ∃ places, DataW.whole enc Tryd.prog ((laidWorld os).forCall (fun _ _ => 0) ⟨#[], #[.slice none 0 0, .slice none 0 0, .slice none 0 0], []⟩).memory Tryd.f5.params.toList Rows.crcThreeSpec.vars false (#[.slice none 0 0, .slice none 0 0, .slice none 0 0] : Array Value).toList 8 = some ([.nil, .nil, .nil], [], places) :=
  ⟨[], by kernel_rfl⟩

set_option maxRecDepth 100000 in
theorem crcThree_lifted (os : Os) (started : os.Started) (H : Type) (enc : TypeId × Value → H) (F : Stop.Interp) :
    ReturnsInHanded {} Tryd.checked os 5 .any ((OpenSpec.ofChange Rows.crcThreeSpec).preRow enc Tryd.prog Tryd.f5 Rows.crcThreeRow.domain false Rows.crcThreeRow.laid) (((OpenSpec.ofChange Rows.crcThreeSpec).at F).post enc Tryd.prog Tryd.f5 false true false false) := by
  obtain ⟨places, hx⟩ := crcThree_reads os enc
  refine returnsInHanded_of_row (C := Tryd.checked) (s := OpenSpec.ofChange Rows.crcThreeSpec) own started (by kernel_rfl) Tryd.func5
    (witness_row_at (enc := enc) (C := Tryd.checked) false (laidWorld os) #[.slice none 0 0, .slice none 0 0, .slice none 0 0] rfl (by kernel_rfl) (by kernel_rfl) (by kernel_rfl)
      (OpenSpec.preRow_of_cond 8 hx (by kernel_rfl) (fun k hk => by cases hk) (by kernel_rfl) (crcThree_met os))) ?_
  intro W base args ds gs before hval hW _ _ _ hL _ _
  exact crcThree_contract H enc W base args ds gs before hval hW hL

theorem crcThree_said : Rows.CrcThreeSaid :=
  OpenClaim.holds_of_cond 5 Tryd.f5 rfl rfl rfl rfl rfl rfl rfl ⟨rfl, rfl, rfl, rfl, rfl⟩ rfl rfl rfl rfl rfl (by kernel_rfl) Tryd.func5 (by kernel_rfl)
    (of_decide_eq_true (by kernel_rfl)) (by unfold Func.isWrapper; first | (rw [if_pos (by decide +kernel)]; kernel_rfl) | (rw [if_neg (by decide +kernel)]; exact ⟨rfl, rfl⟩))
    (fun os started H enc _ F => by rw [OpenClaim.pre_eq_preRow]; exact crcThree_lifted os started H enc F)

theorem crcThree_plain (f : FuncId) (fn : Func) (hf : Tryd.pinned.checked.prog.funcNamed "haymow/haymowlaw02.CrcThree" = some f) (hfn : Tryd.pinned.checked.prog.funcs[f]? = some fn) :
    false = Tryd.pinned.checked.prog.looks [] ∧ ∀ (j : Nat) t, fn.params[j]? = some t → Tryd.pinned.checked.prog.wantsStandIn t = false := by
  obtain rfl : f = 5 := Option.some.inj ((show Tryd.prog.funcNamed "haymow/haymowlaw02.CrcThree" = some 5 by kernel_rfl).symm.trans hf) |>.symm
  obtain rfl : fn = Tryd.f5 := (Option.some.inj (Tryd.func5.symm.trans hfn)).symm
  refine ⟨by kernel_rfl, fun j t ht => ?_⟩
  rw [Tryd.params5] at ht
  have hall : ∀ t ∈ (Tryd.f5).params.toList, Tryd.prog.wantsStandIn t = false := by rw [Tryd.params5]; decide +kernel
  exact hall t (by rw [Tryd.params5]; exact Array.mem_toList_iff.2 (Array.mem_of_getElem? ht))

/-- THE CARD. -/
theorem crcThree_holds : Rows.CrcThreeCardSaid :=
  Claim7.holds_tied_plain_at .later [] _ _ _ _ crcThree_said (fun _ h => by cases h) (by kernel_rfl) (fun _ h => by cases h) crcThree_row_tie rfl ⟨rfl, rfl⟩ (by kernel_rfl) rfl crcThree_plain (by kernel_rfl)

end Go.Proofs.YtfedklediafnpaaDoor
