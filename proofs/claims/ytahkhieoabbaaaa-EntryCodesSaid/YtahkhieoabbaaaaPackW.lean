/-
  The walks of package pack: what Pack, Unpack, Fill and Clear answer, whatever they are handed (lists of fewer than 100000). By an AI agent.
-/
import Derived.Test.YtahkhieoabbaaaaChecked
import Derived.Test.YtahkhieoabbaaaaBase
import Derived.Test.YtahkhieoabbaaaaRegion
import Derived.Test.YtahkhieoabbaaaaPackP
namespace Go.Proofs.Ytahkhieoabbaaaa
open Go.RowKit

/-- Numbers of so many octets, in memory. -/
def Nums (w : World) (B : Nat) (v : Value) (l : List (Int × Nat)) : Prop := Rds w B 2 v l.length (l.flatMap fun x => [.int .i64 x.1, .int .u64 (x.2 : Int)])
theorem numsCells (l : List (Int × Nat)) : (l.flatMap fun x => [Value.int .i64 x.1, Value.int .u64 (x.2 : Int)]).length = l.length * 2 := by
  induction l with
  | nil => rfl
  | cons x l ih => rw [List.flatMap_cons, List.length_append, ih, List.length_cons, List.length_cons, List.length_cons, List.length_nil]; omega
theorem numsAt : ∀ (l : List (Int × Nat)) (k : Nat) (h : k < l.length), (l.flatMap fun x => [Value.int .i64 x.1, Value.int .u64 (x.2 : Int)])[k * 2]? = some (.int .i64 l[k].1) ∧ (l.flatMap fun x => [Value.int .i64 x.1, Value.int .u64 (x.2 : Int)])[k * 2 + 1]? = some (.int .u64 (l[k].2 : Int))
  | x :: l, 0, _ => ⟨rfl, rfl⟩
  | x :: l, k + 1, h => by
    have := numsAt l k (by simpa using h)
    rw [List.flatMap_cons, show (k + 1) * 2 = k * 2 + 1 + 1 by omega]
    exact this
theorem Nums.open_ {w : World} {B : Nat} {v : Value} {l : List (Int × Nat)} (h : Nums w B v l) : ∃ (A : Option Addr) (c : Nat), v = .slice A l.length c ∧ l.length ≤ c ∧ c ≤ 9223372036854775807 ∧
    ∀ (j : Nat) (hj : j < l.length), ∃ b off, A = some ⟨b, off, none⟩ ∧ b < B ∧ w.cell? ⟨b, off + j * 2, none⟩ = some (.int .i64 l[j].1) ∧ w.cell? ⟨b, off + j * 2 + 1, none⟩ = some (.int .u64 (l[j].2 : Int)) := by
  obtain ⟨A, c, h1, h2, h3, h4, h5⟩ := h
  refine ⟨A, c, h1, h2, h3, fun j hj => ?_⟩
  obtain ⟨b, off, e, hb, hc⟩ := h5 (by omega)
  have := numsAt l j hj
  exact ⟨b, off, e, hb, hc _ _ this.1, by have := hc _ _ this.2; rw [Nat.add_assoc]; exact this⟩

theorem Nums.lit (w : World) (t : TypeId) (a : Array Value) (l : List (Int × Nat)) (n : Nat) (ha : a.toList = l.flatMap fun x => [.int .i64 x.1, .int .u64 (x.2 : Int)]) (hn : n = l.length) (hm : n ≤ maxLen) :
    Nums (w.alloc (.cells a t)) (w.heap.size + 1) (.slice (some ⟨w.heap.size, 0, none⟩) n n) l := by
  have := (Blk.new w t a).rds 0 n n 2 (by rw [ha, numsCells]; omega) (Nat.le_refl _) hm
  subst hn
  unfold Nums
  rw [ha, List.drop_zero, List.take_of_length_le (by rw [numsCells]; omega)] at this
  exact this
/-- Numbers of 64 bits. -/
def Us (w : World) (B : Nat) (v : Value) (l : List Nat) : Prop := Rds w B 1 v l.length (l.map fun n : Nat => .int .u64 (n : Int))
theorem Us.openD {w : World} {B : Nat} {v : Value} {l : List Nat} (h : Us w B v l) : ∃ (A : Option Addr) (c : Nat), v = .slice A l.length c ∧ l.length ≤ c ∧ c ≤ 9223372036854775807 ∧
    ∀ (j : Nat), j < l.length → ∃ b off, A = some ⟨b, off, none⟩ ∧ b < B ∧ w.cell? ⟨b, off + j, none⟩ = some (.int .u64 (l.getD j 0 : Nat)) := by
  obtain ⟨A, c, h1, h2, h3, h4, h5⟩ := h
  refine ⟨A, c, h1, h2, h3, fun j hj => ?_⟩
  obtain ⟨b, off, e, hb, hc⟩ := h5 (by omega)
  exact ⟨b, off, e, hb, hc j _ (by simp [hj])⟩
theorem Us.of_own {w : World} {base : Nat} {e : TypeId} {v : Value} {l : List Nat} (h : w.ownsRow base e 1 v l.length (l.map fun n : Nat => .int .u64 (n : Int))) : Us w w.heap.size v l := Rds.of_own h

set_option maxHeartbeats 400000 in
theorem isWidth_any (n : Int) (w : World) :
    Calls Try.prog 36 #[.int .i64 n] w fun e w' => e = .returned (.bool (Pk.isW n)) ∧ w = w' := by
  by_cases h : 1 ≤ n
  · have H := Lib.hid (show Pk.isW n = decide (n ≤ 8) by unfold Pk.isW; simp [h])
    go_enter Try.func36, Try.ntmps36
    go_wp2
    go_ret
    exact ⟨by rw [H.out]; rfl, rfl⟩
  · have H := Lib.hid (show Pk.isW n = false by unfold Pk.isW; simp [h])
    go_enter Try.func36, Try.ntmps36
    go_wp2
    go_ret
    exact ⟨by rw [H.out]; rfl, rfl⟩

theorem own_val {w : World} {base : Nat} {e : TypeId} {v : Value} {n n' : Nat} {xs : List Value} {c c' : Value} (h : w.ownsRow base e 1 v n (xs ++ [c])) (hn : n = n') (hc : c = c') : w.ownsRow base e 1 v n' (xs ++ [c']) := by
  subst hn hc; exact h
theorem infoU8 : (Try.prog.info? 5).map (fun i => (i.zero, i.size, i.bytes)) = some (some (.int .u8 0), 1, 1) := by kernel_rfl

set_option maxHeartbeats 1000000 in
theorem pack_any (w : World) (v : Value) (B : Nat) (l : List (Int × Nat)) (h : Nums w B v l) (hB : B ≤ w.heap.size) (hn : l.length ≤ 100000) (hu : ∀ x ∈ l, x.2 < 18446744073709551616) :
    Calls Try.prog 25 #[v] w fun e w' => ∃ u, e = .returned (.tuple #[u, .int .i64 (Pk.perr l : Nat)]) ∧ w'.ownsRow w.heap.size 5 1 u (Pk.packed l).length ((Pk.packed l).map fun c => .int .u8 (c.toNat : Int)) ∧ Below w.heap.size w w' := by
  obtain ⟨A, c, rfl, hc, hm, hcell⟩ := h.open_
  clear h
  go_enter Try.func25, Try.ntmps25
  go_wp2
  go_loopw [4, 13] (fun s i wr => ∃ k : Nat, k ≤ l.length ∧ i = .int .i64 k ∧ (∀ x ∈ l.take k, Pk.chk x = 0) ∧ s = .int .i64 ((Pk.recs (l.take k)).length : Nat) ∧ Below w.heap.size w wr) (fun _ i _ => l.length - (intOf i).toNat)
  case atStart => exact ⟨0, Nat.zero_le _, rfl, by simp, rfl, Below.refl _ _⟩
  case round =>
    obtain ⟨k, hk, rfl, hchk, rfl, hbw⟩ := hrel
    by_cases hlt : k < l.length
    · obtain ⟨b, off, rfl, hb, hc1, hc2⟩ := hcell k hlt
      have hx1 := (hbw.cell (p := ⟨b, off + k * 2, none⟩) (Nat.lt_of_lt_of_le hb hB)).trans hc1
      have hx2 := (hbw.cell (p := ⟨b, off + k * 2 + 1, none⟩) (Nat.lt_of_lt_of_le hb hB)).trans hc2
      have hv := hu l[k] (List.getElem_mem hlt)
      have HE := Lib.hid (Pk.perr_at l k l[k] hchk (List.getElem?_eq_getElem hlt))
      have HS := Lib.hid (Pk.mem_take_snoc hlt hchk)
      have HR := Lib.hid (Pk.recs_snoc l k hlt)
      have hrl := Pk.recs_len_le (l.take k) hchk
      have hlk : (l.take k).length ≤ 100000 := by rw [List.length_take]; omega
      clear hchk hc1 hc2 hcell hu
      generalize hx : l[k] = x at *
      obtain ⟨wd, vv⟩ := x
      simp only at hx1 hx2 hv
      generalize hR : (Pk.recs (l.take k)).length = R at *
      have HRR := Lib.hid hR
      have hR' : R ≤ 800000 := by omega
      clear hx hR hrl
      by_cases hw : Pk.isW wd = true
      · have hwd := (Pk.isW_iff wd).1 hw
        obtain ⟨wn, rfl⟩ := Int.eq_ofNat_of_zero_le (show 0 ≤ wd by omega)
        by_cases hfit : vv < 256 ^ wn
        · have hs : ((vv : Int) / 2 ^ (8 * wn) != 0) = false := by rw [Pk.shr_zero]; simp [hfit]
          have HC := Lib.hid (Pk.chk_ok (x := ((wn : Int), vv)) hw (by simpa using hfit))
          have Hw := Lib.hid hw
          clear hw hfit
          go_wp2_with fail
          refine (isWidth_any _ _).mono ?_
          rintro e w' ⟨rfl, rfl⟩
          rw [Hw.out]
          by_cases h8 : wn < 8
          · have h8' : (wn : Int) < 8 := by omega
            go_wp2
            go_roundw
            case rel => exact ⟨k + 1, by omega, by go_num, HS.out HC.out, by rw [HR.out, List.length_append, HRR.out]; unfold Pk.rec1; rw [Pk.length_be]; go_num, hbw.alloc hbw.size _⟩
            case measure => simp [intOf]; omega
          · have h8' : ¬ (wn : Int) < 8 := by omega
            go_wp2
            go_roundw
            case rel => exact ⟨k + 1, by omega, by go_num, HS.out HC.out, by rw [HR.out, List.length_append, HRR.out]; unfold Pk.rec1; rw [Pk.length_be]; go_num, hbw.alloc hbw.size _⟩
            case measure => simp [intOf]; omega
        · have hs : ((vv : Int) / 2 ^ (8 * wn) != 0) = true := by rw [Pk.shr_zero]; simp [hfit]
          have HC := Lib.hid (Pk.chk_over (x := ((wn : Int), vv)) hw (by simpa using hfit))
          have HP := Lib.hid (HE.out (by rw [HC.out]; decide))
          rw [HC.out] at HP
          have HK := Lib.hid (Pk.packed_err (l := l) (by rw [HP.out]; decide))
          have Hw := Lib.hid hw
          have h8 : wn < 8 := by
            rcases Nat.lt_or_ge wn 8 with h | h
            · exact h
            · exfalso
              obtain rfl : wn = 8 := by omega
              exact hfit hv
          have h8' : (wn : Int) < 8 := by omega
          clear hw hfit
          go_wp2_with fail
          refine (isWidth_any _ _).mono ?_
          rintro e w' ⟨rfl, rfl⟩
          rw [Hw.out]
          go_wp2
          go_ret2
          exact ⟨_, by rw [HP.out]; rfl, by rw [HK.out]; exact World.ownsRow_nil _ _ _ _, hbw.alloc hbw.size _⟩
      · have hw' : Pk.isW wd = false := by simpa using hw
        have HC := Lib.hid (Pk.chk_width (x := (wd, vv)) hw')
        have HP := Lib.hid (HE.out (by rw [HC.out]; decide))
        rw [HC.out] at HP
        have HK := Lib.hid (Pk.packed_err (l := l) (by rw [HP.out]; decide))
        have Hw := Lib.hid hw'
        clear hw hw'
        go_wp2_with fail
        refine (isWidth_any _ _).mono ?_
        rintro e w' ⟨rfl, rfl⟩
        rw [Hw.out]
        go_wp2
        go_ret2
        exact ⟨_, by rw [HP.out]; rfl, by rw [HK.out]; exact World.ownsRow_nil _ _ _ _, hbw.alloc hbw.size _⟩
    · obtain rfl : k = l.length := by omega
      rw [List.take_length] at hchk ⊢
      have HP := Lib.hid (Pk.perr_of hchk)
      have HPK := Lib.hid (show Pk.packed l = Pk.recs l by unfold Pk.packed; rw [if_pos HP.out])
      have hrl := Pk.recs_len_le l hchk
      have HC := Lib.hid hchk
      have HU := Lib.hid hu
      clear hchk hu
      generalize hR : (Pk.recs l).length = R at *
      have HRR := Lib.hid hR
      clear hR
      have hmk := run_mk (P := Try.prog) Try.underlying29 infoU8 0 R (by omega) (by omega) (by omega)
      simp only [Int.natCast_zero] at hmk
      go_wp2
      clear hmk
      have hown0 := World.ownsRow_made (e := 5) (size := 1) (base := w.heap.size) wr (madeCells #[.int .u8 0] R) R hbw.size (by rw [maxLen_eq]; omega) (by rw [size_madeCells, Nat.mul_one])
      have hb0 := hbw.alloc hbw.size (.cells (madeCells #[.int .u8 0] R) 5)
      generalize wr.alloc (.cells (madeCells #[.int .u8 0] R) 5) = W0 at *
      go_loopw [7, 42] (fun x i wq => ∃ k : Nat, k ≤ l.length ∧ i = .int .i64 k ∧ wq.ownsRow w.heap.size 5 1 x (Pk.recs (l.take k)).length ((Pk.recs (l.take k)).map fun c => .int .u8 (c.toNat : Int)) ∧ Below w.heap.size w wq) (fun _ i _ => l.length - (intOf i).toNat)
      case atStart => exact ⟨0, Nat.zero_le _, rfl, hown0, hb0⟩
      case round =>
        obtain ⟨k, hk, rfl, hown, hbq⟩ := hrel
        clear hown0 hb0
        by_cases hlt : k < l.length
        · obtain ⟨b, off, rfl, hb, hc1, hc2⟩ := hcell k hlt
          have hx1 := (hbq.cell (p := ⟨b, off + k * 2, none⟩) (Nat.lt_of_lt_of_le hb hB)).trans hc1
          have hx2 := (hbq.cell (p := ⟨b, off + k * 2 + 1, none⟩) (Nat.lt_of_lt_of_le hb hB)).trans hc2
          have hv := HU.out l[k] (List.getElem_mem hlt)
          have hck := Pk.chk_zero (HC.out l[k] (List.getElem_mem hlt))
          have HR := Lib.hid (Pk.recs_snoc l k hlt)
          have hrk := Pk.recs_len_le (l.take k) (fun x hx => HC.out x (List.mem_of_mem_take hx))
          have hlk : (l.take k).length ≤ 100000 := by rw [List.length_take]; omega
          clear hc1 hc2 hcell
          generalize hx : l[k] = x at *
          obtain ⟨wd, vv⟩ := x
          simp only at hx1 hx2 hv hck
          obtain ⟨wn, rfl⟩ := Int.eq_ofNat_of_zero_le (show 0 ≤ wd by omega)
          generalize hrr : Pk.recs (l.take k) = rr at *
          have HRK := Lib.hid hrr
          have hrr' : rr.length ≤ 800000 := by omega
          clear hx hrr hrk
          go_wp2
          have hkk := Blk.new wr 57 #[.int .i64 wn, .int .u64 vv]
          have hown1 := hown.alloc (.cells #[.int .i64 wn, .int .u64 vv] 57)
          have hb1 := hbq.alloc hbq.size (.cells #[.int .i64 wn, .int .u64 vv] 57)
          generalize wr.alloc (.cells #[.int .i64 wn, .int .u64 vv] 57) = W1 at *
          generalize wr.heap.size = gg at *
          clear hown hbq hx1 hx2
          go_loopw [7, 48] (fun x i ws => ∃ j : Nat, j ≤ wn ∧ i = .int .i64 j ∧ ws.ownsRow w.heap.size 5 1 x (rr.length + j) ((rr ++ (Pk.be vv wn).take j).map fun c => .int .u8 (c.toNat : Int)) ∧ Below w.heap.size w ws ∧ Blk ws gg 57 [.int .i64 wn, .int .u64 vv]) (fun _ i _ => wn - (intOf i).toNat)
          case atStart => exact ⟨0, Nat.zero_le _, rfl, by simpa using hown1, hb1, hkk⟩
          case round =>
            obtain ⟨j, hj, rfl, hown, hbs, hkb⟩ := hrel
            clear hown1 hb1 hkk
            have hg0 := hkb.cell 0
            have hg1 := hkb.cell 1
            simp only [List.getElem?_cons_zero, List.getElem?_cons_succ] at hg0 hg1
            by_cases hjl : j < wn
            · go_wp2_with (at_builtin; refine stop_ ?_)
              refine wpList_append_one rfl _ _ rfl rfl rfl rfl Try.underlying29 infoU8 rfl hown rfl (by rw [maxLen_eq]; omega) (by omega) hbs.size ?_
              intro v' w' hown' hgr
              have hk' := hkb.grown hgr (own_blk_ne hown hkb (by decide))
              have hb' := hbs.grown hgr hbs.size (fun g hg => (hown.lt g hg).1)
              have H := Lib.hid (Pk.be_take vv wn j hjl)
              clear hown hgr hg0 hg1
              go_wp2
              go_roundw
              case rel =>
                refine ⟨j + 1, by omega, by go_num, ?_, hb', hk'⟩
                rw [H.out, ← List.append_assoc, List.map_append]
                exact own_val hown' (by omega) (by rw [Pk.shr_byte])
              case measure => simp [intOf]; omega
            · obtain rfl : j = wn := by omega
              go_wp2
              go_roundw
              case rel =>
                refine ⟨k + 1, by omega, by go_num, ?_, hbs⟩
                rw [HR.out]
                unfold Pk.rec1
                simp only [Int.toNat_natCast]
                rw [List.length_append, Pk.length_be]
                rw [List.take_of_length_le (by rw [Pk.length_be]; omega)] at hown
                exact hown
              case measure => simp [intOf]; omega
        · obtain rfl : k = l.length := by omega
          rw [List.take_length] at hown
          go_wp2
          go_ret2
          exact ⟨_, by rw [HP.out]; rfl, by rw [HPK.out]; exact hown, hbq⟩

theorem infoU64 : (Try.prog.info? 55).map (fun i => (i.zero, i.size, i.bytes)) = some (some (.int .u64 0), 1, 8) := by kernel_rfl

set_option maxHeartbeats 1000000 in
theorem unpack_any (w : World) (v u : Value) (B : Nat) (l : List UInt8) (ws : List Int) (h : Bs w B v l) (hu : Is .i64 w B u ws) (hB : B ≤ w.heap.size) (hn : ws.length ≤ 100000) :
    Calls Try.prog 33 #[v, u] w fun e w' => ∃ x, e = .returned (.tuple #[x, .int .i64 (Pk.uerr l ws : Nat)]) ∧ w'.ownsRow w.heap.size 55 1 x (Pk.unpacked l ws).length ((Pk.unpacked l ws).map fun n : Nat => .int .u64 (n : Int)) ∧ Below w.heap.size w w' := by
  obtain ⟨A, c, rfl, hc, hm, hcell⟩ := h.openD
  obtain ⟨A1, c1, rfl, hc1, hm1, hcell1⟩ := hu.open_
  clear h hu
  go_enter Try.func33, Try.ntmps33
  go_wp2
  go_loop [6, 17] (fun s i => ∃ k : Nat, k ≤ ws.length ∧ i = .int .i64 k ∧ (∀ x ∈ ws.take k, Pk.isW x = true) ∧ s = .int .i64 (Pk.need (ws.take k) : Nat)) (fun _ i => ws.length - (intOf i).toNat)
  case atStart => exact ⟨0, Nat.zero_le _, rfl, by simp, rfl⟩
  case round =>
    obtain ⟨k, hk, rfl, hall, rfl⟩ := hrel
    by_cases hlt : k < ws.length
    · obtain ⟨b, off, rfl, hb, hx⟩ := hcell1 k hlt
      have hnl := Pk.need_le (ws.take k) hall
      have hlk : (ws.take k).length ≤ 100000 := by rw [List.length_take]; omega
      have HN := Lib.hid (Pk.need_snoc ws k hlt)
      have HA := Lib.hid hall
      generalize hwk : ws[k] = wd at *
      have HW := Lib.hid hwk
      generalize Pk.need (ws.take k) = R at *
      clear hall hcell1 hcell hwk
      by_cases hw : Pk.isW wd = true
      · have hwd := (Pk.isW_iff wd).1 hw
        obtain ⟨wn, rfl⟩ := Int.eq_ofNat_of_zero_le (show 0 ≤ wd by omega)
        have Hw := Lib.hid hw
        clear hw
        go_wp2_with fail
        refine (isWidth_any _ _).mono ?_
        rintro e w' ⟨rfl, rfl⟩
        rw [Hw.out]
        go_wp2
        go_round
        case rel =>
          refine ⟨k + 1, by omega, by go_num, ?_, by rw [HN.out]; simp⟩
          intro x hx
          rw [List.take_succ_eq_append_getElem hlt] at hx
          rcases List.mem_append.1 hx with hx | hx
          · exact HA.out x hx
          · rw [List.mem_singleton.1 hx, HW.out]; exact Hw.out
        case measure => simp [intOf]; omega
      · have hw' : Pk.isW wd = false := by simpa using hw
        have HE := Lib.hid (show Pk.uerr l ws = 1 by
          unfold Pk.uerr
          rw [if_neg]
          intro hh
          rw [List.all_eq_true] at hh
          have := hh ws[k] (List.getElem_mem hlt)
          rw [HW.out, hw'] at this
          cases this)
        have HK := Lib.hid (show Pk.unpacked l ws = [] by unfold Pk.unpacked; rw [HE.out]; rfl)
        have Hw := Lib.hid hw'
        clear hw hw'
        go_wp2_with fail
        refine (isWidth_any _ _).mono ?_
        rintro e w' ⟨rfl, rfl⟩
        rw [Hw.out]
        go_wp2
        go_ret2
        exact ⟨_, by rw [HE.out]; rfl, by rw [HK.out]; exact World.ownsRow_nil _ _ _ _, Below.refl _ _⟩
    · obtain rfl : k = ws.length := by omega
      rw [List.take_length] at hall ⊢
      have hnl := Pk.need_le ws hall
      have HALL := Lib.hid (show ws.all Pk.isW = true by rw [List.all_eq_true]; exact hall)
      have HA := Lib.hid hall
      clear hall
      by_cases hsh : l.length < Pk.need ws
      · have HE := Lib.hid (show Pk.uerr l ws = 2 by unfold Pk.uerr; rw [HALL.out, if_pos hsh]; rfl)
        have HK := Lib.hid (show Pk.unpacked l ws = [] by unfold Pk.unpacked; rw [HE.out]; rfl)
        generalize Pk.need ws = R at *
        have hsh' : (l.length : Int) < R := by omega
        go_wp2
        go_ret2
        exact ⟨_, by rw [HE.out]; rfl, by rw [HK.out]; exact World.ownsRow_nil _ _ _ _, Below.refl _ _⟩
      · have HE := Lib.hid (show Pk.uerr l ws = 0 by unfold Pk.uerr; rw [HALL.out, if_neg hsh]; rfl)
        have HK := Lib.hid (show Pk.unpacked l ws = Pk.nums l ws by unfold Pk.unpacked; rw [HE.out]; rfl)
        have HND := Lib.hid (fun k => Pk.need_take_le ws k)
        have hmk := run_mk (P := Try.prog) Try.underlying62 infoU64 0 ws.length (by omega) (by omega) (by omega)
        simp only [Int.natCast_zero] at hmk
        generalize Pk.need ws = R at *
        have hsh' : ¬ (l.length : Int) < R := by omega
        go_wp2
        clear hmk
        have hown0 := World.ownsRow_made (e := 55) (size := 1) (base := w.heap.size) w (madeCells #[.int .u64 0] ws.length) ws.length (Nat.le_refl _) (by rw [maxLen_eq]; omega) (by rw [size_madeCells, Nat.mul_one])
        have hb0 := (Below.refl w.heap.size w).alloc (Nat.le_refl _) (.cells (madeCells #[.int .u64 0] ws.length) 55)
        generalize w.alloc (.cells (madeCells #[.int .u64 0] ws.length) 55) = W0 at *
        go_loopw [9, 10, 37] (fun x p i wq => ∃ k : Nat, k ≤ ws.length ∧ i = .int .i64 k ∧ p = .int .i64 (Pk.need (ws.take k) : Nat) ∧ wq.ownsRow w.heap.size 55 1 x k ((Pk.nums l (ws.take k)).map fun n : Nat => .int .u64 (n : Int)) ∧ Below w.heap.size w wq) (fun _ _ i _ => ws.length - (intOf i).toNat)
        case atStart => exact ⟨0, Nat.zero_le _, rfl, rfl, hown0, hb0⟩
        case round =>
          obtain ⟨k, hk, rfl, rfl, hown, hbq⟩ := hrel
          clear hown0 hb0
          by_cases hlt : k < ws.length
          · obtain ⟨b1, off1, rfl, hb1, hx⟩ := hcell1 k hlt
            have hx1 := (hbq.cell (p := ⟨b1, off1 + k, none⟩) (Nat.lt_of_lt_of_le hb1 hB)).trans hx
            have hwd := (Pk.isW_iff _).1 (HA.out ws[k] (List.getElem_mem hlt))
            have HN := Lib.hid (Pk.need_snoc ws k hlt)
            have HS := Lib.hid (Pk.nums_snoc l ws k hlt)
            have hnd := HND.out (k + 1)
            rw [HN.out] at hnd
            generalize ws[k] = wd at *
            obtain ⟨wn, rfl⟩ := Int.eq_ofNat_of_zero_le (show 0 ≤ wd by omega)
            rw [Int.toNat_natCast] at hnd HN HS
            generalize hNd : Pk.need (ws.take k) = Nd at *
            have HNd := Lib.hid hNd
            clear hcell1 hx hNd
            go_wp2
            go_loop [13, 42] (fun x i => ∃ j : Nat, j ≤ wn ∧ i = .int .i64 j ∧ x = .int .u64 (Pk.val ((l.drop Nd).take j) : Nat)) (fun _ i => wn - (intOf i).toNat)
            case atStart => exact ⟨0, Nat.zero_le _, rfl, rfl⟩
            case round =>
              obtain ⟨j, hj, rfl, rfl⟩ := hrel
              by_cases hjl : j < wn
              · obtain ⟨b, off, rfl, hb, hxx⟩ := hcell (Nd + j) (by omega)
                have hx2 := (hbq.cell (p := ⟨b, off + (Nd + j), none⟩) (Nat.lt_of_lt_of_le hb hB)).trans hxx
                have hvl := Pk.val_small ((l.drop Nd).take j) (by rw [List.length_take]; omega)
                have HV := Lib.hid (Pk.val_step (l.drop Nd) j (by rw [List.length_drop]; omega))
                rw [show (l.drop Nd).getD j 0 = l.getD (Nd + j) 0 by simp [List.getD_eq_getElem?_getD]] at HV
                generalize l.getD (Nd + j) 0 = ch at *
                generalize Pk.val ((l.drop Nd).take j) = V at *
                have e1 := Pk.or_byte V ch.toNat hvl ch.toNat_lt
                have hch : ch.toNat < 256 := ch.toNat_lt
                clear hcell hxx
                go_wp2
                go_round
                case rel => exact ⟨j + 1, by omega, by go_num, by rw [HV.out]; go_num⟩
                case measure => simp [intOf]; omega
              · obtain rfl : j = wn := by omega
                have hvl : Pk.val ((l.drop Nd).take j) < 18446744073709551616 := by
                  have h1 := Pk.val_lt ((l.drop Nd).take j)
                  have h2 : 256 ^ ((l.drop Nd).take j).length ≤ 256 ^ 8 := Nat.pow_le_pow_right (by omega) (by rw [List.length_take]; omega)
                  omega
                generalize Pk.val ((l.drop Nd).take j) = V at *
                go_wp2_with (at_builtin; refine stop_ ?_)
                refine wpList_append_one rfl _ _ rfl rfl rfl rfl Try.underlying62 infoU64 rfl hown rfl (by rw [maxLen_eq]; omega) (by omega) hbq.size ?_
                intro v' w' hown' hgr
                have hb' := hbq.grown hgr hbq.size (fun g hg => (hown.lt g hg).1)
                clear hown hgr
                go_wp2
                go_roundw
                case rel => exact ⟨k + 1, by omega, by go_num, by rw [HN.out]; go_num, by rw [HS.out, List.map_append]; exact hown', hb'⟩
                case measure => simp [intOf]; omega
          · obtain rfl : k = ws.length := by omega
            rw [List.take_length] at hown
            go_wp2
            go_ret2
            exact ⟨_, by rw [HE.out]; rfl, by rw [HK.out, Pk.length_nums]; exact hown, hbq⟩

def Zp128 : Array Value := madeCells #[.int .u8 0] 128
theorem Zp128_list : Zp128.toList = (Pk.pad 128 []).map fun c => Value.int .u8 (c.toNat : Int) := by
  unfold Zp128 Pk.pad
  rw [toList_madeCells_one, List.nil_append, List.map_replicate]
  rfl
theorem mkp128 (W : World) : (Instr.makeSlice 29 (.int .i64 128) (.int .i64 128)).run Try.prog W = .ok (.slice (some ⟨W.heap.size, 0, none⟩) 128 128) (W.alloc (.cells Zp128 5)) := by kernel_rfl
theorem u8s_oneCell (l : List UInt8) : ∀ u ∈ l.map (fun c => Value.int .u8 (c.toNat : Int)), u.oneCell' = true := by
  intro u hu
  obtain ⟨c, _, rfl⟩ := List.mem_map.1 hu
  rfl


end Go.Proofs.Ytahkhieoabbaaaa
