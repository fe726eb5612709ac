/-
  Decode of package summary. By an AI agent.
-/
import Derived.Test.YtieajlpkiheebaaDoorSumF
import Derived.Test.YtieajlpkiheebaaDoorVars
import Derived.IntWalk
namespace Go.Proofs.YtieajlpkiheebaaDoor
open Go.RowKit Go.ChangeShapes Go.WideShapes Go.ChangeAt

theorem uerr_5 (l : List UInt8) (h : l.length = 128) : Pk.uerr l [4, 6, 4, 1, 1] = 0 ∧ Pk.unpacked l [4, 6, 4, 1, 1] = [Pk.val (l.take 4), Pk.val ((l.drop 4).take 6), Pk.val ((l.drop 10).take 4), Sm.cnt l, Sm.fin l] := by
  have e : Pk.uerr l [4, 6, 4, 1, 1] = 0 := by
    unfold Pk.uerr
    rw [if_pos (by decide), if_neg (by rw [show Pk.need [4, 6, 4, 1, 1] = 16 from rfl]; omega)]
  refine ⟨e, ?_⟩
  unfold Pk.unpacked
  rw [if_pos e]
  simp only [Pk.nums, List.drop_drop]
  rfl
theorem uerr_4 (l : List UInt8) (h : 8 ≤ l.length) : Pk.uerr l [1, 1, 2, 4] = 0 ∧ Pk.unpacked l [1, 1, 2, 4] = [Pk.val (l.take 1), Pk.val ((l.drop 1).take 1), Pk.val ((l.drop 2).take 2), Pk.val ((l.drop 4).take 4)] := by
  have e : Pk.uerr l [1, 1, 2, 4] = 0 := by
    unfold Pk.uerr
    rw [if_pos (by decide), if_neg (by rw [show Pk.need [1, 1, 2, 4] = 8 from rfl]; omega)]
  refine ⟨e, ?_⟩
  unfold Pk.unpacked
  rw [if_pos e]
  simp only [Pk.nums, List.drop_drop]
  rfl
theorem entAt_16 (l : List UInt8) (k : Nat) : Sm.entAt (l.drop 16) k = ⟨(Pk.val ((l.drop (16 + 8 * k)).take 1) : Nat), (Pk.val (((l.drop (16 + 8 * k)).drop 1).take 1) : Nat), (Pk.val (((l.drop (16 + 8 * k)).drop 2).take 2) : Nat), Pk.val (((l.drop (16 + 8 * k)).drop 4).take 4)⟩ := by
  unfold Sm.entAt
  simp only [List.drop_drop, Nat.add_assoc]
theorem us_five {w : World} {B : Nat} {v : Value} {a b c d e : Nat} (h : Us w B v [a, b, c, d, e]) : ∃ bx ox cx, v = .slice (some ⟨bx, ox, none⟩) 5 cx ∧ 5 ≤ cx ∧ bx < B ∧ w.cell? ⟨bx, ox, none⟩ = some (.int .u64 (a : Int)) ∧ w.cell? ⟨bx, ox + 1, none⟩ = some (.int .u64 (b : Int)) ∧ w.cell? ⟨bx, ox + 2, none⟩ = some (.int .u64 (c : Int)) ∧ w.cell? ⟨bx, ox + 3, none⟩ = some (.int .u64 (d : Int)) ∧ w.cell? ⟨bx, ox + 4, none⟩ = some (.int .u64 (e : Int)) := by
  obtain ⟨A, cx, h1, h2, h3, h4, h5⟩ := h
  obtain ⟨bx, ox, rfl, hb, hc⟩ := h5 (by simp)
  exact ⟨bx, ox, cx, h1, h2, hb, hc 0 _ rfl, hc 1 _ rfl, hc 2 _ rfl, hc 3 _ rfl, hc 4 _ rfl⟩
theorem us_four {w : World} {B : Nat} {v : Value} {a b c d : Nat} (h : Us w B v [a, b, c, d]) : ∃ bx ox cx, v = .slice (some ⟨bx, ox, none⟩) 4 cx ∧ 4 ≤ cx ∧ bx < B ∧ w.cell? ⟨bx, ox, none⟩ = some (.int .u64 (a : Int)) ∧ w.cell? ⟨bx, ox + 1, none⟩ = some (.int .u64 (b : Int)) ∧ w.cell? ⟨bx, ox + 2, none⟩ = some (.int .u64 (c : Int)) ∧ w.cell? ⟨bx, ox + 3, none⟩ = some (.int .u64 (d : Int)) := by
  obtain ⟨A, cx, h1, h2, h3, h4, h5⟩ := h
  obtain ⟨bx, ox, rfl, hb, hc⟩ := h5 (by simp)
  exact ⟨bx, ox, cx, h1, h2, hb, hc 0 _ rfl, hc 1 _ rfl, hc 2 _ rfl, hc 3 _ rfl⟩

/-- What Decode leaves. -/
def decP (l : List UInt8) : Sm.Pt := if Sm.smErr l = 0 then Sm.smOf l else Sm.Pt.zero
def DecS (l : List UInt8) (w : World) (e : Ending) (w' : World) : Prop := ∃ u, e = .returned (.tuple #[.agg #[.int .i64 (decP l).s, .int .i64 (decP l).n, .bool (decP l).e, u], .int .i64 (Sm.smErr l : Nat)]) ∧ Ents w' w'.heap.size u (decP l).l ∧ Below w.heap.size w w'
theorem DecS.no {l : List UInt8} {w w' : World} {n : Nat} {k : Int} (h : Sm.smErr l = n) (hn : n ≠ 0) (hk : k = (n : Int)) (b : Below w.heap.size w w') : DecS l w (.returned (.tuple #[.agg #[.int .i64 0, .int .i64 0, .bool false, .slice none 0 0], .int .i64 k])) w' := by
  have e : decP l = Sm.Pt.zero := by unfold decP; rw [h, if_neg hn]
  unfold DecS
  rw [e, h, hk]
  exact ⟨_, rfl, Rds.nil_ _ _ _, b⟩
theorem DecS.yes {l : List UInt8} {w w' : World} {s n : Int} {e : Bool} {u : Value} (h : Sm.smErr l = 0) (hs : s = (Sm.smOf l).s) (hn : n = (Sm.smOf l).n) (he : e = (Sm.smOf l).e) (hE : Ents w' w'.heap.size u (Sm.smOf l).l) (b : Below w.heap.size w w') : DecS l w (.returned (.tuple #[.agg #[.int .i64 s, .int .i64 n, .bool e, u], .int .i64 0])) w' := by
  have e0 : decP l = Sm.smOf l := by unfold decP; rw [h, if_pos rfl]
  unfold DecS
  rw [e0, h, hs, hn, he]
  exact ⟨_, rfl, hE, b⟩
def pcS (s n : Int) (e : Bool) (u : Value) : List Value := [.int .i64 s, .int .i64 n, .bool e, u]
theorem pcS_one {s n : Int} {e : Bool} {u : Value} (hu : u.oneCell' = true) : ∀ v ∈ pcS s n e u, v.oneCell' = true := by
  intro v hv
  unfold pcS at hv
  simp only [List.mem_cons, List.not_mem_nil, or_false] at hv
  rcases hv with rfl | rfl | rfl | rfl <;> first | rfl | exact hu
theorem below_newS {w : World} {B : Nat} (h : B ≤ w.heap.size) (o : Obj) : Below B w (w.alloc o) := (Below.refl _ _).alloc h _

set_option maxRecDepth 100000 in
set_option maxHeartbeats 8000000 in
theorem decodeS_any (w : World) (v : Value) (l : List UInt8) (hH : Halves w) (h : Bs w w.heap.size v l) :
    Calls Tryd.prog 13 #[v] w (DecS l w) := by
  obtain ⟨A, c, rfl, hc, hm, hcellb⟩ := h.openD
  have HB := Lib.hid h
  have HCB := Lib.hid hcellb
  clear h hcellb
  go_enter Tryd.func13, Tryd.ntmps13
  go_wp2_with fail
  generalize hW : w.alloc (.cells _ 24) = W0
  have hk0 : Blk W0 w.heap.size 24 [.int .i64 0, .int .i64 0, .bool false, .slice none 0 0] := by rw [← hW]; exact Blk.new w _ _
  have b0 : Below w.heap.size w W0 := by rw [← hW]; exact (Below.refl _ _).alloc (Nat.le_refl _) _
  clear hW
  obtain ⟨g2, hg2⟩ : ∃ g2, g2 = w.heap.size := ⟨_, rfl⟩
  rw [← hg2] at hk0 ⊢
  have hg1 : w.heap.size ≤ g2 := by omega
  have hg3 : g2 ≤ w.heap.size := by omega
  clear hg2
  refine (held_any _ _ _ l (hH.ext b0) (HB.out.ext (Nat.le_refl _) b0) b0.size).mono ?_
  rintro e w1 ⟨rfl, b1⟩
  have hk1 := hk0.ext b1
  have c1 := b0.trans (b1.mono b0.size)
  clear hk0 b1 b0
  cases hh : Crc.held l with
  | false =>
    have HE := Lib.hid (show Sm.smErr l = 5 by unfold Sm.smErr; rw [hh]; rfl)
    clear hh
    have e0 := hk1.cell 0
    have e1 := hk1.cell 1
    have e2 := hk1.cell 2
    have e3 := hk1.cell 3
    have ef := hk1.frozen
    go_wp2
    have hz := (((hk1.set_ 0 (.int .i64 0)).set_ 1 (.int .i64 0)).set_ 2 (.bool false)).set_ 3 (.slice none 0 0)
    have bz := (((c1.setCell (p := ⟨g2, 0, none⟩) hg1 (.int .i64 0)).setCell (p := ⟨g2, 1, none⟩) hg1 (.int .i64 0)).setCell (p := ⟨g2, 2, none⟩) hg1 (.bool false)).setCell (p := ⟨g2, 3, none⟩) hg1 (.slice none 0 0)
    refine bodyPost_ret (v := .tuple #[.agg #[.int .i64 0, .int .i64 0, .bool false, .slice none 0 0], .int .i64 5]) (res_cell2 [.int .i64 0, .int .i64 0, .bool false, .slice none 0 0] _ Tryd.results13 rfl hz.range Tryd.underlying24 rfl (by kernel_rfl) rfl) rfl ?_
    exact DecS.no HE.out (by decide) rfl bz
  | true =>
    have hlen := Cd.held_len hh
    have HE := Lib.hid (show Sm.smErr l = if Sm.topB l && (Pk.clr (l.take 124) ((16 + 8 * Sm.cnt l : Nat) : Int) && Sm.mayB (Sm.smOf l)) then 0 else 3 by unfold Sm.smErr; rw [hh]; rfl)
    have hl1 : 128 ≤ l.length := by omega
    have hl2 : l.length ≤ 128 := by omega
    obtain ⟨ba, oa, rfl, hba, _⟩ := HCB.out 0 (by omega)
    clear HCB
    have HU := Lib.hid (uerr_5 l hlen)
    clear hlen hh
    go_wp2_with fail
    have b2 := (Below.refl w1.heap.size w1).alloc (Nat.le_refl _) (.cells #[.int .i64 4, .int .i64 6, .int .i64 4, .int .i64 1, .int .i64 1] 3)
    have hs1 := HB.out.ext (Nat.le_refl _) c1
    refine (unpack_any _ _ _ (w1.heap.size + 1) l [4, 6, 4, 1, 1] (Bs.more (Rds.alloc hs1 c1.size _) (by have := c1.size; omega)) (Is.lit .i64 w1 _ _ [4, 6, 4, 1, 1] 5 rfl rfl (by simp [maxLen])) (by simp) (by simp)).mono ?_
    rintro e W2 ⟨x, rfl, hown, hb2⟩
    rw [HU.out.1]
    rw [HU.out.2] at hown
    have d2 := b2.trans (hb2.mono b2.size)
    have hk2 := hk1.ext d2
    have c2 := c1.trans (d2.mono c1.size)
    have hsx : Us W2 W2.heap.size x _ := Us.of_own hown
    clear HU b2 hb2 hown d2 hk1 hs1
    have HT := Lib.hid (show Sm.topB l = decide (Pk.val (l.take 4) = 1752397165 ∧ Sm.cnt l ≤ 13 ∧ Sm.fin l ≤ 1) from rfl)
    have HO := Lib.hid (show Sm.smOf l = ⟨((Pk.val ((l.drop 4).take 6) : Nat) : Int), ((Pk.val ((l.drop 10).take 4) : Nat) : Int), Sm.fin l == 1, Sm.entsOf (l.drop 16) (Sm.cnt l)⟩ from rfl)
    have v0 : Pk.val (l.take 4) < 4294967296 := Sm.val_lt_of l 4
    have v1 : Pk.val ((l.drop 4).take 6) < 281474976710656 := Sm.val_lt_of _ 6
    have v2 : Pk.val ((l.drop 10).take 4) < 4294967296 := Sm.val_lt_of _ 4
    have v3 : Sm.cnt l < 256 := Sm.val_lt_of _ 1
    have v4 : Sm.fin l < 256 := Sm.val_lt_of _ 1
    generalize Pk.val (l.take 4) = V0 at *
    generalize Pk.val ((l.drop 4).take 6) = V1 at *
    generalize Pk.val ((l.drop 10).take 4) = V2 at *
    generalize Sm.cnt l = V3 at *
    generalize Sm.fin l = V4 at *
    obtain ⟨bx, ox, cx, rfl, hcx, hbx, hx0, hx1, hx2, hx3, hx4⟩ := us_five hsx
    clear hsx
    by_cases h0 : V0 = 1752397165
    · have h0' : ((V0 : Int) != 1752397165) = false := by rw [bne_eq_false_iff_eq]; omega
      by_cases h3 : V3 ≤ 13
      · have h3' : (V3 : Int) ≤ 13 := by omega
        by_cases h4 : V4 ≤ 1
        · have h4' : (V4 : Int) ≤ 1 := by omega
          rw [HT.out, decide_eq_true ⟨h0, h3, h4⟩, Bool.true_and] at HE
          clear HT h0
          go_upto_region 6 with fail
          obtain ⟨eb, heb⟩ : ∃ eb, ((V4 : Int) == 1) = eb := ⟨_, rfl⟩
          have HEB := Lib.hid (show eb = (V4 == 1) by
            rw [← heb, Bool.eq_iff_iff, beq_iff_eq, beq_iff_eq]; omega)
          have HHEB := Lib.hid heb
          clear heb
          refine wp_region_vars 15 [.slice (some ⟨bx, ox, none⟩) 5 cx, .pointer (some ⟨bx, ox + 1, none⟩), .int .u64 (V1 : Int), .int .i64 (V1 : Int), .slice (some ⟨bx, ox, none⟩) 5 cx, .pointer (some ⟨bx, ox + 2, none⟩), .int .u64 (V2 : Int), .int .i64 (V2 : Int), .slice (some ⟨bx, ox, none⟩) 5 cx, .pointer (some ⟨bx, ox + 4, none⟩), .int .u64 (V4 : Int), .bool eb, .agg (pcS (V1 : Int) (V2 : Int) eb (.slice none 0 0)).toArray, undef, undef] [⟨13, 14, 6, 53, 24, [.int .i64 0, .int .i64 0, .bool false, .slice none 0 0], pcS (V1 : Int) (V2 : Int) eb (.slice none 0 0)⟩] (by kernel_rfl) rfl (by kernel_rfl) rfl ?_ ?_ ?_
          · intro xv hxv
            simp only [List.mem_cons, List.not_mem_nil, or_false] at hxv
            rcases hxv with rfl
            · refine ⟨by kernel_rfl, by kernel_rfl, of_decide_eq_true (by kernel_rfl), rfl, by kernel_rfl, ⟨12, by kernel_rfl, by simp, rfl⟩, ?_, ?_⟩
              · intro a x K h
                refine wpOp_plain rfl rfl ?_
                go_simp
                exact h
              · intro a x g K h1 h2 h3 h
                refine wpOp_plain rfl rfl ?_
                refine wp_store_mid 24 (.tmp 6) (.tmp 53) rfl g 0 (pcS (V1 : Int) (V2 : Int) eb (.slice none 0 0)).toArray h1 h2 (by rw [List.size_toArray]; exact h3) (by kernel_rfl) (all_oneCell_toArray (pcS_one rfl)) ?_
                exact h
          · refine ⟨?_, ?_, ?_, ?_, ?_, ?_, ?_, ?_, ?_, ?_, ?_, ?_, ?_, ?_, ?_, trivial⟩
            · intro _ a x hG hd hs K hK
              replace hG : Below (W2).heap.size (W2) x := hG
              replace hK : ∀ (v : Value) w', v = .slice (some ⟨bx, ox, none⟩) 5 cx → Below (W2).heap.size (W2) w' → Below x.heap.size x w' → K _ w' := fun v w' e1 e2 e3 => hK v w' (fun _ => e1) e2 e3
              have h4 : a.tmps.getD 4 undef = .slice (some ⟨bx, ox, none⟩) 5 cx := hs 4 (by kernel_rfl)
              clear hd hs
              refine wpOp_plain rfl rfl ?_
              go_simp
              exact hK _ _ rfl hG (Below.refl _ _)
            · intro _ a x hG hd hs K hK
              replace hG : Below (W2).heap.size (W2) x := hG
              replace hK : ∀ (v : Value) w', v = .pointer (some ⟨bx, ox + 1, none⟩) → Below (W2).heap.size (W2) w' → Below x.heap.size x w' → K _ w' := fun v w' e1 e2 e3 => hK v w' (fun _ => e1) e2 e3
              have h41 : a.tmps.getD 41 undef = .slice (some ⟨bx, ox, none⟩) 5 cx := hd 0 41 (by kernel_rfl) (by simp)
              clear hd hs
              refine wpOp_plain rfl rfl ?_
              go_simp
              exact hK _ _ rfl hG (Below.refl _ _)
            · intro _ a x hG hd hs K hK
              replace hG : Below (W2).heap.size (W2) x := hG
              replace hK : ∀ (v : Value) w', v = .int .u64 (V1 : Int) → Below (W2).heap.size (W2) w' → Below x.heap.size x w' → K _ w' := fun v w' e1 e2 e3 => hK v w' (fun _ => e1) e2 e3
              have h42 : a.tmps.getD 42 undef = .pointer (some ⟨bx, ox + 1, none⟩) := hd 1 42 (by kernel_rfl) (by simp)
              clear hd hs
              refine wpOp_plain rfl rfl ?_
              have hc := (hG.cell (p := ⟨bx, ox + 1, none⟩) hbx).trans hx1
              go_simp
              exact hK _ _ rfl hG (Below.refl _ _)
            · intro _ a x hG hd hs K hK
              replace hG : Below (W2).heap.size (W2) x := hG
              replace hK : ∀ (v : Value) w', v = .int .i64 (V1 : Int) → Below (W2).heap.size (W2) w' → Below x.heap.size x w' → K _ w' := fun v w' e1 e2 e3 => hK v w' (fun _ => e1) e2 e3
              have h43 : a.tmps.getD 43 undef = .int .u64 (V1 : Int) := hd 2 43 (by kernel_rfl) (by simp)
              clear hd hs
              refine wpOp_plain rfl rfl ?_
              have hwr : IntKind.i64.wrap (V1 : Int) = (V1 : Int) := IntWalk.i64_in _ (by omega)
              go_simp
              exact hK _ _ rfl hG (Below.refl _ _)
            · intro _ a x hG hd hs K hK
              replace hG : Below (W2).heap.size (W2) x := hG
              replace hK : ∀ (v : Value) w', v = .slice (some ⟨bx, ox, none⟩) 5 cx → Below (W2).heap.size (W2) w' → Below x.heap.size x w' → K _ w' := fun v w' e1 e2 e3 => hK v w' (fun _ => e1) e2 e3
              have h4 : a.tmps.getD 4 undef = .slice (some ⟨bx, ox, none⟩) 5 cx := hs 4 (by kernel_rfl)
              clear hd hs
              refine wpOp_plain rfl rfl ?_
              go_simp
              exact hK _ _ rfl hG (Below.refl _ _)
            · intro _ a x hG hd hs K hK
              replace hG : Below (W2).heap.size (W2) x := hG
              replace hK : ∀ (v : Value) w', v = .pointer (some ⟨bx, ox + 2, none⟩) → Below (W2).heap.size (W2) w' → Below x.heap.size x w' → K _ w' := fun v w' e1 e2 e3 => hK v w' (fun _ => e1) e2 e3
              have h45 : a.tmps.getD 45 undef = .slice (some ⟨bx, ox, none⟩) 5 cx := hd 4 45 (by kernel_rfl) (by simp)
              clear hd hs
              refine wpOp_plain rfl rfl ?_
              go_simp
              exact hK _ _ rfl hG (Below.refl _ _)
            · intro _ a x hG hd hs K hK
              replace hG : Below (W2).heap.size (W2) x := hG
              replace hK : ∀ (v : Value) w', v = .int .u64 (V2 : Int) → Below (W2).heap.size (W2) w' → Below x.heap.size x w' → K _ w' := fun v w' e1 e2 e3 => hK v w' (fun _ => e1) e2 e3
              have h46 : a.tmps.getD 46 undef = .pointer (some ⟨bx, ox + 2, none⟩) := hd 5 46 (by kernel_rfl) (by simp)
              clear hd hs
              refine wpOp_plain rfl rfl ?_
              have hc := (hG.cell (p := ⟨bx, ox + 2, none⟩) hbx).trans hx2
              go_simp
              exact hK _ _ rfl hG (Below.refl _ _)
            · intro _ a x hG hd hs K hK
              replace hG : Below (W2).heap.size (W2) x := hG
              replace hK : ∀ (v : Value) w', v = .int .i64 (V2 : Int) → Below (W2).heap.size (W2) w' → Below x.heap.size x w' → K _ w' := fun v w' e1 e2 e3 => hK v w' (fun _ => e1) e2 e3
              have h47 : a.tmps.getD 47 undef = .int .u64 (V2 : Int) := hd 6 47 (by kernel_rfl) (by simp)
              clear hd hs
              refine wpOp_plain rfl rfl ?_
              have hwr : IntKind.i64.wrap (V2 : Int) = (V2 : Int) := IntWalk.i64_in _ (by omega)
              go_simp
              exact hK _ _ rfl hG (Below.refl _ _)
            · intro _ a x hG hd hs K hK
              replace hG : Below (W2).heap.size (W2) x := hG
              replace hK : ∀ (v : Value) w', v = .slice (some ⟨bx, ox, none⟩) 5 cx → Below (W2).heap.size (W2) w' → Below x.heap.size x w' → K _ w' := fun v w' e1 e2 e3 => hK v w' (fun _ => e1) e2 e3
              have h4 : a.tmps.getD 4 undef = .slice (some ⟨bx, ox, none⟩) 5 cx := hs 4 (by kernel_rfl)
              clear hd hs
              refine wpOp_plain rfl rfl ?_
              go_simp
              exact hK _ _ rfl hG (Below.refl _ _)
            · intro _ a x hG hd hs K hK
              replace hG : Below (W2).heap.size (W2) x := hG
              replace hK : ∀ (v : Value) w', v = .pointer (some ⟨bx, ox + 4, none⟩) → Below (W2).heap.size (W2) w' → Below x.heap.size x w' → K _ w' := fun v w' e1 e2 e3 => hK v w' (fun _ => e1) e2 e3
              have h49 : a.tmps.getD 49 undef = .slice (some ⟨bx, ox, none⟩) 5 cx := hd 8 49 (by kernel_rfl) (by simp)
              clear hd hs
              refine wpOp_plain rfl rfl ?_
              go_simp
              exact hK _ _ rfl hG (Below.refl _ _)
            · intro _ a x hG hd hs K hK
              replace hG : Below (W2).heap.size (W2) x := hG
              replace hK : ∀ (v : Value) w', v = .int .u64 (V4 : Int) → Below (W2).heap.size (W2) w' → Below x.heap.size x w' → K _ w' := fun v w' e1 e2 e3 => hK v w' (fun _ => e1) e2 e3
              have h50 : a.tmps.getD 50 undef = .pointer (some ⟨bx, ox + 4, none⟩) := hd 9 50 (by kernel_rfl) (by simp)
              clear hd hs
              refine wpOp_plain rfl rfl ?_
              have hc := (hG.cell (p := ⟨bx, ox + 4, none⟩) hbx).trans hx4
              go_simp
              exact hK _ _ rfl hG (Below.refl _ _)
            · intro _ a x hG hd hs K hK
              replace hG : Below (W2).heap.size (W2) x := hG
              replace hK : ∀ (v : Value) w', v = .bool eb → Below (W2).heap.size (W2) w' → Below x.heap.size x w' → K _ w' := fun v w' e1 e2 e3 => hK v w' (fun _ => e1) e2 e3
              have h51 : a.tmps.getD 51 undef = .int .u64 (V4 : Int) := hd 10 51 (by kernel_rfl) (by simp)
              clear hd hs
              refine wpOp_plain rfl rfl ?_
              have heb := HHEB.out
              go_simp
              exact hK _ _ rfl hG (Below.refl _ _)
            · intro _ a x hG hd hs K hK
              replace hG : Below (W2).heap.size (W2) x := hG
              replace hK : ∀ (v : Value) w', v = .agg (pcS (V1 : Int) (V2 : Int) eb (.slice none 0 0)).toArray → Below (W2).heap.size (W2) w' → Below x.heap.size x w' → K _ w' := fun v w' e1 e2 e3 => hK v w' (fun _ => e1) e2 e3
              have h44 : a.tmps.getD 44 undef = .int .i64 (V1 : Int) := hd 3 44 (by kernel_rfl) (by simp)
              have h44o := getD_opt h44
              have h48 : a.tmps.getD 48 undef = .int .i64 (V2 : Int) := hd 7 48 (by kernel_rfl) (by simp)
              have h48o := getD_opt h48
              have h52 : a.tmps.getD 52 undef = .bool eb := hd 11 52 (by kernel_rfl) (by simp)
              have h52o := getD_opt h52
              clear hd hs
              refine wpOp_plain rfl rfl ?_
              go_simp
              exact hK _ _ rfl hG (Below.refl _ _)
            · intro hno
              exact absurd rfl ((hno _ (List.Mem.head _)).1)
            · intro hno
              exact absurd rfl ((hno _ (List.Mem.head _)).2)
          · intro x gs hG hgs
            intro v0 hv0 v1 hv1 v2 hv2 v3 hv3 v4 hv4 v5 hv5 v6 hv6 v7 hv7 v8 hv8 v9 hv9 v10 hv10 v11 hv11 v12 hv12 v13 hv13
            replace hv0 : v0 = .slice (some ⟨bx, ox, none⟩) 5 cx := hv0
            subst hv0
            replace hv1 : v1 = .pointer (some ⟨bx, ox + 1, none⟩) := hv1
            subst hv1
            replace hv2 : v2 = .int .u64 (V1 : Int) := hv2
            subst hv2
            replace hv3 : v3 = .int .i64 (V1 : Int) := hv3
            subst hv3
            replace hv4 : v4 = .slice (some ⟨bx, ox, none⟩) 5 cx := hv4
            subst hv4
            replace hv5 : v5 = .pointer (some ⟨bx, ox + 2, none⟩) := hv5
            subst hv5
            replace hv6 : v6 = .int .u64 (V2 : Int) := hv6
            subst hv6
            replace hv7 : v7 = .int .i64 (V2 : Int) := hv7
            subst hv7
            replace hv8 : v8 = .slice (some ⟨bx, ox, none⟩) 5 cx := hv8
            subst hv8
            replace hv9 : v9 = .pointer (some ⟨bx, ox + 4, none⟩) := hv9
            subst hv9
            replace hv10 : v10 = .int .u64 (V4 : Int) := hv10
            subst hv10
            replace hv11 : v11 = .bool eb := hv11
            subst hv11
            replace hv12 : v12 = .agg (pcS (V1 : Int) (V2 : Int) eb (.slice none 0 0)).toArray := hv12
            subst hv12
            replace hv13 : v13 = .pointer (some ⟨gs.getD 0 0, 0, none⟩) := hv13
            subst hv13
            obtain ⟨gl0, gk0⟩ := hgs 0 _ rfl
            replace gl0 : (W2).heap.size ≤ gs.getD 0 0 := gl0
            replace gk0 : Blk x (gs.getD 0 0) 24 (pcS (V1 : Int) (V2 : Int) eb (.slice none 0 0)) := gk0
            clear hgs
            generalize gs.getD 0 0 = gv0 at *
            simp only [Act.put, List.setIfInBounds_toArray, List.set_cons_zero, List.set_cons_succ, REnd]
            try simp only [Exit.then]
            have hg6 : g2 ≠ gv0 := by have := hk2.lt; omega
            have hg6b : w.heap.size ≤ gv0 := Nat.le_trans c2.size gl0
            replace hk2 := hk2.ext hG
            replace c2 := c2.trans (hG.mono c2.size)
            have hx3' := (hG.cell (p := ⟨bx, ox + 3, none⟩) hbx).trans hx3
            clear hx0 hx1 hx2 hx3 hx4 hbx gl0 hG h0' h4' h4 v4 v0 HHEB
            have hlw := hg3
            have HV3 := Lib.hid h3
            clear h3' h3
            have v3' : V3 ≤ 13 := HV3.out
            go_wp2
            go_loopw [7, 57] (fun t7 t57 wr => ∃ k : Nat, k ≤ V3 ∧ t7 = .int .i64 (((16 + 8 * k : Nat)) : Int) ∧ t57 = .int .u64 (k : Int) ∧ (∃ v, Blk wr gv0 24 (pcS (V1 : Int) (V2 : Int) eb v) ∧ wr.ownsRow w.heap.size 62 4 v k (ecells (Sm.entsOf (l.drop 16) k))) ∧ Blk wr g2 24 [.int .i64 0, .int .i64 0, .bool false, .slice none 0 0] ∧ Below w.heap.size w wr) (fun _ t57 _ => V3 - (intOf t57).toNat)
            case atStart => exact ⟨0, Nat.zero_le _, rfl, rfl, ⟨_, gk0, World.ownsRow_nil _ _ _ _⟩, hk2, c2⟩
            case round =>
              obtain ⟨k, hk, rfl, rfl, ⟨v, bv, hown⟩, hkz, hbr⟩ := hrel
              clear gk0 hk2 c2 hx3'
              by_cases hlt : k < V3
              · have hBs := HB.out.ext (Nat.le_refl _) hbr
                have ht := Bs.tail hBs (k := 16 + 8 * k) (by omega)
                rw [if_neg (by omega)] at ht
                simp only [Option.map_some, add_plain] at ht
                have HT := Lib.hid ht
                have g1 : 16 + 8 * k ≤ l.length := by omega
                have g4 : 16 + 8 * k < c := by omega
                clear ht hBs
                go_wp2_with fail
                have b1 := (Below.refl wr.heap.size wr).alloc (Nat.le_refl _) (.cells #[.int .i64 1, .int .i64 1, .int .i64 2, .int .i64 4] 3)
                obtain ⟨ue, uv⟩ := uerr_4 (l.drop (16 + 8 * k)) (by rw [List.length_drop]; omega)
                refine (unpack_any _ _ _ (wr.heap.size + 1) (l.drop (16 + 8 * k)) [1, 1, 2, 4] (Bs.more (HT.out.ext hbr.size b1) (by have := hbr.size; omega)) (Is.lit .i64 wr _ _ [1, 1, 2, 4] 4 rfl rfl (by simp [maxLen])) (by simp) (by simp)).mono ?_
                rintro e w2 ⟨x, rfl, hownu, hb2⟩
                rw [ue]
                rw [uv] at hownu
                have c2 := b1.trans (hb2.mono b1.size)
                have hsx : Us w2 w2.heap.size x _ := Us.of_own hownu
                have HEN := Lib.hid (entAt_16 l k)
                have u0 : Pk.val ((l.drop (16 + 8 * k)).take 1) < 256 := Sm.val_lt_of _ 1
                have u1 : Pk.val (((l.drop (16 + 8 * k)).drop 1).take 1) < 256 := Sm.val_lt_of _ 1
                have u2 : Pk.val (((l.drop (16 + 8 * k)).drop 2).take 2) < 65536 := Sm.val_lt_of _ 2
                have u3 : Pk.val (((l.drop (16 + 8 * k)).drop 4).take 4) < 4294967296 := Sm.val_lt_of _ 4
                generalize Pk.val ((l.drop (16 + 8 * k)).take 1) = U0 at *
                generalize Pk.val (((l.drop (16 + 8 * k)).drop 1).take 1) = U1 at *
                generalize Pk.val (((l.drop (16 + 8 * k)).drop 2).take 2) = U2 at *
                generalize Pk.val (((l.drop (16 + 8 * k)).drop 4).take 4) = U3 at *
                obtain ⟨by_, oy, cy, rfl, hcy, hby, hy0, hy1, hy2, hy3⟩ := us_four hsx
                have hgv := bv.lt
                replace bv := bv.ext c2
                replace hkz := hkz.ext c2
                have hown2 := own_ext hown c2
                replace hbr := hbr.trans (c2.mono hbr.size)
                clear hsx hownu uv ue HT hown c2 b1 hb2
                go_upto_region 13 with fail
                have hG0 : Below w2.heap.size w2 w2.drew := (Below.refl _ _).drew
                refine wp_region_then 23 20 [(fun y_ _ => y_ = .pointer (some ⟨gv0, 3, none⟩)),
                  (fun y_ _ => y_ = v),
                  (fun y_ _ => y_ = .slice (some ⟨by_, oy, none⟩) 4 cy),
                  (fun y_ _ => y_ = .pointer (some ⟨by_, oy, none⟩)),
                  (fun y_ _ => y_ = .int .u64 (U0 : Int)),
                  (fun y_ _ => y_ = .int .i64 (U0 : Int)),
                  (fun y_ _ => y_ = .slice (some ⟨by_, oy, none⟩) 4 cy),
                  (fun y_ _ => y_ = .pointer (some ⟨by_, oy + 1, none⟩)),
                  (fun y_ _ => y_ = .int .u64 (U1 : Int)),
                  (fun y_ _ => y_ = .int .i64 (U1 : Int)),
                  (fun y_ _ => y_ = .slice (some ⟨by_, oy, none⟩) 4 cy),
                  (fun y_ _ => y_ = .pointer (some ⟨by_, oy + 2, none⟩)),
                  (fun y_ _ => y_ = .int .u64 (U2 : Int)),
                  (fun y_ _ => y_ = .int .i64 (U2 : Int)),
                  (fun y_ _ => y_ = .slice (some ⟨by_, oy, none⟩) 4 cy),
                  (fun y_ _ => y_ = .pointer (some ⟨by_, oy + 3, none⟩)),
                  (fun y_ _ => y_ = .int .u64 (U3 : Int)),
                  (fun y_ _ => y_ = .int .u32 (U3 : Int)),
                  (fun y_ _ => y_ = .agg #[.int .i64 (U0 : Int), .int .i64 (U1 : Int), .int .i64 (U2 : Int), .int .u32 (U3 : Int)]),
                  (fun u q => ∃ g, u = .slice (some ⟨g, 0, none⟩) 1 1 ∧ Blk q g 62 (ecells [⟨(U0 : Int), (U1 : Int), (U2 : Int), U3⟩]) ∧ w2.heap.size ≤ g)]
                  (fun q => Below w2.heap.size w2 q) (by kernel_rfl) rfl (by decide) (by kernel_rfl) (by kernel_rfl) ?_ ?_ ?_ ?_
                · exact hG0
                · exact ⟨stab_eq _, stab_eq _, stab_eq _, stab_eq _, stab_eq _, stab_eq _, stab_eq _, stab_eq _, stab_eq _, stab_eq _, stab_eq _, stab_eq _, stab_eq _, stab_eq _, stab_eq _, stab_eq _, stab_eq _, stab_eq _, stab_eq _, fun _ _ _ ⟨g, h1, h2, h3⟩ hb => ⟨g, h1, h2.ext hb, h3⟩, trivial⟩
                · refine ⟨?_, ?_, ?_, ?_, ?_, ?_, ?_, ?_, ?_, ?_, ?_, ?_, ?_, ?_, ?_, ?_, ?_, ?_, ?_, ?_, trivial⟩
                  · intro a x hG hd hs K hK
                    have h6 : a.tmps.getD 6 undef = .pointer (some ⟨gv0, 0, none⟩) := hs 6 (by kernel_rfl)
                    clear hd hs
                    refine wpOp_plain rfl rfl ?_
                    go_simp
                    exact hK _ _ rfl hG (Below.refl _ _)
                  · intro a x hG hd hs K hK
                    have h70 : a.tmps.getD 70 undef = .pointer (some ⟨gv0, 3, none⟩) := hd 0 70 (by kernel_rfl)
                    clear hd hs
                    refine wpOp_plain rfl rfl ?_
                    have hc : x.cell? ⟨gv0, 3, none⟩ = some v := (hG.cell (p := ⟨gv0, 3, none⟩) bv.lt).trans (bv.cell 3)
                    go_simp
                    exact hK _ _ rfl hG (Below.refl _ _)
                  · intro a x hG hd hs K hK
                    have h8 : a.tmps.getD 8 undef = .slice (some ⟨by_, oy, none⟩) 4 cy := hs 8 (by kernel_rfl)
                    clear hd hs
                    refine wpOp_plain rfl rfl ?_
                    go_simp
                    exact hK _ _ rfl hG (Below.refl _ _)
                  · intro a x hG hd hs K hK
                    have h72 : a.tmps.getD 72 undef = .slice (some ⟨by_, oy, none⟩) 4 cy := hd 2 72 (by kernel_rfl)
                    clear hd hs
                    refine wpOp_plain rfl rfl ?_
                    go_simp
                    exact hK _ _ rfl hG (Below.refl _ _)
                  · intro a x hG hd hs K hK
                    have h73 : a.tmps.getD 73 undef = .pointer (some ⟨by_, oy, none⟩) := hd 3 73 (by kernel_rfl)
                    clear hd hs
                    refine wpOp_plain rfl rfl ?_
                    have hc := (hG.cell (p := ⟨by_, oy, none⟩) hby).trans hy0
                    go_simp
                    exact hK _ _ rfl hG (Below.refl _ _)
                  · intro a x hG hd hs K hK
                    have h74 : a.tmps.getD 74 undef = .int .u64 (U0 : Int) := hd 4 74 (by kernel_rfl)
                    clear hd hs
                    refine wpOp_plain rfl rfl ?_
                    have hwr : IntKind.i64.wrap (U0 : Int) = (U0 : Int) := IntWalk.i64_in _ (by omega)
                    go_simp
                    exact hK _ _ rfl hG (Below.refl _ _)
                  · intro a x hG hd hs K hK
                    have h8 : a.tmps.getD 8 undef = .slice (some ⟨by_, oy, none⟩) 4 cy := hs 8 (by kernel_rfl)
                    clear hd hs
                    refine wpOp_plain rfl rfl ?_
                    go_simp
                    exact hK _ _ rfl hG (Below.refl _ _)
                  · intro a x hG hd hs K hK
                    have h76 : a.tmps.getD 76 undef = .slice (some ⟨by_, oy, none⟩) 4 cy := hd 6 76 (by kernel_rfl)
                    clear hd hs
                    refine wpOp_plain rfl rfl ?_
                    go_simp
                    exact hK _ _ rfl hG (Below.refl _ _)
                  · intro a x hG hd hs K hK
                    have h77 : a.tmps.getD 77 undef = .pointer (some ⟨by_, oy + 1, none⟩) := hd 7 77 (by kernel_rfl)
                    clear hd hs
                    refine wpOp_plain rfl rfl ?_
                    have hc := (hG.cell (p := ⟨by_, oy + 1, none⟩) hby).trans hy1
                    go_simp
                    exact hK _ _ rfl hG (Below.refl _ _)
                  · intro a x hG hd hs K hK
                    have h78 : a.tmps.getD 78 undef = .int .u64 (U1 : Int) := hd 8 78 (by kernel_rfl)
                    clear hd hs
                    refine wpOp_plain rfl rfl ?_
                    have hwr : IntKind.i64.wrap (U1 : Int) = (U1 : Int) := IntWalk.i64_in _ (by omega)
                    go_simp
                    exact hK _ _ rfl hG (Below.refl _ _)
                  · intro a x hG hd hs K hK
                    have h8 : a.tmps.getD 8 undef = .slice (some ⟨by_, oy, none⟩) 4 cy := hs 8 (by kernel_rfl)
                    clear hd hs
                    refine wpOp_plain rfl rfl ?_
                    go_simp
                    exact hK _ _ rfl hG (Below.refl _ _)
                  · intro a x hG hd hs K hK
                    have h80 : a.tmps.getD 80 undef = .slice (some ⟨by_, oy, none⟩) 4 cy := hd 10 80 (by kernel_rfl)
                    clear hd hs
                    refine wpOp_plain rfl rfl ?_
                    go_simp
                    exact hK _ _ rfl hG (Below.refl _ _)
                  · intro a x hG hd hs K hK
                    have h81 : a.tmps.getD 81 undef = .pointer (some ⟨by_, oy + 2, none⟩) := hd 11 81 (by kernel_rfl)
                    clear hd hs
                    refine wpOp_plain rfl rfl ?_
                    have hc := (hG.cell (p := ⟨by_, oy + 2, none⟩) hby).trans hy2
                    go_simp
                    exact hK _ _ rfl hG (Below.refl _ _)
                  · intro a x hG hd hs K hK
                    have h82 : a.tmps.getD 82 undef = .int .u64 (U2 : Int) := hd 12 82 (by kernel_rfl)
                    clear hd hs
                    refine wpOp_plain rfl rfl ?_
                    have hwr : IntKind.i64.wrap (U2 : Int) = (U2 : Int) := IntWalk.i64_in _ (by omega)
                    go_simp
                    exact hK _ _ rfl hG (Below.refl _ _)
                  · intro a x hG hd hs K hK
                    have h8 : a.tmps.getD 8 undef = .slice (some ⟨by_, oy, none⟩) 4 cy := hs 8 (by kernel_rfl)
                    clear hd hs
                    refine wpOp_plain rfl rfl ?_
                    go_simp
                    exact hK _ _ rfl hG (Below.refl _ _)
                  · intro a x hG hd hs K hK
                    have h84 : a.tmps.getD 84 undef = .slice (some ⟨by_, oy, none⟩) 4 cy := hd 14 84 (by kernel_rfl)
                    clear hd hs
                    refine wpOp_plain rfl rfl ?_
                    go_simp
                    exact hK _ _ rfl hG (Below.refl _ _)
                  · intro a x hG hd hs K hK
                    have h85 : a.tmps.getD 85 undef = .pointer (some ⟨by_, oy + 3, none⟩) := hd 15 85 (by kernel_rfl)
                    clear hd hs
                    refine wpOp_plain rfl rfl ?_
                    have hc := (hG.cell (p := ⟨by_, oy + 3, none⟩) hby).trans hy3
                    go_simp
                    exact hK _ _ rfl hG (Below.refl _ _)
                  · intro a x hG hd hs K hK
                    have h86 : a.tmps.getD 86 undef = .int .u64 (U3 : Int) := hd 16 86 (by kernel_rfl)
                    clear hd hs
                    refine wpOp_plain rfl rfl ?_
                    have hwr : IntKind.u32.wrap (U3 : Int) = (U3 : Int) := IntWalk.u32_in _ (by omega)
                    go_simp
                    exact hK _ _ rfl hG (Below.refl _ _)
                  · intro a x hG hd hs K hK
                    have h75 : a.tmps.getD 75 undef = .int .i64 (U0 : Int) := hd 5 75 (by kernel_rfl)
                    have h75o := getD_opt h75
                    have h79 : a.tmps.getD 79 undef = .int .i64 (U1 : Int) := hd 9 79 (by kernel_rfl)
                    have h79o := getD_opt h79
                    have h83 : a.tmps.getD 83 undef = .int .i64 (U2 : Int) := hd 13 83 (by kernel_rfl)
                    have h83o := getD_opt h83
                    have h87 : a.tmps.getD 87 undef = .int .u32 (U3 : Int) := hd 17 87 (by kernel_rfl)
                    have h87o := getD_opt h87
                    clear hd hs
                    refine wpOp_plain rfl rfl ?_
                    go_simp
                    exact hK _ _ rfl hG (Below.refl _ _)
                  · intro a x hG hd hs K hK
                    have h88 : a.tmps.getD 88 undef = .agg #[.int .i64 (U0 : Int), .int .i64 (U1 : Int), .int .i64 (U2 : Int), .int .u32 (U3 : Int)] := hd 18 88 (by kernel_rfl)
                    have h88o := getD_opt h88
                    clear hd hs
                    refine wpOp_plain rfl rfl ?_
                    go_simp
                    exact hK _ _ ⟨x.heap.size, rfl, Blk.new x _ _, hG.size⟩ (hG.alloc hG.size _) ((Below.refl _ _).alloc (Nat.le_refl _) _)
                · intro x hG
                  rintro _ rfl _ rfl _ rfl _ rfl _ rfl _ rfl _ rfl _ rfl _ rfl _ rfl _ rfl _ rfl _ rfl _ rfl _ rfl _ rfl _ rfl _ rfl _ rfl v19 hv19
                  simp only [Act.put, List.setIfInBounds_toArray, List.set_cons_zero, List.set_cons_succ, List.take_zero, REnd]
                  rw [show List.range' 20 (23 - 20) = [20, 21, 22] from rfl, wpOps_cons]
                  rename_i v
                  obtain ⟨gn, rfl, kn, hgn⟩ := hv19
                  have hown3 := own_ext hown2 hG
                  have hr := kn.rds 0 1 1 4 (by show 0 + 1 * 4 ≤ 4; decide) (Nat.le_refl _) (by simp [maxLen])
                  rw [List.drop_zero, List.take_of_length_le (show (4 : Nat) ≤ 1 * 4 by decide)] at hr
                  obtain ⟨v', wa, hruna, howna, hgra, _⟩ := run_append_rds (P := Tryd.prog) (ty := 22) Tryd.underlying22 infoEnt rfl (by decide) hown3 hr (ecells_one _) (by rw [maxLen_eq]; omega) (by omega) (Nat.le_trans hbr.size hG.size)
                  refine wpOp_plain rfl rfl ?_
                  refine wp_append 71 89 22 rfl rfl rfl hruna ?_
                  rw [wpOps_cons]
                  refine wpOp_plain rfl rfl ?_
                  have bx1 : Blk x gv0 24 (pcS (V1 : Int) (V2 : Int) eb v) := Blk.ext bv hG
                  have ba1 := bx1.grown hgra (own_blk_ne hown3 bx1 (by decide))
                  have bz1 := (Blk.ext hkz hG).grown hgra (own_blk_ne hown3 (Blk.ext hkz hG) (by decide))
                  have cS : wa.cell? ⟨gv0, 3, none⟩ = some v := ba1.cell 3
                  have fS := ba1.frozen 3
                  obtain ⟨A', c', rfl⟩ := own_slice howna
                  have hbl2 := ((hbr.trans (hG.mono hbr.size)).grown hgra (Nat.le_trans hbr.size hG.size) (fun g e => (hown3.lt g e).1)).setCell (p := ⟨gv0, 3, none⟩) hg6b (.slice A' (k + 1) c')
                  have hfin := own_far howna ba1 (by decide) 3 (.slice A' (k + 1) c')
                  have hbf := ba1.set_ 3 (.slice A' (k + 1) c')
                  replace bz1 := bz1.far (p := ⟨gv0, 3, none⟩) hg6 (.slice A' (k + 1) c')
                  rw [show ecells (Sm.entsOf (l.drop 16) k) ++ ecells [⟨(U0 : Int), (U1 : Int), (U2 : Int), U3⟩] = ecells (Sm.entsOf (l.drop 16) (k + 1)) by rw [Sm.entsOf_snoc, ecells_app, HEN.out]] at hfin
                  have HF := Lib.hid hfin
                  have HBF := Lib.hid hbf
                  have HZ1 := Lib.hid bz1
                  clear hruna howna hgra hown3 hown2 hfin hbf bz1 bx1 ba1 kn hr hG hG0 hkz bv hy0 hy1 hy2 hy3
                  simp only [Act.put]
                  go_simp
                  rw [wpOps_cons]
                  refine wpOp_plain rfl rfl ?_
                  go_simp
                  unfold wpOps
                  simp only [Exit.then]
                  clear cS fS
                  obtain ⟨w3, hw3⟩ : ∃ w3, wa.setCell ⟨gv0, 3, none⟩ (.slice A' (k + 1) c') = w3 := ⟨_, rfl⟩
                  rw [hw3] at HF HBF HZ1 hbl2 ⊢
                  clear hw3
                  go_wp2
                  go_roundw
                  case rel => exact ⟨k + 1, by omega, congrArg (Value.int .i64) (show (16 + 8 * (k : Int) + 8) = ((16 + 8 * (k + 1) : Nat) : Int) by omega), by go_num, ⟨_, HBF.out, HF.out⟩, HZ1.out, hbl2⟩
                  case measure => simp [intOf]; omega
              · obtain rfl : k = V3 := by omega
                have hBs := HB.out.ext (Nat.le_refl _) hbr
                have hhd := Bs.head hBs (k := 124) (by omega)
                have hpl : Sm.Pt.mk (V1 : Int) (V2 : Int) eb (Sm.entsOf (l.drop 16) k) = Sm.smOf l := by rw [HO.out, HEB.out]
                have HPL := Lib.hid hpl
                have hEn : Ents wr wr.heap.size v (Sm.entsOf (l.drop 16) k) := Rds.of_own (n := (Sm.entsOf (l.drop 16) k).length) (by rw [Sm.entsOf_len]; exact hown)
                have HEn := Lib.hid hEn
                obtain ⟨Av, cv, rfl⟩ := own_slice hown
                have hgz := hkz.lt
                have hgv := bv.lt
                clear hpl hBs HB hEn hlt
                go_wp2_with fail
                refine (clear_any _ _ w.heap.size (l.take 124) ((16 + 8 * k : Nat) : Int) hhd (by omega)).mono ?_
                rintro e w' ⟨rfl, rfl⟩
                clear hhd
                cases hcl : Pk.clr (l.take 124) ((16 + 8 * k : Nat) : Int) with
                | false =>
                  rw [hcl, Bool.false_and, if_neg (by decide)] at HE
                  clear hcl
                  have e0 := hkz.cell 0
                  have e1 := hkz.cell 1
                  have e2 := hkz.cell 2
                  have e3 := hkz.cell 3
                  have ef := hkz.frozen
                  go_wp2
                  have hz := (((hkz.set_ 0 (.int .i64 0)).set_ 1 (.int .i64 0)).set_ 2 (.bool false)).set_ 3 (.slice none 0 0)
                  have bz := (((hbr.setCell (p := ⟨g2, 0, none⟩) hg1 (.int .i64 0)).setCell (p := ⟨g2, 1, none⟩) hg1 (.int .i64 0)).setCell (p := ⟨g2, 2, none⟩) hg1 (.bool false)).setCell (p := ⟨g2, 3, none⟩) hg1 (.slice none 0 0)
                  refine bodyPost_ret (v := .tuple #[.agg #[.int .i64 0, .int .i64 0, .bool false, .slice none 0 0], .int .i64 3]) (res_cell2 [.int .i64 0, .int .i64 0, .bool false, .slice none 0 0] _ Tryd.results13 rfl hz.range Tryd.underlying24 rfl (by kernel_rfl) rfl) rfl ?_
                  exact DecS.no HE.out (by decide) rfl bz
                | true =>
                  rw [hcl, Bool.true_and] at HE
                  clear hcl
                  have p0 : wr.cell? ⟨gv0, 0, none⟩ = some (.int .i64 (V1 : Int)) := bv.cell 0
                  have p1 : wr.cell? ⟨gv0, 1, none⟩ = some (.int .i64 (V2 : Int)) := bv.cell 1
                  have p2 : wr.cell? ⟨gv0, 2, none⟩ = some (.bool eb) := bv.cell 2
                  have p3 : wr.cell? ⟨gv0, 3, none⟩ = some (.slice Av k cv) := bv.cell 3
                  go_wp2_with fail
                  refine (mayS_any (V1 : Int) (V2 : Int) eb _ (Sm.entsOf (l.drop 16) k) wr HEn.out).mono ?_
                  rintro e w5 ⟨rfl, b5⟩
                  rw [HPL.out]
                  replace bv := bv.ext b5
                  replace hkz := hkz.ext b5
                  replace hbr := hbr.trans (b5.mono hbr.size)
                  have hown5 := own_ext hown b5
                  clear p0 p1 p2 p3 b5 hown HEn
                  cases hmy : Sm.mayB (Sm.smOf l) with
                  | false =>
                    rw [hmy, if_neg (by decide)] at HE
                    clear hmy
                    have e0 := hkz.cell 0
                    have e1 := hkz.cell 1
                    have e2 := hkz.cell 2
                    have e3 := hkz.cell 3
                    have ef := hkz.frozen
                    go_wp2
                    have hz := (((hkz.set_ 0 (.int .i64 0)).set_ 1 (.int .i64 0)).set_ 2 (.bool false)).set_ 3 (.slice none 0 0)
                    have bz := (((hbr.setCell (p := ⟨g2, 0, none⟩) hg1 (.int .i64 0)).setCell (p := ⟨g2, 1, none⟩) hg1 (.int .i64 0)).setCell (p := ⟨g2, 2, none⟩) hg1 (.bool false)).setCell (p := ⟨g2, 3, none⟩) hg1 (.slice none 0 0)
                    refine bodyPost_ret (v := .tuple #[.agg #[.int .i64 0, .int .i64 0, .bool false, .slice none 0 0], .int .i64 3]) (res_cell2 [.int .i64 0, .int .i64 0, .bool false, .slice none 0 0] _ Tryd.results13 rfl hz.range Tryd.underlying24 rfl (by kernel_rfl) rfl) rfl ?_
                    exact DecS.no HE.out (by decide) rfl bz
                  | true =>
                    rw [hmy, if_pos rfl] at HE
                    clear hmy
                    have p0 : w5.cell? ⟨gv0, 0, none⟩ = some (.int .i64 (V1 : Int)) := bv.cell 0
                    have p1 : w5.cell? ⟨gv0, 1, none⟩ = some (.int .i64 (V2 : Int)) := bv.cell 1
                    have p2 : w5.cell? ⟨gv0, 2, none⟩ = some (.bool eb) := bv.cell 2
                    have p3 : w5.cell? ⟨gv0, 3, none⟩ = some (.slice Av k cv) := bv.cell 3
                    have e0 := hkz.cell 0
                    have e1 := hkz.cell 1
                    have e2 := hkz.cell 2
                    have e3 := hkz.cell 3
                    have ef := hkz.frozen
                    go_wp2
                    have y1 := hkz.set_ 0 (.int .i64 (V1 : Int))
                    have y2 := y1.set_ 1 (.int .i64 (V2 : Int))
                    have y3 := y2.set_ 2 (.bool eb)
                    have y4 := y3.set_ 3 (.slice Av k cv)
                    have zo := own_far (own_far (own_far (own_far hown5 hkz (by decide) 0 (.int .i64 (V1 : Int))) y1 (by decide) 1 (.int .i64 (V2 : Int))) y2 (by decide) 2 (.bool eb)) y3 (by decide) 3 (.slice Av k cv)
                    have bz := (((hbr.setCell (p := ⟨g2, 0, none⟩) hg1 (.int .i64 (V1 : Int))).setCell (p := ⟨g2, 1, none⟩) hg1 (.int .i64 (V2 : Int))).setCell (p := ⟨g2, 2, none⟩) hg1 (.bool eb)).setCell (p := ⟨g2, 3, none⟩) hg1 (.slice Av k cv)
                    have hfs : Ents _ _ (.slice Av k cv) (Sm.entsOf (l.drop 16) k) := Rds.of_own (n := (Sm.entsOf (l.drop 16) k).length) (by rw [Sm.entsOf_len]; exact zo)
                    refine bodyPost_ret (v := .tuple #[.agg #[.int .i64 (V1 : Int), .int .i64 (V2 : Int), .bool eb, .slice Av k cv], .int .i64 0]) (res_cell2 [.int .i64 (V1 : Int), .int .i64 (V2 : Int), .bool eb, .slice Av k cv] _ Tryd.results13 rfl y4.range Tryd.underlying24 rfl (by kernel_rfl) rfl) rfl ?_
                    exact DecS.yes HE.out (by rw [← HPL.out]) (by rw [← HPL.out]) (by rw [← HPL.out]) (by rw [← HPL.out]; exact hfs) bz
        · have h4' : 1 < (V4 : Int) := by omega
          rw [HT.out, decide_eq_false (fun q => h4 q.2.2), Bool.false_and, if_neg (by decide)] at HE
          clear HT h0 h3 h4 HO HB
          have e0 := hk2.cell 0
          have e1 := hk2.cell 1
          have e2 := hk2.cell 2
          have e3 := hk2.cell 3
          have ef := hk2.frozen
          go_wp2
          have hz := (((hk2.set_ 0 (.int .i64 0)).set_ 1 (.int .i64 0)).set_ 2 (.bool false)).set_ 3 (.slice none 0 0)
          have bz := (((c2.setCell (p := ⟨g2, 0, none⟩) hg1 (.int .i64 0)).setCell (p := ⟨g2, 1, none⟩) hg1 (.int .i64 0)).setCell (p := ⟨g2, 2, none⟩) hg1 (.bool false)).setCell (p := ⟨g2, 3, none⟩) hg1 (.slice none 0 0)
          refine bodyPost_ret (v := .tuple #[.agg #[.int .i64 0, .int .i64 0, .bool false, .slice none 0 0], .int .i64 3]) (res_cell2 [.int .i64 0, .int .i64 0, .bool false, .slice none 0 0] _ Tryd.results13 rfl hz.range Tryd.underlying24 rfl (by kernel_rfl) rfl) rfl ?_
          exact DecS.no HE.out (by decide) rfl bz
      · have h3' : 13 < (V3 : Int) := by omega
        rw [HT.out, decide_eq_false (fun q => h3 q.2.1), Bool.false_and, if_neg (by decide)] at HE
        clear HT h0 h3 HO HB
        have e0 := hk2.cell 0
        have e1 := hk2.cell 1
        have e2 := hk2.cell 2
        have e3 := hk2.cell 3
        have ef := hk2.frozen
        go_wp2
        have hz := (((hk2.set_ 0 (.int .i64 0)).set_ 1 (.int .i64 0)).set_ 2 (.bool false)).set_ 3 (.slice none 0 0)
        have bz := (((c2.setCell (p := ⟨g2, 0, none⟩) hg1 (.int .i64 0)).setCell (p := ⟨g2, 1, none⟩) hg1 (.int .i64 0)).setCell (p := ⟨g2, 2, none⟩) hg1 (.bool false)).setCell (p := ⟨g2, 3, none⟩) hg1 (.slice none 0 0)
        refine bodyPost_ret (v := .tuple #[.agg #[.int .i64 0, .int .i64 0, .bool false, .slice none 0 0], .int .i64 3]) (res_cell2 [.int .i64 0, .int .i64 0, .bool false, .slice none 0 0] _ Tryd.results13 rfl hz.range Tryd.underlying24 rfl (by kernel_rfl) rfl) rfl ?_
        exact DecS.no HE.out (by decide) rfl bz
    · have h0' : ((V0 : Int) != 1752397165) = true := by rw [bne_iff_ne]; omega
      rw [HT.out, decide_eq_false (fun q => h0 q.1), Bool.false_and, if_neg (by decide)] at HE
      clear HT h0 HO HB
      have e0 := hk2.cell 0
      have e1 := hk2.cell 1
      have e2 := hk2.cell 2
      have e3 := hk2.cell 3
      have ef := hk2.frozen
      go_wp2
      have hz := (((hk2.set_ 0 (.int .i64 0)).set_ 1 (.int .i64 0)).set_ 2 (.bool false)).set_ 3 (.slice none 0 0)
      have bz := (((c2.setCell (p := ⟨g2, 0, none⟩) hg1 (.int .i64 0)).setCell (p := ⟨g2, 1, none⟩) hg1 (.int .i64 0)).setCell (p := ⟨g2, 2, none⟩) hg1 (.bool false)).setCell (p := ⟨g2, 3, none⟩) hg1 (.slice none 0 0)
      refine bodyPost_ret (v := .tuple #[.agg #[.int .i64 0, .int .i64 0, .bool false, .slice none 0 0], .int .i64 3]) (res_cell2 [.int .i64 0, .int .i64 0, .bool false, .slice none 0 0] _ Tryd.results13 rfl hz.range Tryd.underlying24 rfl (by kernel_rfl) rfl) rfl ?_
      exact DecS.no HE.out (by decide) rfl bz
end Go.Proofs.YtieajlpkiheebaaDoor
