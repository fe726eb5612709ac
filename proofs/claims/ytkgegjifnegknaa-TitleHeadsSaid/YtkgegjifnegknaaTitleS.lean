/-
  The walks of the reference of layer 9, on: what Runes, sign, Count, Is, Head, Fold, cut and Fit answer. By an AI agent.
-/
import Derived.Test.YtkgegjifnegknaaTitleR
namespace Go.Proofs.Ytkgegjifnegknaa
open Go.RowKit
open Tl (It)

def rnC (x : It) : List Value := [.int .i64 x.v, .string ⟨x.s.toArray⟩, .bool x.odd]
def Rns (w : World) (B : Nat) (v : Value) (xs : List It) : Prop := Rds w B 3 v xs.length (xs.flatMap rnC)
theorem rnCells (xs : List It) : (xs.flatMap rnC).length = xs.length * 3 := by
  induction xs with
  | nil => rfl
  | cons x xs ih => rw [List.flatMap_cons, List.length_append, ih, List.length_cons]; simp [rnC]; omega
theorem rnAt : ∀ (xs : List It) (k : Nat) (h : k < xs.length), (xs.flatMap rnC)[k * 3]? = some (.int .i64 xs[k].v) ∧ (xs.flatMap rnC)[k * 3 + 1]? = some (.string ⟨xs[k].s.toArray⟩) ∧ (xs.flatMap rnC)[k * 3 + 2]? = some (.bool xs[k].odd)
  | x :: xs, 0, _ => ⟨rfl, rfl, rfl⟩
  | x :: xs, k + 1, h => by
    have := rnAt xs k (by simpa using h)
    rw [List.flatMap_cons, show (k + 1) * 3 = k * 3 + 1 + 1 + 1 by omega]
    exact this
theorem Rns.open_ {w : World} {B : Nat} {v : Value} {xs : List It} (h : Rns w B v xs) : ∃ (A : Option Addr) (c : Nat), v = .slice A xs.length c ∧ xs.length ≤ c ∧ c ≤ 9223372036854775807 ∧
    ∀ (j : Nat) (hj : j < xs.length), ∃ b off, A = some ⟨b, off, none⟩ ∧ b < B ∧ w.cell? ⟨b, off + j * 3, none⟩ = some (.int .i64 xs[j].v) ∧ w.cell? ⟨b, off + j * 3 + 1, none⟩ = some (.string ⟨xs[j].s.toArray⟩) ∧ w.cell? ⟨b, off + j * 3 + 2, none⟩ = some (.bool xs[j].odd) := by
  obtain ⟨A, c, h1, h2, h3, h4, h5⟩ := h
  refine ⟨A, c, h1, h2, h3, fun j hj => ?_⟩
  obtain ⟨b, off, e, hb, hc⟩ := h5 (by omega)
  have := rnAt xs j hj
  exact ⟨b, off, e, hb, hc _ _ this.1, by have := hc _ _ this.2.1; rw [Nat.add_assoc]; exact this, by have := hc _ _ this.2.2; rw [Nat.add_assoc]; exact this⟩

theorem infoRune : (Try.prog.info? 40).map (fun i => (i.zero, i.size, i.bytes)) = some (some (.agg #[.int .i64 0, .string .empty, .bool false]), 3, 32) := by kernel_rfl
def strLen : Value → Nat
  | .string s => s.size
  | _ => 0

set_option maxHeartbeats 2000000 in
theorem runes_any (l : List UInt8) (w : World) (hl : l.length < 1099511627776) :
    Calls Try.prog 26 #[.string ⟨l.toArray⟩] w fun e w' => ∃ v, e = .returned v ∧ Rns w' w'.heap.size v (Tl.runes l) ∧ Below w.heap.size w w' := by
  go_enter Try.func26, Try.ntmps26
  go_wp2
  go_loopw [0, 3] (fun s v wr => ∃ (pre : List It) (m : List UInt8), s = .string ⟨m.toArray⟩ ∧ Tl.runes l = pre ++ Tl.runes m ∧ pre.length + m.length ≤ l.length ∧ wr.ownsRow w.heap.size 40 3 v pre.length (pre.flatMap rnC) ∧ Below w.heap.size w wr) (fun s _ _ => strLen s)
  case atStart => exact ⟨[], l, rfl, rfl, by simp, World.ownsRow_nil _ _ _ _, Below.refl _ _⟩
  case round =>
    obtain ⟨pre, m, rfl, hpre, hpl, hown, hbw⟩ := hrel
    have hsz := ba_size m
    by_cases hm : m = []
    · subst hm
      have hz : (0 : Int) = ((⟨([] : List UInt8).toArray⟩ : ByteArray).size : Int) := rfl
      have HP := Lib.hid (show Tl.runes l = pre by rw [hpre]; simp [Tl.runes_nil])
      clear hpre hsz hz
      go_wp2
      go_ret
      exact ⟨_, rfl, by rw [HP.out]; exact Rds.of_own hown, hbw⟩
    · have hm0 : 0 < m.length := by cases m with | nil => exact absurd rfl hm | cons a t => simp
      have hil := Tl.it_len m hm
      have hrc := Tl.runes_cons m hm
      have hnx := fun W => next_any m W (by omega) hm
      have hdr : (⟨m.toArray⟩ : ByteArray).extract (Tl.it m).s.length (⟨m.toArray⟩ : ByteArray).size = ⟨(m.drop (Tl.it m).s.length).toArray⟩ := by
        rw [hsz, ba_extract, List.take_of_length_le (Nat.le_refl _)]
      have hxs := ba_size (Tl.it m).s
      have HPP := Lib.hid (show Tl.runes l = (pre ++ [Tl.it m]) ++ Tl.runes (m.drop (Tl.it m).s.length) by rw [hpre, hrc]; simp)
      have hdl : (m.drop (Tl.it m).s.length).length = m.length - (Tl.it m).s.length := List.length_drop ..
      generalize Tl.it m = x at *
      have HFM := Lib.hid (show (pre ++ [x]).flatMap rnC = pre.flatMap rnC ++ rnC x by rw [List.flatMap_append]; simp)
      obtain ⟨xv, xs, xo⟩ := x
      simp only [itV] at hnx hil hxs hdr HPP hdl
      have HDR := Lib.hid hdr
      have HDL := Lib.hid hdl
      have hgt : (0 : Int) < ((⟨m.toArray⟩ : ByteArray).size : Int) := by rw [hsz]; omega
      have hle : (⟨xs.toArray⟩ : ByteArray).size ≤ (⟨m.toArray⟩ : ByteArray).size := by rw [hxs, hsz]; exact hil.2.1
      have HX := Lib.hid hxs
      have HZ := Lib.hid hsz
      have hi1 := hil.1
      clear hrc hpre hdr hdl hxs hsz hil hm
      generalize hMM : (⟨m.toArray⟩ : ByteArray) = M at *
      generalize hXX : (⟨xs.toArray⟩ : ByteArray) = X at *
      have HXX := Lib.hid hXX
      have HMM := Lib.hid hMM
      clear hMM hXX
      go_wp2_with fail
      refine (hnx _).mono ?_
      rintro e w1 ⟨rfl, hb1⟩
      have hown1 := own_ext hown hb1
      have hbb := hbw.trans (hb1.mono hbw.size)
      clear hnx hb1 hbw hown
      go_wp2_with (at_builtin; refine stop_ ?_)
      have hkv := Blk.new w1 40 #[.int .i64 xv, .string X, .bool xo]
      have hown2 := hown1.alloc (.cells #[.int .i64 xv, .string X, .bool xo] 40)
      have hb2 := hbb.alloc hbb.size (.cells #[.int .i64 xv, .string X, .bool xo] 40)
      refine wpList_append_elem rfl _ _ rfl rfl rfl (by simp) Try.underlying37 infoRune rfl (by decide) hown2 rfl (by simp [Value.oneCell']) (by rw [maxLen_eq]; omega) (by omega) hb2.size ?_
      intro v' w3 hown3 hgr
      have hb3 := hb2.grown hgr hb2.size (fun g hg => (hown2.lt g hg).1)
      have hk3 := hkv.grown hgr (fun e => by have := (hown1.lt _ e.symm).2; omega)
      clear hgr hown1 hown2 hkv hb2 hbb
      have c1 := hk3.cell 1
      simp only [List.getElem?_cons_zero, List.getElem?_cons_succ] at c1
      have g1 : (0 : Int) ≤ (X.size : Int) := by omega
      have g2 : (X.size : Int) ≤ M.size := by omega
      go_wp2
      go_roundw
      case rel =>
        refine ⟨pre ++ [⟨xv, xs, xo⟩], m.drop xs.length, ?_, HPP.out, ?_, ?_, hb3⟩
        · rw [← HDR.out, ← HX.out]
        · rw [HDL.out, List.length_append]; simp; omega
        · rw [HFM.out, List.length_append]
          show w3.ownsRow _ _ 3 v' (pre.length + 1) (pre.flatMap rnC ++ [.int .i64 xv, .string ⟨xs.toArray⟩, .bool xo])
          rw [HXX.out]
          exact hown3
      case measure =>
        have h1 : (M.extract X.size M.size).size = M.size - X.size := by simp
        have h2 := HX.out
        simp only [strLen, h1]
        omega

set_option maxHeartbeats 400000 in
theorem sign_any (x : It) (w : World) :
    Calls Try.prog 29 #[itV x] w fun e w' => e = .returned (.bool (Tl.sgn x)) ∧ Below w.heap.size w w' := by
  obtain ⟨v, xs, od⟩ := x
  unfold itV Tl.sgn
  simp only
  cases od with
  | true =>
    go_enter Try.func29, Try.ntmps29
    go_wp2
    go_ret
    exact ⟨rfl, (Below.refl _ _).alloc (Nat.le_refl _) _⟩
  | false =>
    by_cases h1 : 32 ≤ v
    · cases h2 : (v != 127)
      · go_enter Try.func29, Try.ntmps29
        go_wp2
        go_ret
        exact ⟨by simp, (Below.refl _ _).alloc (Nat.le_refl _) _⟩
      · go_enter Try.func29, Try.ntmps29
        go_wp2
        go_ret
        exact ⟨by simp [h1], (Below.refl _ _).alloc (Nat.le_refl _) _⟩
    · go_enter Try.func29, Try.ntmps29
      go_wp2
      go_ret
      exact ⟨by simp; omega, (Below.refl _ _).alloc (Nat.le_refl _) _⟩

theorem filter_snoc {α : Type} (p : α → Bool) (xs : List α) (k : Nat) (h : k < xs.length) : ((xs.take (k + 1)).filter p).length = ((xs.take k).filter p).length + (if p xs[k] then 1 else 0) := by
  rw [List.take_succ_eq_append_getElem h, List.filter_append, List.length_append]
  cases hp : p xs[k] <;> simp [hp]

set_option maxHeartbeats 1000000 in
theorem countR_any (l : List UInt8) (w : World) (hl : l.length < 1099511627776) :
    Calls Try.prog 12 #[.string ⟨l.toArray⟩] w fun e w' => e = .returned (.tuple #[.int .i64 (Tl.cntR l : Nat), .int .i64 (Tl.cntO l : Nat)]) ∧ Below w.heap.size w w' := by
  have hrl := Tl.runes_len l
  have HC := Lib.hid (Tl.cnt_all l)
  have HO := Lib.hid (show Tl.cntO l = ((Tl.runes l).filter fun x => x.odd).length from rfl)
  go_enter Try.func12, Try.ntmps12
  go_wp2_with fail
  refine (runes_any l _ hl).mono ?_
  rintro e w1 ⟨v, rfl, hr, hb⟩
  generalize Tl.runes l = xs at *
  obtain ⟨A, c, rfl, hc, hm, hcell⟩ := hr.open_
  clear hr
  go_wp2
  go_loop [5, 6] (fun o i => ∃ k : Nat, k ≤ xs.length ∧ i = .int .i64 k ∧ o = .int .i64 (((xs.take k).filter fun x => x.odd).length : Nat)) (fun _ i => xs.length - (intOf i).toNat)
  case atStart => exact ⟨0, Nat.zero_le _, rfl, rfl⟩
  case round =>
    obtain ⟨k, hk, rfl, rfl⟩ := hrel
    by_cases hlt : k < xs.length
    · obtain ⟨b, off, rfl, hb', h1, h2, h3⟩ := hcell k hlt
      have HF := Lib.hid (filter_snoc (fun x : It => x.odd) xs k hlt)
      have hfl : ((xs.take k).filter fun x => x.odd).length ≤ k := Nat.le_trans (List.length_filter_le _ _) (List.length_take_le _ _)
      generalize ((xs.take k).filter fun x => x.odd).length = O at *
      generalize xs[k] = x at *
      obtain ⟨xv, xs', xo⟩ := x
      simp only at h3 HF
      clear hcell h1 h2
      cases xo with
      | true =>
        go_wp2
        go_round
        case rel => exact ⟨k + 1, by omega, by go_num, by rw [HF.out]; go_num⟩
        case measure => simp [intOf]; omega
      | false =>
        go_wp2
        go_round
        case rel => exact ⟨k + 1, by omega, by go_num, by rw [HF.out]; go_num⟩
        case measure => simp [intOf]; omega
    · obtain rfl : k = xs.length := by omega
      rw [List.take_length]
      have hfl := List.length_filter_le (fun x : It => x.odd) xs
      rw [← HO.out] at hfl ⊢
      obtain ⟨O, hO⟩ : ∃ O, Tl.cntO l = O := ⟨_, rfl⟩
      have HOO := Lib.hid hO
      rw [hO] at hfl ⊢
      clear hcell hO
      go_wp2
      go_ret2
      refine ⟨?_, hb⟩
      have := HC.out
      have := HOO.out
      show Ending.returned (.tuple #[.int .i64 ((xs.length : Int) - (O : Int)), .int .i64 (O : Int)]) = _
      rw [show ((xs.length : Int) - (O : Int)) = ((Tl.cntR l : Nat) : Int) by omega, HOO.out]

theorem all_snoc {α : Type} (p : α → Bool) (xs : List α) (k : Nat) (h : k < xs.length) (hp : ∀ x ∈ xs.take k, p x = true) (hk : p xs[k] = true) : ∀ x ∈ xs.take (k + 1), p x = true := by
  intro x hx
  rw [List.take_succ_eq_append_getElem h] at hx
  rcases List.mem_append.1 hx with hx | hx
  · exact hp x hx
  · rw [List.mem_singleton.1 hx]; exact hk

set_option maxHeartbeats 2000000 in
theorem isR_any (l : List UInt8) (w : World) (hl : l.length < 1099511627776) :
    Calls Try.prog 14 #[.string ⟨l.toArray⟩] w fun e w' => e = .returned (.bool (Tl.isN l)) ∧ Below w.heap.size w w' := by
  have hrl := Tl.runes_len l
  have HN := Lib.hid (show Tl.isN l = ((Tl.runes l).all Tl.sgn && decide (1 ≤ l.length) && decide (l.length ≤ 24) && decide ((Tl.runes l).length ≤ 16) && l != [46] && l != [46, 46]) from rfl)
  have hsz := ba_size l
  have e1 : (⟨l.toArray⟩ : ByteArray).toList = l := ba_toList l
  go_enter Try.func14, Try.ntmps14
  go_wp2_with fail
  refine (runes_any l _ hl).mono ?_
  rintro e w1 ⟨v, rfl, hr, hb⟩
  generalize Tl.runes l = xs at *
  generalize hs : (⟨l.toArray⟩ : ByteArray) = s at *
  have HE := Lib.hid e1
  clear hs e1
  obtain ⟨A, c, rfl, hc, hm, hcell⟩ := hr.open_
  clear hr
  go_wp2
  go_loopw [4] (fun i wr => ∃ k : Nat, k ≤ xs.length ∧ i = .int .i64 k ∧ (∀ x ∈ xs.take k, Tl.sgn x = true) ∧ Below w1.heap.size w1 wr) (fun i _ => xs.length - (intOf i).toNat)
  case atStart => exact ⟨0, Nat.zero_le _, rfl, by simp, Below.refl _ _⟩
  case round =>
    obtain ⟨k, hk, rfl, hall, hbw⟩ := hrel
    by_cases hlt : k < xs.length
    · obtain ⟨b, off, rfl, hb', h1, h2, h3⟩ := hcell k hlt
      have h1' := (hbw.cell (p := ⟨b, off + k * 3, none⟩) hb').trans h1
      have h2' := (hbw.cell (p := ⟨b, off + k * 3 + 1, none⟩) hb').trans h2
      have h3' := (hbw.cell (p := ⟨b, off + k * 3 + 2, none⟩) hb').trans h3
      have HS := Lib.hid (fun h => all_snoc Tl.sgn xs k hlt hall h)
      have HF := Lib.hid (show Tl.sgn xs[k] = false → Tl.isN l = false from fun h => by
        rw [HN.out]
        have : xs.all Tl.sgn = false := by
          rw [List.all_eq_false]
          exact ⟨xs[k], List.getElem_mem hlt, by rw [h]; decide⟩
        rw [this]; simp)
      have hsg := fun W => sign_any xs[k] W
      unfold itV at hsg
      generalize Tl.sgn xs[k] = g at *
      generalize xs[k].v = xv at *
      generalize (⟨xs[k].s.toArray⟩ : ByteArray) = xss at *
      generalize xs[k].odd = xo at *
      clear hcell h1 h2 h3 hall
      go_wp2_with fail
      refine (hsg _).mono ?_
      rintro e w2 ⟨rfl, hb2⟩
      have hbb := hbw.trans (hb2.mono hbw.size)
      clear hsg
      cases g with
      | true =>
        go_wp2
        go_roundw
        case rel => exact ⟨k + 1, by omega, by go_num, HS.out (by trivial), hbb⟩
        case measure => simp [intOf]; omega
      | false =>
        go_wp2
        go_ret
        exact ⟨by rw [HF.out (by trivial)]; rfl, hb.trans (hbb.mono hb.size)⟩
    · obtain rfl : k = xs.length := by omega
      rw [List.take_length] at hall
      have HA := Lib.hid (show xs.all Tl.sgn = true from List.all_eq_true.2 hall)
      have HB := hb.trans (hbw.mono hb.size)
      clear hall hcell
      by_cases h1 : 1 ≤ l.length
      · have g1 : (1 : Int) ≤ s.size := by omega
        by_cases h2 : l.length ≤ 24
        · have g2 : (s.size : Int) ≤ 24 := by omega
          by_cases h3 : xs.length ≤ 16
          · have g3 : (xs.length : Int) ≤ 16 := by omega
            by_cases h4 : l = [46]
            · have g4 : (s.toList == [46]) = true := by rw [HE.out, h4]; rfl
              have H := Lib.hid (show Tl.isN l = false by rw [HN.out, h4]; simp)
              clear h4 hsz
              go_wp2
              go_ret
              exact ⟨by rw [H.out]; rfl, HB⟩
            · have g4 : (s.toList == [46]) = false := by rw [HE.out]; simpa using h4
              by_cases h5 : l = [46, 46]
              · have g5 : (s.toList == [46, 46]) = true := by rw [HE.out, h5]; rfl
                have H := Lib.hid (show Tl.isN l = false by rw [HN.out, h5]; simp)
                clear h4 h5 hsz
                go_wp2
                go_ret
                exact ⟨by rw [H.out]; rfl, HB⟩
              · have g5 : (s.toList == [46, 46]) = false := by rw [HE.out]; simpa using h5
                have H := Lib.hid (show Tl.isN l = true by rw [HN.out, HA.out, decide_eq_true h1, decide_eq_true h2, decide_eq_true h3, show (l != [46]) = true from bne_iff_ne.2 h4, show (l != [46, 46]) = true from bne_iff_ne.2 h5]; rfl)
                clear h4 h5 hsz
                go_wp2
                go_ret
                exact ⟨by rw [H.out]; rfl, HB⟩
          · have g3 : ¬ (xs.length : Int) ≤ 16 := by omega
            have H := Lib.hid (show Tl.isN l = false by rw [HN.out, decide_eq_false h3]; simp)
            clear hsz
            go_wp2
            go_ret
            exact ⟨by rw [H.out]; rfl, HB⟩
        · have g2 : ¬ (s.size : Int) ≤ 24 := by omega
          have H := Lib.hid (show Tl.isN l = false by rw [HN.out, decide_eq_false h2]; simp)
          clear hsz
          go_wp2
          go_ret
          exact ⟨by rw [H.out]; rfl, HB⟩
      · have g1 : ¬ (1 : Int) ≤ s.size := by omega
        have H := Lib.hid (show Tl.isN l = false by rw [HN.out, decide_eq_false h1]; simp)
        clear hsz
        go_wp2
        go_ret
        exact ⟨by rw [H.out]; rfl, HB⟩

theorem flat_snoc (xs : List It) (k : Nat) (h : k < xs.length) : (xs.take (k + 1)).flatMap It.s = (xs.take k).flatMap It.s ++ xs[k].s := by
  rw [List.take_succ_eq_append_getElem h, List.flatMap_append]; simp

set_option maxHeartbeats 2000000 in
theorem headR_any (l : List UInt8) (n : Int) (w : World) (hl : l.length < 1099511627776) (hn : n ≤ 9223372036854775807) :
    Calls Try.prog 22 #[.string ⟨l.toArray⟩, .int .i64 n] w fun e w' => e = .returned (.string ⟨(Tl.headN l n).toArray⟩) ∧ Below w.heap.size w w' := by
  have hrl := Tl.runes_len l
  have HN := Lib.hid (show Tl.headN l n = ((Tl.runes l).take n.toNat).flatMap It.s from rfl)
  have HFL := Lib.hid (fun k => (show (((Tl.runes l).take k).flatMap It.s).length ≤ l.length by
    obtain ⟨j, hj⟩ := Tl.take_flat l k
    rw [hj, List.length_take]; omega))
  go_enter Try.func22, Try.ntmps22
  go_wp2_with fail
  refine (runes_any l _ hl).mono ?_
  rintro e w1 ⟨v, rfl, hr, hb⟩
  generalize Tl.runes l = xs at *
  obtain ⟨A, c, rfl, hc, hm, hcell⟩ := hr.open_
  clear hr
  go_wp2
  go_loop [6, 7] (fun o i => ∃ k : Nat, k ≤ xs.length ∧ i = .int .i64 k ∧ k ≤ n.toNat ∧ o = .string ⟨((xs.take k).flatMap It.s).toArray⟩) (fun _ i => xs.length - (intOf i).toNat)
  case atStart => exact ⟨0, Nat.zero_le _, rfl, Nat.zero_le _, rfl⟩
  case round =>
    obtain ⟨k, hk, rfl, hkn, rfl⟩ := hrel
    by_cases hlt : k < xs.length
    · by_cases hkn2 : (k : Int) < n
      · obtain ⟨b, off, rfl, hb', h1, h2, h3⟩ := hcell k hlt
        have HF := Lib.hid (flat_snoc xs k hlt)
        have hl1 := HFL.out (k + 1)
        rw [HF.out, List.length_append] at hl1
        have hz1 := ba_size ((xs.take k).flatMap It.s)
        have hz2 := ba_size xs[k].s
        have HAP := Lib.hid (ba_append ((xs.take k).flatMap It.s) xs[k].s)
        have hsm : (⟨((xs.take k).flatMap It.s).toArray⟩ : ByteArray).size + (⟨xs[k].s.toArray⟩ : ByteArray).size ≤ 1099511627776 := by rw [hz1, hz2]; omega
        generalize (⟨((xs.take k).flatMap It.s).toArray⟩ : ByteArray) = S1 at *
        generalize (⟨xs[k].s.toArray⟩ : ByteArray) = S2 at *
        clear hcell h1 h3 hl1 hz1 hz2
        go_wp2
        go_round
        case rel => exact ⟨k + 1, by omega, by go_num, by omega, by rw [HF.out, ← HAP.out]⟩
        case measure => simp [intOf]; omega
      · have HE := Lib.hid (show xs.take n.toNat = xs.take k by rw [show n.toNat = k by omega])
        clear hcell
        generalize hs1 : (⟨((xs.take k).flatMap It.s).toArray⟩ : ByteArray) = S1
        have HS1 := Lib.hid hs1
        clear hs1
        go_wp2
        go_ret
        exact ⟨by rw [HN.out, HE.out, HS1.out]; rfl, hb⟩
    · obtain rfl : k = xs.length := by omega
      have HE := Lib.hid (show xs.take n.toNat = xs.take xs.length by rw [List.take_length, List.take_of_length_le hkn])
      clear hcell
      generalize hs1 : (⟨((xs.take xs.length).flatMap It.s).toArray⟩ : ByteArray) = S1
      have HS1 := Lib.hid hs1
      clear hs1
      go_wp2
      go_ret
      exact ⟨by rw [HN.out, HE.out, HS1.out]; rfl, hb⟩

theorem fold_snoc (l : List UInt8) (k : Nat) (h : k < l.length) : Tl.fold (l.take (k + 1)) = Tl.fold (l.take k) ++ [Tl.foldc l[k]] := by
  unfold Tl.fold
  rw [List.take_succ_eq_append_getElem h, List.map_append]; rfl
theorem conv1 (w : World) (c : UInt8) (z : Int) (hz : z = (c.toNat : Int)) :
    (convert 43 9 (.slice (some ⟨w.heap.size, 0, none⟩) 1 1)).run Try.prog (w.alloc (.cells #[.int .u8 z] 5)) = .ok (.string ⟨[c].toArray⟩) (w.alloc (.cells #[.int .u8 z] 5)) := by
  subst hz
  exact run_string_of (Bs.lit w 5 #[.int .u8 (c.toNat : Int)] [c] 1 rfl rfl (by simp [maxLen])) 43 9 5 Try.underlying43 Try.underlying5 Try.underlying9

set_option maxHeartbeats 2000000 in
theorem foldR_any (l : List UInt8) (w : World) (hl : l.length < 1099511627776) :
    Calls Try.prog 17 #[.string ⟨l.toArray⟩] w fun e w' => e = .returned (.string ⟨(Tl.fold l).toArray⟩) ∧ Below w.heap.size w w' := by
  have hsz := ba_size l
  have hidx := fun k (h : k < l.length) => idx (l := l) k (k : Int) rfl h
  go_enter Try.func17, Try.ntmps17
  generalize hs : (⟨l.toArray⟩ : ByteArray) = s at *
  clear hs
  go_wp2
  go_loopw [3, 4] (fun t i wr => ∃ k : Nat, k ≤ l.length ∧ i = .int .i64 k ∧ t = .string ⟨(Tl.fold (l.take k)).toArray⟩ ∧ Below w.heap.size w wr) (fun _ i _ => l.length - (intOf i).toNat)
  case atStart => exact ⟨0, Nat.zero_le _, rfl, rfl, Below.refl _ _⟩
  case round =>
    obtain ⟨k, hk, rfl, rfl, hb⟩ := hrel
    by_cases hlt : k < l.length
    · have hix := hidx k hlt
      have HF := Lib.hid (fold_snoc l k hlt)
      rw [show l.getD k 0 = l[k] by simp [List.getD, hlt]] at hix
      have HAP := Lib.hid (ba_append (Tl.fold (l.take k)) [Tl.foldc l[k]])
      have hz1 : (⟨(Tl.fold (l.take k)).toArray⟩ : ByteArray).size ≤ l.length := by rw [ba_size, Tl.length_fold, List.length_take]; omega
      have hz2 := ba_size [Tl.foldc l[k]]
      have hcl := l[k].toNat_lt
      have hfc := Tl.foldc_nat l[k]
      have hcv := conv1 wr (Tl.foldc l[k])
      generalize Tl.foldc l[k] = fc at *
      generalize l[k].toNat = c at *
      generalize (⟨(Tl.fold (l.take k)).toArray⟩ : ByteArray) = S1 at *
      generalize hS2 : (⟨[fc].toArray⟩ : ByteArray) = S2 at *
      have HS2 := Lib.hid hS2
      simp only [List.length_cons, List.length_nil, Nat.zero_add] at hz2
      have hz2' : S2.size ≤ 1 := by omega
      clear hS2 hz2
      have hlt' : (k : Int) < s.size := by omega
      clear hidx
      by_cases h1 : 65 ≤ c ∧ c ≤ 90
      · rw [if_pos h1] at hfc
        have hcv := hcv ((c : Int) + 32) (by omega)
        have h1' : (65 : Int) ≤ c ∧ (c : Int) ≤ 90 := by omega
        clear hfc
        go_wp2
        go_roundw
        case rel => exact ⟨k + 1, by omega, by go_num, by rw [HF.out, ← HAP.out], hb.alloc hb.size _⟩
        case measure => simp [intOf]; omega
      · rw [if_neg h1] at hfc
        have hcv := hcv (c : Int) (by omega)
        clear hfc
        rcases (by omega : c < 65 ∨ (65 ≤ c ∧ 90 < c)) with h2 | h2
        all_goals
          go_wp2
          go_roundw
          case rel => exact ⟨k + 1, by omega, by go_num, by rw [HF.out, ← HAP.out], hb.alloc hb.size _⟩
          case measure => simp [intOf]; omega
    · obtain rfl : k = l.length := by omega
      rw [List.take_length]
      generalize hS1 : (⟨(Tl.fold l).toArray⟩ : ByteArray) = S1
      have HS1 := Lib.hid hS1
      have hlt' : ¬ (l.length : Int) < s.size := by omega
      clear hS1 hidx
      go_wp2
      go_ret
      exact ⟨by rw [HS1.out]; rfl, hb⟩

theorem cutF_drop (xs : List It) (k : Nat) (h : k < xs.length) (o : List UInt8) (n : Nat) : Tl.cutF (xs.drop k) o n = if Tl.sgn xs[k] then (if n = 16 ∨ 24 < o.length + xs[k].s.length then o else Tl.cutF (xs.drop (k + 1)) (o ++ xs[k].s) (n + 1)) else Tl.cutF (xs.drop (k + 1)) o n := by
  rw [List.drop_eq_getElem_cons h, Tl.cutF]

set_option maxHeartbeats 4000000 in
theorem cutR_any (l : List UInt8) (w : World) (hl : l.length < 1099511627776) :
    Calls Try.prog 31 #[.string ⟨l.toArray⟩] w fun e w' => e = .returned (.string ⟨(Tl.cut l).toArray⟩) ∧ Below w.heap.size w w' := by
  have hrl := Tl.runes_len l
  have HC := Lib.hid (show Tl.cut l = Tl.cutF (Tl.runes l) [] 0 from rfl)
  have HM := Lib.hid (fun x h => Tl.mem_len l x h)
  go_enter Try.func31, Try.ntmps31
  go_wp2_with fail
  refine (runes_any l _ hl).mono ?_
  rintro e w1 ⟨v, rfl, hr, hb⟩
  generalize Tl.runes l = xs at *
  obtain ⟨A, c, rfl, hc, hm, hcell⟩ := hr.open_
  clear hr
  go_wp2
  go_loopw [4, 5, 6] (fun o n i wr => ∃ (k m : Nat) (ot : List UInt8), k ≤ xs.length ∧ i = .int .i64 k ∧ n = .int .i64 m ∧ o = .string ⟨ot.toArray⟩ ∧ m ≤ 16 ∧ ot.length ≤ 24 ∧ Tl.cutF xs [] 0 = Tl.cutF (xs.drop k) ot m ∧ Below w1.heap.size w1 wr) (fun _ _ i _ => xs.length - (intOf i).toNat)
  case atStart => exact ⟨0, 0, [], Nat.zero_le _, rfl, rfl, rfl, by omega, by simp, rfl, Below.refl _ _⟩
  case round =>
    obtain ⟨k, m, ot, hk, rfl, rfl, rfl, hm16, hot, hcut, hbw⟩ := hrel
    have hso := ba_size ot
    by_cases hlt : k < xs.length
    · obtain ⟨b, off, rfl, hb', h1, h2, h3⟩ := hcell k hlt
      have h1' := (hbw.cell (p := ⟨b, off + k * 3, none⟩) hb').trans h1
      have h2' := (hbw.cell (p := ⟨b, off + k * 3 + 1, none⟩) hb').trans h2
      have h3' := (hbw.cell (p := ⟨b, off + k * 3 + 2, none⟩) hb').trans h3
      have hstep := cutF_drop xs k hlt ot m
      rw [← hcut] at hstep
      have HST := Lib.hid hstep
      have hxl := HM.out xs[k] (List.getElem_mem hlt)
      have hss := ba_size xs[k].s
      have HAP := Lib.hid (ba_append ot xs[k].s)
      have hsg := fun W => sign_any xs[k] W
      unfold itV at hsg
      generalize Tl.sgn xs[k] = g at *
      generalize xs[k].v = xv at *
      generalize xs[k].s = xl at *
      generalize xs[k].odd = xo at *
      generalize hXX : (⟨xl.toArray⟩ : ByteArray) = X at *
      generalize hOO : (⟨ot.toArray⟩ : ByteArray) = O at *
      have HX := Lib.hid hXX
      have HO := Lib.hid hOO
      clear hcell h1 h2 h3 hcut hstep hXX hOO
      have hX4 : X.size ≤ 4 := by omega
      have hO24 : O.size ≤ 24 := by omega
      go_wp2_with fail
      refine (hsg _).mono ?_
      rintro e w2 ⟨rfl, hb2⟩
      have hbb := hbw.trans (hb2.mono hbw.size)
      have h2'' := (hbb.cell (p := ⟨b, off + k * 3 + 1, none⟩) hb').trans ((hbw.cell (p := ⟨b, off + k * 3 + 1, none⟩) hb').symm.trans h2')
      clear hsg h1' h2' h3'
      cases g with
      | false =>
        clear hso hss
        go_wp2
        go_roundw
        case rel => exact ⟨k + 1, m, ot, by omega, by go_num, rfl, by rw [HO.out], hm16, hot, by have := HST.out; simpa using this, hbb⟩
        case measure => simp [intOf]; omega
      | true =>
        by_cases h16 : m = 16
        · subst h16
          have HR := Lib.hid (show Tl.cutF xs [] 0 = ot by have := HST.out; simpa using this)
          clear hso hss
          go_wp2
          go_ret
          exact ⟨by rw [HC.out, HR.out, HO.out]; rfl, hb.trans (hbb.mono hb.size)⟩
        · have h16' : ((m : Int) == 16) = false := by simp; omega
          by_cases h24 : 24 < ot.length + xl.length
          · have h24' : (24 : Int) < (O.size : Int) + X.size := by omega
            have HR := Lib.hid (show Tl.cutF xs [] 0 = ot by have := HST.out; simpa [h24] using this)
            clear hso hss h16
            go_wp2
            go_ret
            exact ⟨by rw [HC.out, HR.out, HO.out]; rfl, hb.trans (hbb.mono hb.size)⟩
          · have h24' : ¬ (24 : Int) < (O.size : Int) + X.size := by omega
            have HR := Lib.hid (show Tl.cutF xs [] 0 = Tl.cutF (xs.drop (k + 1)) (ot ++ xl) (m + 1) by have := HST.out; simpa [h24, h16] using this)
            have hlen : (ot ++ xl).length ≤ 24 := by rw [List.length_append]; omega
            have HL := Lib.hid hlen
            clear hso hss hlen
            go_wp2
            go_roundw
            case rel => exact ⟨k + 1, m + 1, ot ++ xl, by omega, by go_num, by go_num, by rw [← HAP.out], by omega, HL.out, HR.out, hbb⟩
            case measure => simp [intOf]; omega
    · obtain rfl : k = xs.length := by omega
      rw [List.drop_length] at hcut
      have HR := Lib.hid (show Tl.cutF xs [] 0 = ot from hcut)
      generalize hOO : (⟨ot.toArray⟩ : ByteArray) = O at *
      have HO := Lib.hid hOO
      clear hcell hcut hso hOO
      go_wp2
      go_ret
      exact ⟨by rw [HC.out, HR.out, HO.out]; rfl, hb.trans (hbw.mono hb.size)⟩

set_option maxHeartbeats 1000000 in
theorem fitR_any (l : List UInt8) (w : World) (hl : l.length < 1099511627776) :
    Calls Try.prog 19 #[.string ⟨l.toArray⟩] w fun e w' => e = .returned (.string ⟨(Tl.fit l).toArray⟩) ∧ Below w.heap.size w w' := by
  have hc := cut_len l
  go_enter Try.func19, Try.ntmps19
  go_wp2_with fail
  refine (cutR_any l w hl).mono ?_
  rintro e w1 ⟨rfl, hb1⟩
  have H := Lib.hid (show Tl.fit l = if Tl.isN (Tl.cut l) then Tl.cut l else Tl.cut (120 :: Tl.cut l) from rfl)
  generalize Tl.cut l = t at *
  go_wp2_with fail
  refine (isR_any t w1 (by omega)).mono ?_
  rintro e w2 ⟨rfl, hb2⟩
  have HB := hb1.trans (hb2.mono hb1.size)
  cases hn : Tl.isN t with
  | true =>
    have HN := Lib.hid hn
    clear hn
    go_wp2
    go_ret
    exact ⟨by rw [H.out, HN.out]; rfl, HB⟩
  | false =>
    have HN := Lib.hid hn
    clear hn
    go_wp2_with fail
    have e1 : (⟨#[120]⟩ : ByteArray) ++ ⟨t.toArray⟩ = ⟨(120 :: t).toArray⟩ := ba_append [120] t
    rw [e1]
    refine (cutR_any (120 :: t) w2 (by simp only [List.length_cons]; omega)).mono ?_
    rintro e w3 ⟨rfl, hb3⟩
    go_wp2
    go_ret
    exact ⟨by rw [H.out, HN.out]; rfl, HB.trans (hb3.mono HB.size)⟩
end Go.Proofs.Ytkgegjifnegknaa
