/-
  The walks of ckpt.all, May and Place. By an AI agent.
-/
import Derived.Test.YtkkbmhlmgbepjaaDoorCkB
import Derived.Shelf.Abstract
namespace Go.Proofs.YtkkbmhlmgbepjaaDoor
open Go.RowKit Go.ChangeShapes Go.WideShapes Go.ChangeAt

/-- A checkpoint in memory. -/
def ucells (us : List Int) : List Value := us.map fun u => .int .i64 u
def ccells (x : Ck.Ck) : List Value := .int .i64 x.s :: .int .i64 x.n :: .int .i64 x.a :: (pcells x.mp ++ ucells x.us)
def cagg (x : Ck.Ck) : Value := .agg (ccells x).toArray
theorem ucells_len (us : List Int) : (ucells us).length = us.length := by unfold ucells; simp
theorem ccells_len (x : Ck.Ck) (h : x.mp.length = 4) (h' : x.us.length = 8) : (ccells x).length = 19 := by unfold ccells; simp only [List.length_cons, List.length_append, pcells_len, ucells_len, h, h']
theorem ccells_one {x : Ck.Ck} : ∀ v ∈ ccells x, v.oneCell' = true := by
  intro v hv
  unfold ccells at hv
  simp only [List.mem_cons, List.mem_append] at hv
  rcases hv with rfl | rfl | rfl | hv | hv
  · rfl
  · rfl
  · rfl
  · exact all_oneP _ v hv
  · unfold ucells at hv
    obtain ⟨u, _, rfl⟩ := List.mem_map.1 hv
    rfl
theorem infoC (x : Ck.Ck) (h : x.mp.length = 4) (h' : x.us.length = 8) : (Tryd.prog.info? 28).map (·.size) = some (ccells x).length := by
  rw [ccells_len x h h']; kernel_rfl
theorem ccells_map (x : Ck.Ck) (k : Nat) (h : k < x.mp.length) : (ccells x)[3 + k * 2]? = some (.int .i64 x.mp[k].1) ∧ (ccells x)[3 + k * 2 + 1]? = some (.int .u32 (x.mp[k].2 : Int)) := by
  unfold ccells
  have hl := pcells_len x.mp
  have hp := pcells_at x.mp k h
  rw [show 3 + k * 2 = k * 2 + 1 + 1 + 1 by omega]
  simp only [List.getElem?_cons_succ]
  rw [List.getElem?_append_left (by omega), List.getElem?_append_left (by omega)]
  exact hp
theorem ccells_used (x : Ck.Ck) (hm : x.mp.length = 4) (k : Nat) (h : k < x.us.length) : (ccells x)[11 + k]? = some (.int .i64 x.us[k]) := by
  unfold ccells
  have hl := pcells_len x.mp
  rw [show 11 + k = k + 8 + 1 + 1 + 1 by omega]
  simp only [List.getElem?_cons_succ]
  rw [List.getElem?_append_right (by omega), show k + 8 - (pcells x.mp).length = k by omega]
  unfold ucells
  rw [List.getElem?_map, List.getElem?_eq_getElem h]; rfl

theorem range_all {α : Type} (f : α → Bool) (d : α) : ∀ l : List α, (List.range l.length).all (fun i => f (l.getD i d)) = l.all f := by
  intro l
  rw [Bool.eq_iff_iff, List.all_eq_true, List.all_eq_true]
  constructor
  · intro h x hx
    obtain ⟨i, hi, rfl⟩ := List.getElem_of_mem hx
    have := h i (List.mem_range.2 hi)
    simpa [List.getD, hi] using this
  · intro h i hi
    have hi' := List.mem_range.1 hi
    have := h l[i] (List.getElem_mem hi')
    simpa [List.getD, hi'] using this
theorem range_take (p : Nat → Bool) (k : Nat) (h : (List.range k).all p = true) (h2 : p k = true) : (List.range (k + 1)).all p = true := by
  rw [List.range_succ, List.all_append, h]
  simp [h2]
theorem range_no (p : Nat → Bool) (k n : Nat) (h : k < n) (h2 : p k = false) : (List.range n).all p = false := by
  cases hq : (List.range n).all p with
  | false => rfl
  | true =>
    have := List.all_eq_true.1 hq k (List.mem_range.2 h)
    rw [h2] at this; cases this

set_option maxHeartbeats 1000000 in
theorem all1_any (K : Nat) (c0 : Value) (n : Nat) (p : Nat → Bool) (w : World) (hK : ∀ args w, (callFunc K args).run Tryd.prog w = .ok (.enter K args) w) (hn : n ≤ 100)
    (h : ∀ i : Nat, i < n → ∀ w1 : World, Below w.heap.size w w1 → Calls Tryd.prog K #[.int .i64 (i : Int), c0] w1 fun e w' => e = .returned (.bool (p i)) ∧ Below w1.heap.size w1 w') :
    Calls Tryd.prog 25 #[.int .i64 (n : Int), .func (.func K) #[] #[c0]] w fun e w' => e = .returned (.bool ((List.range n).all p)) ∧ Below w.heap.size w w' := by
  have HC := Lib.hid h
  clear h
  go_enter Tryd.func25, Tryd.ntmps25
  go_wp2
  go_loopw [7] (fun i wr => ∃ k : Nat, k ≤ n ∧ i = .int .i64 k ∧ (List.range k).all p = true ∧ Below w.heap.size w wr) (fun i _ => n - (intOf i).toNat)
  case atStart => exact ⟨0, Nat.zero_le _, rfl, rfl, Below.refl _ _⟩
  case round =>
    obtain ⟨k, hk, rfl, hall, hbw⟩ := hrel
    have HA := Lib.hid hall
    clear hall
    by_cases hlt : k < n
    · go_wp2_with fail
      refine (HC.out k hlt _ hbw).mono ?_
      rintro e w1 ⟨rfl, b1⟩
      have c1 := hbw.trans (b1.mono hbw.size)
      cases hp : p k with
      | true =>
        have H := Lib.hid (range_take p k HA.out hp)
        clear hp
        go_wp2
        go_roundw
        case rel => exact ⟨k + 1, by omega, by go_num, H.out, c1⟩
        case measure => simp [intOf]; omega
      | false =>
        have H := Lib.hid (range_no p k n hlt hp)
        clear hp
        go_wp2
        go_ret
        exact ⟨by rw [H.out]; rfl, c1⟩
    · obtain rfl : k = n := by omega
      go_wp2
      go_ret
      exact ⟨by rw [HA.out]; rfl, hbw⟩

set_option maxHeartbeats 1000000 in
theorem all2_any (K : Nat) (c0 c1 : Value) (n : Nat) (p : Nat → Bool) (w : World) (hK : ∀ args w, (callFunc K args).run Tryd.prog w = .ok (.enter K args) w) (hn : n ≤ 100)
    (h : ∀ i : Nat, i < n → ∀ w1 : World, Below w.heap.size w w1 → Calls Tryd.prog K #[.int .i64 (i : Int), c0, c1] w1 fun e w' => e = .returned (.bool (p i)) ∧ Below w1.heap.size w1 w') :
    Calls Tryd.prog 25 #[.int .i64 (n : Int), .func (.func K) #[] #[c0, c1]] w fun e w' => e = .returned (.bool ((List.range n).all p)) ∧ Below w.heap.size w w' := by
  have HC := Lib.hid h
  clear h
  go_enter Tryd.func25, Tryd.ntmps25
  go_wp2
  go_loopw [7] (fun i wr => ∃ k : Nat, k ≤ n ∧ i = .int .i64 k ∧ (List.range k).all p = true ∧ Below w.heap.size w wr) (fun i _ => n - (intOf i).toNat)
  case atStart => exact ⟨0, Nat.zero_le _, rfl, rfl, Below.refl _ _⟩
  case round =>
    obtain ⟨k, hk, rfl, hall, hbw⟩ := hrel
    have HA := Lib.hid hall
    clear hall
    by_cases hlt : k < n
    · go_wp2_with fail
      refine (HC.out k hlt _ hbw).mono ?_
      rintro e w1 ⟨rfl, b1⟩
      have c1 := hbw.trans (b1.mono hbw.size)
      cases hp : p k with
      | true =>
        have H := Lib.hid (range_take p k HA.out hp)
        clear hp
        go_wp2
        go_roundw
        case rel => exact ⟨k + 1, by omega, by go_num, H.out, c1⟩
        case measure => simp [intOf]; omega
      | false =>
        have H := Lib.hid (range_no p k n hlt hp)
        clear hp
        go_wp2
        go_ret
        exact ⟨by rw [H.out]; rfl, c1⟩
    · obtain rfl : k = n := by omega
      go_wp2
      go_ret
      exact ⟨by rw [HA.out]; rfl, hbw⟩

def nbB (v m : Int) : Bool := decide (1 ≤ v ∧ v ≤ m)
def ptv (v : Int) : Bool := decide (1 ≤ v ∧ v ≤ 2147483647)
set_option maxHeartbeats 1000000 in
theorem number_any (k g1 g2 : Nat) (v m : Int) (w : World) (hk : k < 3) (h1 : w.cell? ⟨g1, k, none⟩ = some (.int .i64 v)) (h2 : w.cell? ⟨g2, k, none⟩ = some (.int .i64 m)) :
    Calls Tryd.prog 22 #[.int .i64 (k : Int), .pointer (some ⟨g1, 0, none⟩), .pointer (some ⟨g2, 0, none⟩)] w fun e w' => e = .returned (.bool (nbB v m)) ∧ Below w.heap.size w w' := by
  have i1 : (k : Int) < 3 := by omega
  by_cases hv : 1 ≤ v
  · have H := Lib.hid (show nbB v m = decide (v ≤ m) by unfold nbB; simp [hv])
    go_enter Tryd.func22, Tryd.ntmps22
    go_wp2
    go_quiet (fail)
    go_wp2
    go_ret
    exact ⟨by rw [H.out]; rfl, below_drewN (Below.refl _ _) _⟩
  · have H := Lib.hid (show nbB v m = false by unfold nbB; simp [hv])
    have hd : decide (1 ≤ v) = false := by simpa using hv
    go_enter Tryd.func22, Tryd.ntmps22
    go_wp2
    go_quiet (fail)
    go_wp2
    go_ret
    exact ⟨by rw [H.out]; rfl, below_drewN (Below.refl _ _) _⟩
set_option maxHeartbeats 1000000 in
theorem pointerK_any (k g : Nat) (v : Int) (w : World) (hk : k < 4) (h1 : w.cell? ⟨g, 3 + k * 2, none⟩ = some (.int .i64 v)) :
    Calls Tryd.prog 23 #[.int .i64 (k : Int), .pointer (some ⟨g, 0, none⟩)] w fun e w' => e = .returned (.bool (ptv v)) ∧ Below w.heap.size w w' := by
  have i1 : (k : Int) < 4 := by omega
  by_cases hv : 1 ≤ v
  · have H := Lib.hid (show ptv v = decide (v ≤ 2147483647) by unfold ptv; simp [hv])
    go_enter Tryd.func23, Tryd.ntmps23
    go_wp2
    go_ret
    exact ⟨by rw [H.out]; rfl, Below.refl _ _⟩
  · have H := Lib.hid (show ptv v = false by unfold ptv; simp [hv])
    have hd : decide (1 ≤ v) = false := by simpa using hv
    go_enter Tryd.func23, Tryd.ntmps23
    go_wp2
    go_ret
    exact ⟨by rw [H.out]; rfl, Below.refl _ _⟩
set_option maxHeartbeats 1000000 in
theorem usedK_any (k g : Nat) (v : Int) (w : World) (hk : k < 8) (h1 : w.cell? ⟨g, 11 + k, none⟩ = some (.int .i64 v)) :
    Calls Tryd.prog 24 #[.int .i64 (k : Int), .pointer (some ⟨g, 0, none⟩)] w fun e w' => e = .returned (.bool (Ck.usB v)) ∧ Below w.heap.size w w' := by
  have i1 : (k : Int) < 8 := by omega
  by_cases hv : 0 ≤ v
  · have H := Lib.hid (show Ck.usB v = decide (v ≤ 256) by unfold Ck.usB; simp [hv])
    go_enter Tryd.func24, Tryd.ntmps24
    go_wp2
    go_ret
    exact ⟨by rw [H.out]; rfl, Below.refl _ _⟩
  · have H := Lib.hid (show Ck.usB v = false by unfold Ck.usB; simp [hv])
    have hd : decide (0 ≤ v) = false := by simpa using hv
    go_enter Tryd.func24, Tryd.ntmps24
    go_wp2
    go_ret
    exact ⟨by rw [H.out]; rfl, Below.refl _ _⟩

def hdP (x : Ck.Ck) (i : Nat) : Bool := nbB ([x.s, x.n, x.a].getD i 0) (([281474976710655, 281474976710655, 2147483647] : List Int).getD i 0)
theorem hdP_all (x : Ck.Ck) : (List.range 3).all (hdP x) = Ck.hdB x.s x.n x.a := by
  unfold Ck.hdB
  rw [Bool.eq_iff_iff, decide_eq_true_iff]
  simp [hdP, nbB, List.range, List.range.loop]
  omega
set_option maxHeartbeats 2000000 in
theorem mayC_any (x : Ck.Ck) (w : World) (hm : x.mp.length = 4) (hu : x.us.length = 8) :
    Calls Tryd.prog 10 #[cagg x] w fun e w' => e = .returned (.bool (Ck.mayB x)) ∧ Below w.heap.size w w' := by
  have HM := Lib.hid (show Ck.mayB x = ((List.range 3).all (hdP x) && ((List.range 4).all (fun i => Ck.ptB (x.mp.getD i (0, 0))) && (List.range 8).all (fun i => Ck.usB (x.us.getD i 0)))) by
    rw [hdP_all, show (List.range 4).all (fun i => Ck.ptB (x.mp.getD i (0, 0))) = x.mp.all Ck.ptB by rw [← hm]; exact range_all Ck.ptB (0, 0) x.mp, show (List.range 8).all (fun i => Ck.usB (x.us.getD i 0)) = x.us.all Ck.usB by rw [← hu]; exact range_all Ck.usB 0 x.us]
    rfl)
  have HU := Lib.hid (And.intro hm hu)
  clear hm hu
  unfold cagg
  go_enter Tryd.func10, Tryd.ntmps10
  go_upto_region 1 with (fail)
  have hk := Blk.new w 28 (ccells x).toArray
  have hb := (Below.refl w.heap.size w).alloc (Nat.le_refl _) (.cells (ccells x).toArray 28)
  change Blk _ _ _ (ccells x) at hk
  generalize w.alloc (.cells (ccells x).toArray 28) = w0 at *
  generalize w.heap.size = gq at hk ⊢
  have c0 := hk.cell 0
  have c1 := hk.cell 1
  have c2 := hk.cell 2
  unfold ccells at c0 c1 c2
  simp only [List.getElem?_cons_zero, List.getElem?_cons_succ] at c0 c1 c2
  have HK := Lib.hid hk
  clear hk
  go_wp2_with fail
  have k1 := (Blk.new w0 54 #[.int .i64 x.s, .int .i64 x.n, .int .i64 x.a]).alloc (.cells #[.int .i64 281474976710655, .int .i64 281474976710655, .int .i64 2147483647] 54)
  have k2 := Blk.new (w0.alloc (.cells #[.int .i64 x.s, .int .i64 x.n, .int .i64 x.a] 54)) 54 #[.int .i64 281474976710655, .int .i64 281474976710655, .int .i64 2147483647]
  simp only [World.size_alloc] at k2
  have k0 := (HK.out.alloc (.cells #[.int .i64 x.s, .int .i64 x.n, .int .i64 x.a] 54)).alloc (.cells #[.int .i64 281474976710655, .int .i64 281474976710655, .int .i64 2147483647] 54)
  have b0 := (hb.alloc hb.size (.cells #[.int .i64 x.s, .int .i64 x.n, .int .i64 x.a] 54)).alloc (by rw [World.size_alloc]; exact Nat.le_succ_of_le hb.size) (.cells #[.int .i64 281474976710655, .int .i64 281474976710655, .int .i64 2147483647] 54)
  generalize (w0.alloc (.cells #[.int .i64 x.s, .int .i64 x.n, .int .i64 x.a] 54)).alloc (.cells #[.int .i64 281474976710655, .int .i64 281474976710655, .int .i64 2147483647] 54) = W at *
  clear c0 c1 c2 hb HK
  have H1 := Lib.hid (fun (w1 : World) (b : Below W.heap.size W w1) => all2_any 22 (.pointer (some ⟨w0.heap.size, 0, none⟩)) (.pointer (some ⟨w0.heap.size + 1, 0, none⟩)) 3 (hdP x) w1 (enters_of Tryd.func22 (by kernel_rfl) rfl) (by omega) (fun i hi w2 b2 => by
    have q1 := ((k1.ext b).ext b2).cell i
    have q2 := ((k2.ext b).ext b2).cell i
    rcases (by omega : i = 0 ∨ i = 1 ∨ i = 2) with rfl | rfl | rfl <;> exact number_any _ _ _ _ _ w2 (by omega) q1 q2))
  have H2 := Lib.hid (fun (w1 : World) (b : Below W.heap.size W w1) => all1_any 23 (.pointer (some ⟨gq, 0, none⟩)) 4 (fun i => Ck.ptB (x.mp.getD i (0, 0))) w1 (enters_of Tryd.func23 (by kernel_rfl) rfl) (by omega) (fun i hi w2 b2 => by
    have hi' : i < x.mp.length := by rw [HU.out.1]; exact hi
    have q1 := ((k0.ext b).ext b2).cell (3 + i * 2)
    rw [(ccells_map x i hi').1] at q1
    have := pointerK_any i gq _ w2 hi q1
    have e : Ck.ptB (x.mp.getD i (0, 0)) = ptv x.mp[i].1 := by rw [List.getD_eq_getElem?_getD, List.getElem?_eq_getElem hi']; rfl
    simp only [e]
    exact this))
  have H3 := Lib.hid (fun (w1 : World) (b : Below W.heap.size W w1) => all1_any 24 (.pointer (some ⟨gq, 0, none⟩)) 8 (fun i => Ck.usB (x.us.getD i 0)) w1 (enters_of Tryd.func24 (by kernel_rfl) rfl) (by omega) (fun i hi w2 b2 => by
    have hi' : i < x.us.length := by rw [HU.out.2]; exact hi
    have q1 := ((k0.ext b).ext b2).cell (11 + i)
    rw [ccells_used x HU.out.1 i hi'] at q1
    have := usedK_any i gq _ w2 hi q1
    have e : x.us.getD i 0 = x.us[i] := by rw [List.getD_eq_getElem?_getD, List.getElem?_eq_getElem hi']; rfl
    simp only [e]
    exact this))
  clear k0 k1 k2
  generalize (List.range 3).all (hdP x) = B1 at *
  generalize (List.range 4).all (fun i => Ck.ptB (x.mp.getD i (0, 0))) = B2 at *
  generalize (List.range 8).all (fun i => Ck.usB (x.us.getD i 0)) = B3 at *
  refine (H1.out W (Below.refl _ _)).mono ?_
  rintro e w1 ⟨rfl, b1⟩
  cases B1 with
  | false =>
    go_wp2
    go_ret
    exact ⟨by rw [HM.out]; rfl, b0.trans (b1.mono b0.size)⟩
  | true =>
    go_wp2_with fail
    refine (H2.out w1 b1).mono ?_
    rintro e w2 ⟨rfl, b2⟩
    have d2 := b1.trans (b2.mono b1.size)
    cases B2 with
    | false =>
      go_wp2
      go_ret
      exact ⟨by rw [HM.out]; rfl, b0.trans (d2.mono b0.size)⟩
    | true =>
      go_wp2_with fail
      refine (H3.out w2 d2).mono ?_
      rintro e w3 ⟨rfl, b3⟩
      have d3 := d2.trans (b3.mono d2.size)
      go_wp2
      go_ret
      exact ⟨by rw [HM.out]; rfl, b0.trans (d3.mono b0.size)⟩
/-- The place. -/
def plc (x : Ck.Ck) : Int := if Ck.mayB x then x.s % 2 else -1
set_option maxHeartbeats 1000000 in
theorem place_any (x : Ck.Ck) (w : World) (hm : x.mp.length = 4) (hu : x.us.length = 8) :
    Calls Tryd.prog 13 #[cagg x] w fun e w' => e = .returned (.int .i64 (plc x)) ∧ Below w.heap.size w w' := by
  unfold cagg
  go_enter Tryd.func13, Tryd.ntmps13
  go_upto_region 1 with (fail)
  have hk := Blk.new w 28 (ccells x).toArray
  have hb := (Below.refl w.heap.size w).alloc (Nat.le_refl _) (.cells (ccells x).toArray 28)
  change Blk _ _ _ (ccells x) at hk
  generalize w.alloc (.cells (ccells x).toArray 28) = w0 at *
  generalize w.heap.size = gq at hk ⊢
  have hrg := hk.range
  go_wp2_with (refine wpList_load_at 28 (.tmp 1) rfl rfl gq 0 rfl (ccells x) _ hrg Tryd.underlying28 rfl (infoC x hm hu) ?_)
  refine (mayC_any x _ hm hu).mono ?_
  rintro e w1 ⟨rfl, b1⟩
  have k1 := hk.ext b1
  have c1 := hb.trans (b1.mono hb.size)
  cases hmy : Ck.mayB x with
  | false =>
    have HP := Lib.hid (show plc x = -1 by unfold plc; rw [hmy]; rfl)
    clear hmy hrg
    go_wp2
    go_ret
    exact ⟨by rw [HP.out]; rfl, c1⟩
  | true =>
    have HP := Lib.hid (show plc x = x.s % 2 by unfold plc; rw [hmy]; rfl)
    have hb := (Ck.may_parts hmy).1
    have x0 := k1.cell 0
    unfold ccells at x0
    simp only [List.getElem?_cons_zero] at x0
    have q1 : 0 ≤ x.s := by omega
    have q2 : x.s ≤ 281474976710655 := by omega
    clear hmy hrg hb
    go_wp2
    go_ret
    exact ⟨by rw [HP.out]; rfl, c1⟩
end Go.Proofs.YtkkbmhlmgbepjaaDoor
