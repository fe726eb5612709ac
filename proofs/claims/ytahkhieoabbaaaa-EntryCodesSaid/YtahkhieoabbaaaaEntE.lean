/-
  Encode of package entry. By an AI agent.
-/
import Derived.Test.YtahkhieoabbaaaaEntA
import Derived.Test.YtahkhieoabbaaaaPackW
import Derived.Lib.AppendStr
namespace Go.Proofs.Ytahkhieoabbaaaa
open Go.RowKit Go.ChangeShapes Go.WideShapes Go.ChangeAt Go.Lib
open Et (E)

def ncells (l : List (Int × Nat)) : List Value := l.flatMap fun x => [.int .i64 x.1, .int .u64 (x.2 : Int)]
theorem Nums.of_own {w : World} {base e : Nat} {v : Value} {l : List (Int × Nat)} (h : w.ownsRow base e 2 v l.length (ncells l)) : Nums w w.heap.size v l := Rds.of_own h
def u8s (l : List UInt8) : List Value := l.map fun c => .int .u8 (c.toNat : Int)
theorem u8s_app (l m : List UInt8) : u8s (l ++ m) = u8s l ++ u8s m := List.map_append ..
set_option maxHeartbeats 400000 in
theorem num_any (v : Nat) (w : World) (hv : v < 9223372036854775808) :
    Calls Try.prog 26 #[.int .i64 (v : Int)] w fun e w' => e = .returned (.agg #[.int .i64 1, .int .u64 (v : Int)]) ∧ Below w.heap.size w w' := by
  go_enter Try.func26, Try.ntmps26
  go_wp2
  refine bodyPost_ret (v := .agg #[.int .i64 1, .int .u64 (v : Int)]) (by simp [results, Try.results26, go_sem]) rfl ⟨rfl, ?_⟩
  exact (Below.refl _ _).alloc (Nat.le_refl _) _
theorem wpL_append_str {ops : Array Oper} {rest : List Oper} {o : Oper} {a : Act} {Q : Exit → Act → World → Prop} {w : World} (hgd : o.guard = none) (sl x : Operand)
    (ho : o.op = .call { callee := .builtin .append, args := #[sl, x], argTypes := #[29, 9] })
    {base n : Nat} {v : Value} {xs : List Value} (hs : a.eval sl = v) (hown : w.ownsRow base 5 1 v n xs) (l : List UInt8) (hx : a.eval x = .string ⟨l.toArray⟩)
    (hbytes : n + l.length ≤ 1000000) (hbase : base ≤ w.heap.size)
    (h : ∀ v' w', w'.ownsRow base 5 1 v' (n + l.length) (xs ++ u8s l) → w.grownBy w' v.ownBlock → wpList Try.prog ops Q rest (a.put o.dst v') w') : Hid (wpList Try.prog ops Q (o :: rest) a w) := by
  obtain ⟨i, hi, hz, hsz, hby⟩ := info_parts infoU8
  show wpList Try.prog ops Q (o :: rest) a w
  exact wpList_append_own_string w hgd sl x _ _ ho base 5 i Try.underlying29 Try.underlying9 hi hz hsz hby v n xs hs hown ⟨l.toArray⟩ hx (by rw [maxLen_eq]; show n + l.length ≤ _; omega) (by show n + l.length ≤ _; omega) hbase (fun v' w' h1 h2 _ => h v' w' h1 h2)

def eN (y : E) : List (Int × Nat) := [(1, y.i.toNat), (1, y.t.toNat), (1, y.n.length)]
theorem eN_perr {y : E} (h : Et.okB y = true) : Pk.perr (eN y) = 0 ∧ Pk.packed (eN y) = [UInt8.ofNat y.i.toNat, UInt8.ofNat y.t.toNat, UInt8.ofNat y.n.length] := by
  obtain ⟨⟨h1, h2⟩, h3, h4, h5⟩ := Et.ok_parts h
  have hp : Pk.perr (eN y) = 0 := Pk.perr_of fun x hx => by
    unfold eN at hx
    have hw : Pk.isW 1 = true := by decide
    simp only [List.mem_cons, List.not_mem_nil, or_false] at hx
    rcases hx with rfl | rfl | rfl
    · show (if Pk.isW 1 then (if y.i.toNat < 256 ^ (1 : Int).toNat then 0 else 19) else 1) = 0
      rw [hw, if_pos rfl, if_pos (by show y.i.toNat < 256; omega)]
    · show (if Pk.isW 1 then (if y.t.toNat < 256 ^ (1 : Int).toNat then 0 else 19) else 1) = 0
      rw [hw, if_pos rfl, if_pos (by show y.t.toNat < 256; omega)]
    · show (if Pk.isW 1 then (if y.n.length < 256 ^ (1 : Int).toNat then 0 else 19) else 1) = 0
      rw [hw, if_pos rfl, if_pos (by show y.n.length < 256; omega)]
  refine ⟨hp, ?_⟩
  unfold Pk.packed
  rw [if_pos hp]
  unfold Pk.recs eN Pk.rec1
  simp only [List.flatMap_cons, List.flatMap_nil, List.append_nil]
  show [UInt8.ofNat (y.i.toNat / 256 ^ 0), UInt8.ofNat (y.t.toNat / 256 ^ 0), UInt8.ofNat (y.n.length / 256 ^ 0)] = _
  simp
theorem Et.enc_take_succ (l : List E) (k : Nat) (hk : k < l.length) : Et.enc (l.take (k + 1)) = Et.enc (l.take k) ++ Et.encE (Et.at_ l k) := by
  rw [List.take_succ_eq_append_getElem hk, Et.enc_snoc, Et.at_get l k hk]

def MadeB (s : List UInt8) (w : World) (e : Ending) (w' : World) : Prop := ∃ u, e = .returned (.tuple #[u, .int .i64 0]) ∧ Bs w' w'.heap.size u s ∧ Below w.heap.size w w'
set_option maxRecDepth 100000 in
set_option maxHeartbeats 4000000 in
theorem enc_no (v : Value) (l : List E) (w : World) (hl : Ents w w.heap.size v l) (hs : Short l) (hm : Et.mayB l = false) :
    Calls Try.prog 9 #[v] w fun e w' => e = .returned (.tuple #[.slice none 0 0, .int .i64 1]) ∧ Below w.heap.size w w' := by
  obtain ⟨A, c, rfl, hlc, hcm, _⟩ := hl.open_
  go_enter Try.func9, Try.ntmps9
  go_wp2_with fail
  refine (may_any _ l w hl hs).mono ?_
  rintro e w1 ⟨rfl, b1⟩
  rw [hm]
  go_wp2
  go_ret2
  exact ⟨rfl, b1⟩
set_option maxRecDepth 100000 in
set_option maxHeartbeats 4000000 in
theorem enc_any (v : Value) (l : List E) (w : World) (hl : Ents w w.heap.size v l) (hs : Short l) (hm : Et.mayB l = true) :
    Calls Try.prog 9 #[v] w (MadeB (Et.enc l) w) := by
  obtain ⟨A, c, rfl, hlc, hcm, hE⟩ := hl.open_
  have HL := Lib.hid hl
  have HE := Lib.hid hE
  have hmi := (Et.may_iff l).1 hm
  have h30 := hmi.1
  have HOK := Lib.hid (fun k (hk : k < l.length) => show Et.okB (Et.at_ l k) = true by rw [Et.at_get l k hk]; exact hmi.2.1 _ (List.getElem_mem hk))
  have HSH := Lib.hid (show ∀ k, k ≤ l.length → (Et.enc (l.take k)).length ≤ 27 * k from fun k => by
    induction k with
    | zero => intro _; exact Nat.zero_le _
    | succ k ih =>
      intro hk
      have := ih (by omega)
      rw [Et.enc_take_succ l k (by omega), List.length_append]
      have h2 := (Et.ok_parts (HOK.out k (by omega))).1.2
      show _ + ((Et.at_ l k).n.length + 1 + 1 + 1) ≤ _
      omega)
  have HS := Lib.hid hs
  clear hmi hE
  go_enter Try.func9, Try.ntmps9
  go_wp2_with fail
  refine (may_any _ l w hl hs).mono ?_
  rintro e w1 ⟨rfl, b1⟩
  rw [hm]
  clear hl hs hm
  go_wp2
  go_loopw [4, 14] (fun y i wr => ∃ k : Nat, k ≤ l.length ∧ i = .int .i64 k ∧ wr.ownsRow w.heap.size 5 1 y (Et.enc (l.take k)).length (u8s (Et.enc (l.take k))) ∧ Below w.heap.size w wr) (fun _ i _ => l.length - (intOf i).toNat)
  case atStart => exact ⟨0, Nat.zero_le _, rfl, World.ownsRow_nil _ _ _ _, b1⟩
  case round =>
    obtain ⟨k, hk, rfl, hown, hbr⟩ := hrel
    clear b1
    by_cases hlt : k < l.length
    · obtain ⟨b, off, rfl, hbB, h0, h1, h2⟩ := (HE.out.below hbr) k hlt
      have hok := HOK.out k hlt
      have hen := Et.enc_take_succ l k hlt
      have hsh := HSH.out k hk
      generalize Et.at_ l k = y at *
      have hep := eN_perr hok
      obtain ⟨⟨hn1, hn2⟩, hi1, hi2, ht⟩ := Et.ok_parts hok
      obtain ⟨yn, yi, yt⟩ := y
      dsimp only at h0 h1 h2 hn1 hn2 hi1 hi2 ht
      obtain ⟨yi, rfl⟩ := Int.eq_ofNat_of_zero_le (by omega : 0 ≤ yi)
      obtain ⟨yt, rfl⟩ := Int.eq_ofNat_of_zero_le (by omega : 0 ≤ yt)
      have HEP := Lib.hid hep
      have HEN := Lib.hid hen
      clear hep hen hok
      go_upto_region 7 with fail
      have k4 := Blk.new wr 28 #[.string ⟨yn.toArray⟩, .int .i64 (yi : Int), .int .i64 (yt : Int)]
      have b4 := hbr.alloc hbr.size (.cells #[.string ⟨yn.toArray⟩, .int .i64 (yi : Int), .int .i64 (yt : Int)] 28)
      replace hown := hown.alloc (.cells #[.string ⟨yn.toArray⟩, .int .i64 (yi : Int), .int .i64 (yt : Int)] 28)
      obtain ⟨w4, hw4⟩ : ∃ w4, wr.alloc (.cells #[.string ⟨yn.toArray⟩, .int .i64 (yi : Int), .int .i64 (yt : Int)] 28) = w4 := ⟨_, rfl⟩
      rw [hw4] at k4 b4 hown ⊢
      clear hw4 h0 h1 h2
      obtain ⟨g4, hg4⟩ : ∃ g4, wr.heap.size = g4 := ⟨_, rfl⟩
      rw [hg4] at k4 ⊢
      clear hg4
      have hG0 : Below w4.heap.size w4 w4.drew := (Below.refl _ _).drew
      obtain ⟨L3, hL3⟩ : ∃ L3, [UInt8.ofNat ((yi : Int)).toNat, UInt8.ofNat ((yt : Int)).toNat, UInt8.ofNat yn.length] = L3 := ⟨_, rfl⟩
      have HPP : Hid (Pk.perr (eN ⟨yn, (yi : Int), (yt : Int)⟩) = 0 ∧ Pk.packed (eN ⟨yn, (yi : Int), (yt : Int)⟩) = L3) := Lib.hid ⟨HEP.out.1, by rw [← hL3]; exact HEP.out.2⟩
      have HL3 : Hid (L3.length = 3) := Lib.hid (by rw [← hL3]; rfl)
      have HLT : Hid (∀ x ∈ eN ⟨yn, (yi : Int), (yt : Int)⟩, x.2 < 18446744073709551616) := Lib.hid (by
        intro x hx
        unfold eN at hx
        simp only [List.mem_cons, List.not_mem_nil, or_false] at hx
        rcases hx with rfl | rfl | rfl
        · show ((yi : Int)).toNat < _; omega
        · show ((yt : Int)).toNat < _; omega
        · show yn.length < _; omega)
      have HEE : Hid (Et.encE ⟨yn, (yi : Int), (yt : Int)⟩ = L3 ++ yn) := Lib.hid (by rw [← hL3]; rfl)
      clear hL3 HEP
      refine wp_region_list 17 [(fun y_ _ => y_ = .pointer (some ⟨g4, 1, none⟩)),
        (fun y_ _ => y_ = .int .i64 ((yi : Nat) : Int)),
        (fun y_ _ => y_ = .agg #[.int .i64 1, .int .u64 ((yi : Nat) : Int)]),
        (fun y_ _ => y_ = .pointer (some ⟨g4, 2, none⟩)),
        (fun y_ _ => y_ = .int .i64 ((yt : Nat) : Int)),
        (fun y_ _ => y_ = .agg #[.int .i64 1, .int .u64 ((yt : Nat) : Int)]),
        (fun y_ _ => y_ = .pointer (some ⟨g4, 0, none⟩)),
        (fun y_ _ => y_ = .string ⟨yn.toArray⟩),
        (fun y_ _ => y_ = .int .i64 ((yn.length : Nat) : Int)),
        (fun y_ _ => y_ = .agg #[.int .i64 1, .int .u64 ((yn.length : Nat) : Int)]),
        (fun u q => ∃ g, u = .slice (some ⟨g, 0, none⟩) 3 3 ∧ Blk q g 57 (ncells (eN ⟨yn, (yi : Int), (yt : Int)⟩)) ∧ w4.heap.size ≤ g),
        (fun u q => ∃ A c B, u = .tuple #[.slice A 3 c, .int .i64 0] ∧ Bs q B (.slice A 3 c) L3 ∧ B ≤ q.heap.size),
        (fun u q => ∃ A c B, u = .tuple #[.slice A 3 c, .int .i64 0] ∧ Bs q B (.slice A 3 c) L3 ∧ B ≤ q.heap.size),
        (fun u q => ∃ A c B, u = .slice A 3 c ∧ Bs q B (.slice A 3 c) L3 ∧ B ≤ q.heap.size),
        (fun y_ _ => y_ = .int .i64 0),
        (fun u q => ∃ A c B, u = .slice A 3 c ∧ Bs q B (.slice A 3 c) L3 ∧ B ≤ q.heap.size),
        (fun y_ _ => y_ = .int .i64 0)]
        (fun q => Below w4.heap.size w4 q) (by kernel_rfl) rfl (by kernel_rfl) ?_ ?_ ?_ ?_
      · exact hG0
      · exact ⟨stab_eq _, stab_eq _, stab_eq _, stab_eq _, stab_eq _, stab_eq _, stab_eq _, stab_eq _, stab_eq _, stab_eq _, fun _ _ _ ⟨g, h1, h2, h3⟩ hb => ⟨g, h1, h2.ext hb, h3⟩, fun _ _ _ ⟨A, c, B, h1, h2, h3⟩ hb => ⟨A, c, B, h1, h2.ext h3 hb, Nat.le_trans h3 hb.size⟩, fun _ _ _ ⟨A, c, B, h1, h2, h3⟩ hb => ⟨A, c, B, h1, h2.ext h3 hb, Nat.le_trans h3 hb.size⟩, fun _ _ _ ⟨A, c, B, h1, h2, h3⟩ hb => ⟨A, c, B, h1, h2.ext h3 hb, Nat.le_trans h3 hb.size⟩, stab_eq _, fun _ _ _ ⟨A, c, B, h1, h2, h3⟩ hb => ⟨A, c, B, h1, h2.ext h3 hb, Nat.le_trans h3 hb.size⟩, stab_eq _, trivial⟩
      · refine ⟨?_, ?_, ?_, ?_, ?_, ?_, ?_, ?_, ?_, ?_, ?_, ?_, ?_, ?_, ?_, ?_, ?_, trivial⟩
        · intro a x hG hd hs K hK
          have h6 : a.tmps.getD 6 undef = .pointer (some ⟨g4, 0, none⟩) := hs 6 (by kernel_rfl)
          clear hd hs
          refine wpOp_plain rfl rfl ?_
          go_simp
          exact hK _ _ rfl hG (Below.refl _ _)
        · intro a x hG hd hs K hK
          have h19 : a.tmps.getD 19 undef = .pointer (some ⟨g4, 1, none⟩) := hd 0 19 (by kernel_rfl)
          clear hd hs
          refine wpOp_plain rfl rfl ?_
          have hc : x.cell? ⟨g4, 1, none⟩ = some (.int .i64 ((yi : Nat) : Int)) := (k4.ext hG).cell 1
          go_simp
          exact hK _ _ rfl hG (Below.refl _ _)
        · intro a x hG hd hs K hK
          have h20 : a.tmps.getD 20 undef = .int .i64 ((yi : Nat) : Int) := hd 1 20 (by kernel_rfl)
          clear hd hs
          refine wpOp_plain rfl rfl ?_
          go_simp
          refine (num_any yi _ (by omega)).mono ?_
          rintro e w' ⟨rfl, hb⟩
          exact hK _ _ rfl (hG.trans (hb.mono hG.size)) hb
        · intro a x hG hd hs K hK
          have h6 : a.tmps.getD 6 undef = .pointer (some ⟨g4, 0, none⟩) := hs 6 (by kernel_rfl)
          clear hd hs
          refine wpOp_plain rfl rfl ?_
          go_simp
          exact hK _ _ rfl hG (Below.refl _ _)
        · intro a x hG hd hs K hK
          have h22 : a.tmps.getD 22 undef = .pointer (some ⟨g4, 2, none⟩) := hd 3 22 (by kernel_rfl)
          clear hd hs
          refine wpOp_plain rfl rfl ?_
          have hc : x.cell? ⟨g4, 2, none⟩ = some (.int .i64 ((yt : Nat) : Int)) := (k4.ext hG).cell 2
          go_simp
          exact hK _ _ rfl hG (Below.refl _ _)
        · intro a x hG hd hs K hK
          have h23 : a.tmps.getD 23 undef = .int .i64 ((yt : Nat) : Int) := hd 4 23 (by kernel_rfl)
          clear hd hs
          refine wpOp_plain rfl rfl ?_
          go_simp
          refine (num_any yt _ (by omega)).mono ?_
          rintro e w' ⟨rfl, hb⟩
          exact hK _ _ rfl (hG.trans (hb.mono hG.size)) hb
        · intro a x hG hd hs K hK
          have h6 : a.tmps.getD 6 undef = .pointer (some ⟨g4, 0, none⟩) := hs 6 (by kernel_rfl)
          clear hd hs
          refine wpOp_plain rfl rfl ?_
          go_simp
          exact hK _ _ rfl hG (Below.refl _ _)
        · intro a x hG hd hs K hK
          have h25 : a.tmps.getD 25 undef = .pointer (some ⟨g4, 0, none⟩) := hd 6 25 (by kernel_rfl)
          clear hd hs
          refine wpOp_plain rfl rfl ?_
          have hc : x.cell? ⟨g4, 0, none⟩ = some (.string ⟨yn.toArray⟩) := (k4.ext hG).cell 0
          go_simp
          exact hK _ _ rfl hG (Below.refl _ _)
        · intro a x hG hd hs K hK
          have h26 : a.tmps.getD 26 undef = .string ⟨yn.toArray⟩ := hd 7 26 (by kernel_rfl)
          clear hd hs
          refine wpOp_plain rfl rfl ?_
          go_simp
          exact hK _ _ rfl hG (Below.refl _ _)
        · intro a x hG hd hs K hK
          have h27 : a.tmps.getD 27 undef = .int .i64 ((yn.length : Nat) : Int) := hd 8 27 (by kernel_rfl)
          clear hd hs
          refine wpOp_plain rfl rfl ?_
          go_simp
          refine (num_any yn.length _ (by omega)).mono ?_
          rintro e w' ⟨rfl, hb⟩
          exact hK _ _ rfl (hG.trans (hb.mono hG.size)) hb
        · intro a x hG hd hs K hK
          have h21 : a.tmps.getD 21 undef = .agg #[.int .i64 1, .int .u64 ((yi : Nat) : Int)] := hd 2 21 (by kernel_rfl)
          have h21o := getD_opt h21
          have h24 : a.tmps.getD 24 undef = .agg #[.int .i64 1, .int .u64 ((yt : Nat) : Int)] := hd 5 24 (by kernel_rfl)
          have h24o := getD_opt h24
          have h28 : a.tmps.getD 28 undef = .agg #[.int .i64 1, .int .u64 ((yn.length : Nat) : Int)] := hd 9 28 (by kernel_rfl)
          have h28o := getD_opt h28
          clear hd hs
          refine wpOp_plain rfl rfl ?_
          go_simp
          exact hK _ _ ⟨x.heap.size, rfl, Blk.new x _ _, hG.size⟩ (hG.alloc hG.size _) ((Below.refl _ _).alloc (Nat.le_refl _) _)
        · intro a x hG hd hs K hK
          have h29 : (fun u q => ∃ g, u = .slice (some ⟨g, 0, none⟩) 3 3 ∧ Blk q g 57 (ncells (eN ⟨yn, (yi : Int), (yt : Int)⟩)) ∧ w4.heap.size ≤ g) (a.tmps.getD 29 undef) x := hd 10 29 (by kernel_rfl)
          clear hd hs
          refine wpOp_plain rfl rfl ?_
          obtain ⟨gn, h29, kn, _⟩ := h29
          have hr : Nums x (gn + 1) (.slice (some ⟨gn, 0, none⟩) 3 3) (eN ⟨yn, (yi : Int), (yt : Int)⟩) := kn.rds 0 3 3 2 (by show 0 + 3 * 2 ≤ 6; decide) (Nat.le_refl _) (by simp [maxLen])
          go_simp
          refine (pack_any _ _ _ _ hr kn.lt (by show 3 ≤ 100000; omega) HLT.out).mono ?_
          rintro e w' ⟨u, rfl, ho, hb⟩
          rw [HPP.out.1]
          rw [HPP.out.2] at ho
          obtain ⟨A9, c9, rfl⟩ := own_slice ho
          have hbs : Bs w' w'.heap.size (.slice A9 L3.length c9) L3 := Bs.of_own ho
          rw [HL3.out] at hbs ⊢
          exact hK _ _ ⟨A9, c9, _, rfl, hbs, Nat.le_refl _⟩ (hG.trans (hb.mono hG.size)) hb
        · intro a x hG hd hs K hK
          have h30 : (fun u q => ∃ A c B, u = .tuple #[.slice A 3 c, .int .i64 0] ∧ Bs q B (.slice A 3 c) L3 ∧ B ≤ q.heap.size) (a.tmps.getD 30 undef) x := hd 11 30 (by kernel_rfl)
          clear hd hs
          refine wpOp_plain rfl rfl ?_
          obtain ⟨uu, huu⟩ : ∃ uu, a.tmps.getD 30 undef = uu := ⟨_, rfl⟩
          rw [huu] at h30
          go_simp
          exact hK _ _ h30 hG (Below.refl _ _)
        · intro a x hG hd hs K hK
          have h18 : (fun u q => ∃ A c B, u = .tuple #[.slice A 3 c, .int .i64 0] ∧ Bs q B (.slice A 3 c) L3 ∧ B ≤ q.heap.size) (a.tmps.getD 18 undef) x := hd 12 18 (by kernel_rfl)
          clear hd hs
          refine wpOp_plain rfl rfl ?_
          obtain ⟨A9, c9, B9, h18, hb9, hB9⟩ := h18
          go_simp
          exact hK _ _ ⟨A9, c9, B9, rfl, hb9, hB9⟩ hG (Below.refl _ _)
        · intro a x hG hd hs K hK
          have h18 : (fun u q => ∃ A c B, u = .tuple #[.slice A 3 c, .int .i64 0] ∧ Bs q B (.slice A 3 c) L3 ∧ B ≤ q.heap.size) (a.tmps.getD 18 undef) x := hd 12 18 (by kernel_rfl)
          clear hd hs
          refine wpOp_plain rfl rfl ?_
          obtain ⟨A9, c9, B9, h18, hb9, hB9⟩ := h18
          go_simp
          exact hK _ _ rfl hG (Below.refl _ _)
        · intro a x hG hd hs K hK
          have h31 : (fun u q => ∃ A c B, u = .slice A 3 c ∧ Bs q B (.slice A 3 c) L3 ∧ B ≤ q.heap.size) (a.tmps.getD 31 undef) x := hd 13 31 (by kernel_rfl)
          clear hd hs
          refine wpOp_plain rfl rfl ?_
          obtain ⟨uu, huu⟩ : ∃ uu, a.tmps.getD 31 undef = uu := ⟨_, rfl⟩
          rw [huu] at h31
          go_simp
          exact hK _ _ h31 hG (Below.refl _ _)
        · intro a x hG hd hs K hK
          have h32 : a.tmps.getD 32 undef = .int .i64 0 := hd 14 32 (by kernel_rfl)
          clear hd hs
          refine wpOp_plain rfl rfl ?_
          go_simp
          exact hK _ _ rfl hG (Below.refl _ _)
      · intro x hG
        rintro _ rfl _ rfl _ rfl _ rfl _ rfl _ rfl _ rfl _ rfl _ rfl _ rfl v10 hv10 v11 hv11 v12 hv12 v13 hv13 _ rfl v15 hv15 _ rfl
        simp only [Act.put, List.setIfInBounds_toArray, List.set_cons_zero, List.set_cons_succ, REnd]
        try simp only [Exit.then]
        obtain ⟨A9, c9, B9, rfl, hb9, hB9⟩ := hv15
        replace hown := own_ext hown hG
        have b9 := b4.trans (hG.mono b4.size)
        have hkx := k4.ext hG
        have hb9' : Rds x B9 1 (.slice A9 3 c9) 3 (u8s L3) := by
          have := hb9
          unfold Bs at this
          rw [HL3.out] at this
          exact this
        clear hv10 hv11 hv12 hv13 hG hb9
        generalize hen : Et.enc (l.take k) = N at *
        clear hen
        go_wp2_with (at_builtin; refine stop_ ?_)
        obtain ⟨v1, wa, hruna, howna, hgra, _⟩ := run_append_rds (P := Try.prog) (ty := 29) Try.underlying29 infoU8 rfl (by decide) hown hb9' (u8s_oneCell L3) (by rw [maxLen_eq]; omega) (by omega) b9.size
        have hBa := b9.grown hgra b9.size (fun j e => (hown.lt j e).1)
        have hka := hkx.grown hgra (own_blk_ne hown hkx (by decide))
        refine wpList_append_run rfl _ _ _ rfl rfl rfl hruna ?_
        clear hruna hgra hown hb9' hkx b9
        have p0 : wa.cell? ⟨g4, 0, none⟩ = some (.string ⟨yn.toArray⟩) := hka.cell 0
        obtain ⟨A1, c1, rfl⟩ := own_slice howna
        go_wp2_with (at_builtin; refine stop_ ?_)
        refine wpL_append_str rfl _ _ rfl rfl howna yn rfl (by omega) hBa.size ?_
        rintro v2 wb hownb hgrb
        have hBb := hBa.grown hgrb hBa.size (fun j e => (howna.lt j e).1)
        obtain ⟨A2, c2, rfl⟩ := own_slice hownb
        clear hgrb howna p0 hka hBa
        go_wp2
        go_roundw
        case rel =>
          refine ⟨k + 1, by omega, by go_num, ?_, hBb⟩
          rw [HEN.out, HEE.out, List.length_append, List.length_append, HL3.out, u8s_app, u8s_app, ← List.append_assoc, ← Nat.add_assoc]
          exact hownb
        case measure => simp [intOf]; omega
    · obtain rfl : k = l.length := by omega
      rw [List.take_length] at hown
      obtain ⟨A2, c2, rfl⟩ := own_slice hown
      go_wp2
      go_ret2
      exact ⟨_, rfl, Bs.of_own hown, hbr⟩
end Go.Proofs.Ytahkhieoabbaaaa
