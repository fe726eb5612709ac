/-
  PathSame: a path leads to the same names with empty pieces, . and a way there and back put between its pieces. For every input.
-/
import Derived.Test.YtahcbgllnoopgaaPaL
namespace Go.Proofs.Ytahcbgllnoopgaa
open Go.ChangeShapes Go.WideShapes Go.ChangeAt Go.RowKit

/-! ### The plain law -/
/-- What is put between, as pieces. -/
def fil : Nat → List (List UInt8)
  | 1 => [[]]
  | 2 => [[46]]
  | 3 => [[113], [46, 46]]
  | 4 => [[46], [113], [46, 46], []]
  | _ => []
theorem jn_app (l m : List (List UInt8)) : jn (l ++ m) = jn l ++ jn m := by unfold jn; rw [List.flatMap_append]
theorem isN_q : Tl.isN [113] = true := by kernel_rfl
theorem fil_no (k : Nat) : ∀ c ∈ fil k, (47 : UInt8) ∉ c := by
  intro c hc
  unfold fil at hc
  split at hc
  all_goals
    simp at hc
    try (rcases hc with rfl | rfl | rfl | rfl <;> simp)
    try (rcases hc with rfl | rfl <;> simp)
    try (subst hc; simp)
theorem fil_len (k : Nat) : (jn (fil k)).length ≤ 8 := by
  unfold fil
  split <;> simp [jn]
theorem fil_fold (k : Nat) (ns : List (List UInt8)) (h : ns.length < 8) : (fil k).foldl Pa.step (ns, 0) = (ns, 0) := by
  have hq : Pa.step (ns, 0) [113] = (ns ++ [[113]], 0) := by
    rw [step_name ns [113] (by decide) (by decide) (by decide), if_pos isN_q, if_neg (by omega)]
  have hu : Pa.step (ns ++ [[113]], 0) [46, 46] = (ns, 0) := by rw [step_up]; simp
  have h1 := step_skip ns [] (.inl rfl)
  have h2 := step_skip ns [46] (.inr rfl)
  unfold fil
  split
  · simp only [List.foldl_cons, List.foldl_nil, h1]
  · simp only [List.foldl_cons, List.foldl_nil, h2]
  · simp only [List.foldl_cons, List.foldl_nil, hq, hu]
  · simp only [List.foldl_cons, List.foldl_nil, h1, h2, hq, hu]
  · rfl
theorem cut_jnN' : ∀ (l : List (List UInt8)), (∀ c ∈ l, (47 : UInt8) ∉ c) → ∀ p, Pa.cut (p ++ jn l) = Pa.cut p ++ l
  | [], _, p => by show Pa.cut (p ++ []) = _; rw [List.append_nil, List.append_nil]
  | c :: l, h, p => by
    have e : jn (c :: l) = 47 :: (c ++ jn l) := by unfold jn; rw [List.flatMap_cons]; rfl
    rw [e, cut_app, cut_jnN' l (fun d hd => h d (List.mem_cons_of_mem _ hd)) c, cut_last c (h c List.mem_cons_self)]
    rfl
/-- How far the second path has come. -/
def Going (l : List (List UInt8)) (i : Nat) (t : List UInt8) : Prop := ∃ P, t = jn P ∧ (∀ c ∈ P, (47 : UInt8) ∉ c) ∧ Pa.ps P = (l.take i, 0) ∧ t.length ≤ 33 * i ∧ (P = [] → i = 0 ∨ l = [])
theorem going_start (l : List (List UInt8)) : Going l 0 [] := ⟨[], rfl, by simp, rfl, by simp, fun _ => .inl rfl⟩
/-- A name behind what is put between. -/
theorem going_name {l : List (List UInt8)} {i : Nat} {t : List UInt8} (h : Going l i t) (hl : l.length ≤ 4) (hi : i < l.length) (hn : ∀ c ∈ l, Tl.isN c = true) (k : Nat) : Going l (i + 1) (t ++ jn (fil k) ++ 47 :: l.getD i []) := by
  obtain ⟨P, rfl, h1, h2, h3, _⟩ := h
  have hg : l.getD i [] = l[i] := by simp [List.getD, hi]
  have hin := hn l[i] (List.getElem_mem hi)
  obtain ⟨p1, p2, p3, p4⟩ := name_parts hin
  have hlen24 : l[i].length ≤ 24 := by
    unfold Tl.isN at hin
    simp only [Bool.and_eq_true, decide_eq_true_eq] at hin
    exact hin.1.1.1.2
  rw [hg]
  refine ⟨P ++ fil k ++ [l[i]], by rw [jn_snoc, jn_app], ?_, ?_, ?_, by simp⟩
  · intro c hc
    rcases List.mem_append.1 hc with hc | hc
    · rcases List.mem_append.1 hc with hc | hc
      · exact h1 c hc
      · exact fil_no k c hc
    · rw [List.mem_singleton.1 hc]; exact p1
  · rw [Pa.ps_snoc, Pa.ps_app, h2, fil_fold k _ (by rw [List.length_take]; omega), step_name _ _ p2 p3 p4, if_pos hin, if_neg (by rw [List.length_take]; omega), List.take_succ_eq_append_getElem hi]
  · have := fil_len k
    simp only [List.length_append, List.length_cons]
    omega
theorem going_end {l : List (List UInt8)} {t : List UInt8} (h : Going l l.length t) (hl : l.length ≤ 4) (k : Nat) :
    (t ++ jn (fil k)).length ≤ 140 ∧ Pa.parse (if t ++ jn (fil k) = [] then [47] else t ++ jn (fil k)) = (l, 0) := by
  obtain ⟨P, rfl, h1, h2, h3, h4⟩ := h
  have hf := fil_len k
  have hlen : (jn P ++ jn (fil k)).length ≤ 140 := by rw [List.length_append]; omega
  refine ⟨hlen, ?_⟩
  have hps : Pa.ps (P ++ fil k) = (l, 0) := by rw [Pa.ps_app, h2, List.take_length, fil_fold k l (by omega)]
  have hno : ∀ c ∈ P ++ fil k, (47 : UInt8) ∉ c := by
    intro c hc
    rcases List.mem_append.1 hc with hc | hc
    · exact h1 c hc
    · exact fil_no k c hc
  rw [← jn_app] at hlen ⊢
  generalize P ++ fil k = Q at *
  by_cases h0 : jn Q = []
  · rw [if_pos h0]
    have := jn_nil.1 h0
    subst this
    have : l = [] := by injection hps with e _; exact e.symm
    subst this
    rfl
  · rw [if_neg h0]
    unfold Pa.parse
    have hh : (jn Q).head? = some 47 := by
      cases Q with
      | nil => exact absurd rfl h0
      | cons x l => unfold jn; rw [List.flatMap_cons]; rfl
    have hcut : Pa.cut (jn Q) = [] :: Q := cut_jnN' Q hno []
    rw [if_pos hh, if_neg (by omega), hcut, Pa.ps_nil, hps]

theorem jn24 (l : List (List UInt8)) (h : ∀ c ∈ l, Tl.isN c = true) : (jn l).length ≤ 25 * l.length := by
  induction l with
  | nil => simp [jn]
  | cons x l ih =>
    have := ih (fun y hy => h y (List.mem_cons_of_mem _ hy))
    have hin := h x List.mem_cons_self
    unfold Tl.isN at hin
    simp only [Bool.and_eq_true, decide_eq_true_eq] at hin
    have := hin.1.1.1.2
    have e : jn (x :: l) = 47 :: (x ++ jn l) := by unfold jn; rw [List.flatMap_cons]; rfl
    rw [e]
    simp
    omega
theorem join_ok {l : List (List UInt8)} {s : List UInt8} (h : Pa.join l = (s, 0)) (hl : l.length ≤ 4) : (∀ c ∈ l, Tl.isN c = true) ∧ s.length ≤ 200 := by
  rw [join_parts] at h
  cases ha : l.all Tl.isN with
  | false => rw [ha, if_neg (by decide)] at h; injection h with _ h; exact absurd h (by decide)
  | true =>
    rw [ha, if_pos rfl, if_neg (by omega)] at h
    injection h with h _
    have hall := List.all_eq_true.1 ha
    refine ⟨hall, ?_⟩
    have := jn24 l hall
    rw [← h]
    split
    · simp
    · omega

set_option maxRecDepth 100000 in
set_option maxHeartbeats 8000000 in
theorem pathSame_walk (w : World) (v u : Value) (l0 : List (List UInt8)) (f : List UInt8) (hl0 : Strs w w.heap.size v l0) (hf0 : Bs w w.heap.size u f) :
    Calls Try.prog 5 #[v, u] w fun e w' => e = .returned (.bool true) ∧ Below w.heap.size w w' := by
  obtain ⟨A, c, rfl, _, _, _⟩ := hl0.open_
  obtain ⟨Af, cf, rfl, hfc, hfm, _⟩ := hf0.open_
  go_enter Try.func5, Try.ntmps5
  go_wp2_with fail
  refine (names_any _ l0 w hl0).mono ?_
  rintro e w1 ⟨u1, rfl, hs1, b1⟩
  have hf1 := (Bs.ext hf0 (Nat.le_refl _) b1).more b1.size
  have hl10 := names_len l0
  have H60 := Lib.hid (names_each l0)
  generalize namesL l0 = l at *
  obtain ⟨A1, c1, rfl, hlc, hcm, _⟩ := hs1.open_
  clear hl0 hf0
  have HJ := Lib.hid (join_any (.slice A1 l.length c1) l)
  have HPJ := Lib.hid (parse_join l)
  have HOK := Lib.hid (fun s => join_ok (l := l) (s := s))
  generalize Pa.join l = PJ at *
  obtain ⟨s, er⟩ := PJ
  dsimp only at HJ
  have HPA := Lib.hid (parse_any s)
  generalize (⟨s.toArray⟩ : ByteArray) = S at *
  go_wp2_with fail
  refine (HJ.out w1 hs1 H60.out hl10).mono ?_
  rintro e w3 ⟨rfl, b3⟩
  have hs13 := (Rds.ext hs1 (Nat.le_refl _) b3).more b3.size
  have hf3 := (Bs.ext hf1 (Nat.le_refl _) b3).more b3.size
  have d3 := b1.trans (b3.mono b1.size)
  clear b3 b1 hs1 hf1 HJ
  by_cases her : er = 0
  rotate_left
  · have hz : ((er : Int) != 0) = true := by rw [bne_iff_ne]; omega
    clear her
    go_wp2_with fail
    refine (awake_any w3).mono ?_
    rintro e w7 ⟨rfl, b7⟩
    go_wp2
    go_ret
    exact ⟨rfl, d3.trans (b7.mono d3.size)⟩
  subst her
  by_cases h4 : 4 < l.length
  · have h4' : (4 : Int) < (l.length : Int) := by omega
    go_wp2_with fail
    refine (awake_any w3).mono ?_
    rintro e w7 ⟨rfl, b7⟩
    go_wp2
    go_ret
    exact ⟨rfl, d3.trans (b7.mono d3.size)⟩
  have h4' : ¬ (4 : Int) < (l.length : Int) := by omega
  have hl4 : l.length ≤ 4 := by omega
  have hok := HOK.out s rfl hl4
  have HN := Lib.hid hok.1
  have hs200 := hok.2
  have HPE := Lib.hid (HPJ.out s rfl hs200)
  rw [HPE.out] at HPA
  dsimp only at HPA
  obtain ⟨_, _, he9, _, _, hE⟩ := Strs.open_ hs13
  cases he9
  have HE := Lib.hid hE
  obtain ⟨_, _, he9, _, _, hfe⟩ := Bs.openD hf3
  cases he9
  have HFE := Lib.hid hfe
  have HS13 := Lib.hid hs13
  clear h4 HPJ HOK hok hE hfe hs13 hf3
  go_wp2
  go_loopw [7, 8] (fun tt i wr => ∃ (k : Nat) (t : List UInt8), i = .int .i64 k ∧ tt = .string ⟨t.toArray⟩ ∧ t.length ≤ 165 ∧ k ≤ l.length + 1 ∧ Hid ((k ≤ l.length → Going l k t) ∧ (k = l.length + 1 → t.length ≤ 140 ∧ Pa.parse (if t = [] then [47] else t) = (l, 0))) ∧ Below w3.heap.size w3 wr) (fun _ i _ => l.length + 1 - (intOf i).toNat)
  case atStart => exact ⟨0, [], rfl, rfl, by simp, Nat.zero_le _, Lib.hid ⟨fun _ => going_start l, fun h => absurd h (by omega)⟩, Below.refl _ _⟩
  case round =>
    obtain ⟨k, t, rfl, rfl, ht, hk, HRR, hbr⟩ := hrel
    by_cases hle : k ≤ l.length
    · have HR := Lib.hid (HRR.out.1 hle)
      have hle' : (k : Int) ≤ (l.length : Int) := by omega
      have zt := ba_size t
      obtain ⟨ST, hST⟩ : ∃ ST, (⟨t.toArray⟩ : ByteArray) = ST := ⟨_, rfl⟩
      rw [hST] at zt ⊢
      by_cases hkf : k < f.length
      · obtain ⟨bf, of_, rfl, hbf, hcf⟩ := HFE.out k hkf
        have hcf' := (hbr.cell (p := ⟨bf, of_ + k, none⟩) hbf).trans hcf
        have hx256 : (f.getD k 0).toNat < 256 := UInt8.toNat_lt _
        have hkf' : (k : Int) < (f.length : Int) := by omega
        clear hcf
        generalize (f.getD k 0).toNat = y at *
        have hrr : ∃ r, y % 5 = r ∧ r < 5 := ⟨_, rfl, Nat.mod_lt _ (by decide)⟩
        obtain ⟨r, hr, hr5⟩ := hrr
        have hrem : ((y : Nat) : Int).tmod 5 = ((r : Nat) : Int) := by rw [← hr]; rfl
        have hcase : r = 0 ∨ r = 1 ∨ r = 2 ∨ r = 3 ∨ r = 4 := by omega
        clear hr hr5
        rcases hcase with rfl | rfl | rfl | rfl | rfl
        · by_cases hlt : k < l.length
          · have HG := Lib.hid (going_name HR.out hl4 hlt HN.out 0)
            rw [show t ++ jn (fil 0) = t by simp [jn, fil]] at HG
            obtain ⟨b, off, rfl, hbB, h0⟩ := (HE.out.below hbr) k hlt
            have hx : (l.getD k []).length ≤ 60 := H60.out _ (by simp only [List.getD, List.getElem?_eq_getElem hlt, Option.getD_some]; exact List.getElem_mem hlt)
            generalize l.getD k [] = x at *
            have HQ1 := Lib.hid (ba_append [47] x)
            have HQ2 := Lib.hid (ba_append (t) (47 :: x))
            have z1 := ba_size x
            have z3 := ba_size (47 :: x)
            rw [List.length_cons] at z3
            have z4 := HG.out.choose_spec.2.2.2.1
            obtain ⟨SX, hSX⟩ : ∃ SX, (⟨x.toArray⟩ : ByteArray) = SX := ⟨_, rfl⟩
            obtain ⟨SY, hSY⟩ : ∃ SY, (⟨(47 :: x).toArray⟩ : ByteArray) = SY := ⟨_, rfl⟩
            obtain ⟨SZ, hSZ⟩ : ∃ SZ, (⟨(t ++ 47 :: x).toArray⟩ : ByteArray) = SZ := ⟨_, rfl⟩
            rw [show ([47] : List UInt8) ++ x = 47 :: x from rfl, hSX, hSY] at HQ1
            rw [hSX] at h0 z1
            rw [hSY] at z3
            rw [hSY, hST, hSZ] at HQ2
            have hq1 : (⟨#[47]⟩ : ByteArray) ++ SX = SY := HQ1.out
            have hq2 : ST ++ SY = SZ := HQ2.out
            have HSZ := Lib.hid hSZ
            have n1 : ¬ 9223372036854775807 < 1 + x.length := by omega
            have n2 : ¬ 9223372036854775807 < t.length + (x.length + 1) := by omega
            have s1 : (⟨#[47]⟩ : ByteArray).size = 1 := rfl
            have hlk : (k : Int) < (l.length : Int) := by omega
            clear HQ1 HQ2 hSX hSY hSZ hST 
            go_wp2
            go_roundw
            case rel => exact ⟨k + 1, t ++ 47 :: x, by go_num, by rw [HSZ.out], by omega, by omega, Lib.hid ⟨fun _ => HG.out, fun h => absurd h (by omega)⟩, hbr⟩
            case measure => simp [intOf]; omega
          · obtain rfl : k = l.length := by omega
            have HF := Lib.hid (going_end (l := l) (t := t) HR.out hl4 0)
            rw [show t ++ jn (fil 0) = t by simp [jn, fil]] at HF
            have z4 := HF.out.1
            have hlk : ¬ (l.length : Int) < (l.length : Int) := by omega

            have HST := Lib.hid hST
            clear hST 
            go_wp2
            go_roundw
            case rel => exact ⟨l.length + 1, t, by go_num, by rw [HST.out], by omega, by omega, Lib.hid ⟨fun h => absurd h (by omega), fun _ => HF.out⟩, hbr⟩
            case measure => simp [intOf]
        · by_cases hlt : k < l.length
          · have HQ0 := Lib.hid (ba_append t [47])
            have zu := ba_size (t ++ [47])
            rw [List.length_append, show ([47] : List UInt8).length = 1 from rfl] at zu
            obtain ⟨SU, hSU⟩ : ∃ SU, (⟨(t ++ [47]).toArray⟩ : ByteArray) = SU := ⟨_, rfl⟩
            rw [hSU] at HQ0 zu
            rw [hST] at HQ0
            have hq0 : ST ++ ⟨#[47]⟩ = SU := HQ0.out
            have n0 : ¬ 9223372036854775807 < t.length + 1 := by omega
            have s0 : (⟨#[47]⟩ : ByteArray).size = 1 := rfl
            have HG := Lib.hid (going_name HR.out hl4 hlt HN.out 1)
            rw [show t ++ jn (fil 1) = t ++ [47] by simp [jn, fil]] at HG
            obtain ⟨b, off, rfl, hbB, h0⟩ := (HE.out.below hbr) k hlt
            have hx : (l.getD k []).length ≤ 60 := H60.out _ (by simp only [List.getD, List.getElem?_eq_getElem hlt, Option.getD_some]; exact List.getElem_mem hlt)
            generalize l.getD k [] = x at *
            have HQ1 := Lib.hid (ba_append [47] x)
            have HQ2 := Lib.hid (ba_append (t ++ [47]) (47 :: x))
            have z1 := ba_size x
            have z3 := ba_size (47 :: x)
            rw [List.length_cons] at z3
            have z4 := HG.out.choose_spec.2.2.2.1
            obtain ⟨SX, hSX⟩ : ∃ SX, (⟨x.toArray⟩ : ByteArray) = SX := ⟨_, rfl⟩
            obtain ⟨SY, hSY⟩ : ∃ SY, (⟨(47 :: x).toArray⟩ : ByteArray) = SY := ⟨_, rfl⟩
            obtain ⟨SZ, hSZ⟩ : ∃ SZ, (⟨(t ++ [47] ++ 47 :: x).toArray⟩ : ByteArray) = SZ := ⟨_, rfl⟩
            rw [show ([47] : List UInt8) ++ x = 47 :: x from rfl, hSX, hSY] at HQ1
            rw [hSX] at h0 z1
            rw [hSY] at z3
            rw [hSY, hSU, hSZ] at HQ2
            have hq1 : (⟨#[47]⟩ : ByteArray) ++ SX = SY := HQ1.out
            have hq2 : SU ++ SY = SZ := HQ2.out
            have HSZ := Lib.hid hSZ
            have n1 : ¬ 9223372036854775807 < 1 + x.length := by omega
            have n2 : ¬ 9223372036854775807 < t.length + 1 + (x.length + 1) := by omega
            have s1 : (⟨#[47]⟩ : ByteArray).size = 1 := rfl
            have hlk : (k : Int) < (l.length : Int) := by omega
            clear HQ1 HQ2 hSX hSY hSZ hST hSU HQ0
            go_wp2
            go_roundw
            case rel => exact ⟨k + 1, t ++ [47] ++ 47 :: x, by go_num, by rw [HSZ.out], by omega, by omega, Lib.hid ⟨fun _ => HG.out, fun h => absurd h (by omega)⟩, hbr⟩
            case measure => simp [intOf]; omega
          · obtain rfl : k = l.length := by omega
            have HQ0 := Lib.hid (ba_append t [47])
            have zu := ba_size (t ++ [47])
            rw [List.length_append, show ([47] : List UInt8).length = 1 from rfl] at zu
            obtain ⟨SU, hSU⟩ : ∃ SU, (⟨(t ++ [47]).toArray⟩ : ByteArray) = SU := ⟨_, rfl⟩
            rw [hSU] at HQ0 zu
            rw [hST] at HQ0
            have hq0 : ST ++ ⟨#[47]⟩ = SU := HQ0.out
            have n0 : ¬ 9223372036854775807 < t.length + 1 := by omega
            have s0 : (⟨#[47]⟩ : ByteArray).size = 1 := rfl
            have HF := Lib.hid (going_end (l := l) (t := t) HR.out hl4 1)
            rw [show t ++ jn (fil 1) = t ++ [47] by simp [jn, fil]] at HF
            have z4 := HF.out.1
            have hlk : ¬ (l.length : Int) < (l.length : Int) := by omega
            have HSU := Lib.hid hSU

            clear hST hSU HQ0
            go_wp2
            go_roundw
            case rel => exact ⟨l.length + 1, t ++ [47], by go_num, by rw [HSU.out], by omega, by omega, Lib.hid ⟨fun h => absurd h (by omega), fun _ => HF.out⟩, hbr⟩
            case measure => simp [intOf]
        · by_cases hlt : k < l.length
          · have HQ0 := Lib.hid (ba_append t [47, 46])
            have zu := ba_size (t ++ [47, 46])
            rw [List.length_append, show ([47, 46] : List UInt8).length = 2 from rfl] at zu
            obtain ⟨SU, hSU⟩ : ∃ SU, (⟨(t ++ [47, 46]).toArray⟩ : ByteArray) = SU := ⟨_, rfl⟩
            rw [hSU] at HQ0 zu
            rw [hST] at HQ0
            have hq0 : ST ++ ⟨#[47, 46]⟩ = SU := HQ0.out
            have n0 : ¬ 9223372036854775807 < t.length + 2 := by omega
            have s0 : (⟨#[47, 46]⟩ : ByteArray).size = 2 := rfl
            have HG := Lib.hid (going_name HR.out hl4 hlt HN.out 2)
            rw [show t ++ jn (fil 2) = t ++ [47, 46] by simp [jn, fil]] at HG
            obtain ⟨b, off, rfl, hbB, h0⟩ := (HE.out.below hbr) k hlt
            have hx : (l.getD k []).length ≤ 60 := H60.out _ (by simp only [List.getD, List.getElem?_eq_getElem hlt, Option.getD_some]; exact List.getElem_mem hlt)
            generalize l.getD k [] = x at *
            have HQ1 := Lib.hid (ba_append [47] x)
            have HQ2 := Lib.hid (ba_append (t ++ [47, 46]) (47 :: x))
            have z1 := ba_size x
            have z3 := ba_size (47 :: x)
            rw [List.length_cons] at z3
            have z4 := HG.out.choose_spec.2.2.2.1
            obtain ⟨SX, hSX⟩ : ∃ SX, (⟨x.toArray⟩ : ByteArray) = SX := ⟨_, rfl⟩
            obtain ⟨SY, hSY⟩ : ∃ SY, (⟨(47 :: x).toArray⟩ : ByteArray) = SY := ⟨_, rfl⟩
            obtain ⟨SZ, hSZ⟩ : ∃ SZ, (⟨(t ++ [47, 46] ++ 47 :: x).toArray⟩ : ByteArray) = SZ := ⟨_, rfl⟩
            rw [show ([47] : List UInt8) ++ x = 47 :: x from rfl, hSX, hSY] at HQ1
            rw [hSX] at h0 z1
            rw [hSY] at z3
            rw [hSY, hSU, hSZ] at HQ2
            have hq1 : (⟨#[47]⟩ : ByteArray) ++ SX = SY := HQ1.out
            have hq2 : SU ++ SY = SZ := HQ2.out
            have HSZ := Lib.hid hSZ
            have n1 : ¬ 9223372036854775807 < 1 + x.length := by omega
            have n2 : ¬ 9223372036854775807 < t.length + 2 + (x.length + 1) := by omega
            have s1 : (⟨#[47]⟩ : ByteArray).size = 1 := rfl
            have hlk : (k : Int) < (l.length : Int) := by omega
            clear HQ1 HQ2 hSX hSY hSZ hST hSU HQ0
            go_wp2
            go_roundw
            case rel => exact ⟨k + 1, t ++ [47, 46] ++ 47 :: x, by go_num, by rw [HSZ.out], by omega, by omega, Lib.hid ⟨fun _ => HG.out, fun h => absurd h (by omega)⟩, hbr⟩
            case measure => simp [intOf]; omega
          · obtain rfl : k = l.length := by omega
            have HQ0 := Lib.hid (ba_append t [47, 46])
            have zu := ba_size (t ++ [47, 46])
            rw [List.length_append, show ([47, 46] : List UInt8).length = 2 from rfl] at zu
            obtain ⟨SU, hSU⟩ : ∃ SU, (⟨(t ++ [47, 46]).toArray⟩ : ByteArray) = SU := ⟨_, rfl⟩
            rw [hSU] at HQ0 zu
            rw [hST] at HQ0
            have hq0 : ST ++ ⟨#[47, 46]⟩ = SU := HQ0.out
            have n0 : ¬ 9223372036854775807 < t.length + 2 := by omega
            have s0 : (⟨#[47, 46]⟩ : ByteArray).size = 2 := rfl
            have HF := Lib.hid (going_end (l := l) (t := t) HR.out hl4 2)
            rw [show t ++ jn (fil 2) = t ++ [47, 46] by simp [jn, fil]] at HF
            have z4 := HF.out.1
            have hlk : ¬ (l.length : Int) < (l.length : Int) := by omega
            have HSU := Lib.hid hSU

            clear hST hSU HQ0
            go_wp2
            go_roundw
            case rel => exact ⟨l.length + 1, t ++ [47, 46], by go_num, by rw [HSU.out], by omega, by omega, Lib.hid ⟨fun h => absurd h (by omega), fun _ => HF.out⟩, hbr⟩
            case measure => simp [intOf]
        · by_cases hlt : k < l.length
          · have HQ0 := Lib.hid (ba_append t [47, 113, 47, 46, 46])
            have zu := ba_size (t ++ [47, 113, 47, 46, 46])
            rw [List.length_append, show ([47, 113, 47, 46, 46] : List UInt8).length = 5 from rfl] at zu
            obtain ⟨SU, hSU⟩ : ∃ SU, (⟨(t ++ [47, 113, 47, 46, 46]).toArray⟩ : ByteArray) = SU := ⟨_, rfl⟩
            rw [hSU] at HQ0 zu
            rw [hST] at HQ0
            have hq0 : ST ++ ⟨#[47, 113, 47, 46, 46]⟩ = SU := HQ0.out
            have n0 : ¬ 9223372036854775807 < t.length + 5 := by omega
            have s0 : (⟨#[47, 113, 47, 46, 46]⟩ : ByteArray).size = 5 := rfl
            have HG := Lib.hid (going_name HR.out hl4 hlt HN.out 3)
            rw [show t ++ jn (fil 3) = t ++ [47, 113, 47, 46, 46] by simp [jn, fil]] at HG
            obtain ⟨b, off, rfl, hbB, h0⟩ := (HE.out.below hbr) k hlt
            have hx : (l.getD k []).length ≤ 60 := H60.out _ (by simp only [List.getD, List.getElem?_eq_getElem hlt, Option.getD_some]; exact List.getElem_mem hlt)
            generalize l.getD k [] = x at *
            have HQ1 := Lib.hid (ba_append [47] x)
            have HQ2 := Lib.hid (ba_append (t ++ [47, 113, 47, 46, 46]) (47 :: x))
            have z1 := ba_size x
            have z3 := ba_size (47 :: x)
            rw [List.length_cons] at z3
            have z4 := HG.out.choose_spec.2.2.2.1
            obtain ⟨SX, hSX⟩ : ∃ SX, (⟨x.toArray⟩ : ByteArray) = SX := ⟨_, rfl⟩
            obtain ⟨SY, hSY⟩ : ∃ SY, (⟨(47 :: x).toArray⟩ : ByteArray) = SY := ⟨_, rfl⟩
            obtain ⟨SZ, hSZ⟩ : ∃ SZ, (⟨(t ++ [47, 113, 47, 46, 46] ++ 47 :: x).toArray⟩ : ByteArray) = SZ := ⟨_, rfl⟩
            rw [show ([47] : List UInt8) ++ x = 47 :: x from rfl, hSX, hSY] at HQ1
            rw [hSX] at h0 z1
            rw [hSY] at z3
            rw [hSY, hSU, hSZ] at HQ2
            have hq1 : (⟨#[47]⟩ : ByteArray) ++ SX = SY := HQ1.out
            have hq2 : SU ++ SY = SZ := HQ2.out
            have HSZ := Lib.hid hSZ
            have n1 : ¬ 9223372036854775807 < 1 + x.length := by omega
            have n2 : ¬ 9223372036854775807 < t.length + 5 + (x.length + 1) := by omega
            have s1 : (⟨#[47]⟩ : ByteArray).size = 1 := rfl
            have hlk : (k : Int) < (l.length : Int) := by omega
            clear HQ1 HQ2 hSX hSY hSZ hST hSU HQ0
            go_wp2
            go_roundw
            case rel => exact ⟨k + 1, t ++ [47, 113, 47, 46, 46] ++ 47 :: x, by go_num, by rw [HSZ.out], by omega, by omega, Lib.hid ⟨fun _ => HG.out, fun h => absurd h (by omega)⟩, hbr⟩
            case measure => simp [intOf]; omega
          · obtain rfl : k = l.length := by omega
            have HQ0 := Lib.hid (ba_append t [47, 113, 47, 46, 46])
            have zu := ba_size (t ++ [47, 113, 47, 46, 46])
            rw [List.length_append, show ([47, 113, 47, 46, 46] : List UInt8).length = 5 from rfl] at zu
            obtain ⟨SU, hSU⟩ : ∃ SU, (⟨(t ++ [47, 113, 47, 46, 46]).toArray⟩ : ByteArray) = SU := ⟨_, rfl⟩
            rw [hSU] at HQ0 zu
            rw [hST] at HQ0
            have hq0 : ST ++ ⟨#[47, 113, 47, 46, 46]⟩ = SU := HQ0.out
            have n0 : ¬ 9223372036854775807 < t.length + 5 := by omega
            have s0 : (⟨#[47, 113, 47, 46, 46]⟩ : ByteArray).size = 5 := rfl
            have HF := Lib.hid (going_end (l := l) (t := t) HR.out hl4 3)
            rw [show t ++ jn (fil 3) = t ++ [47, 113, 47, 46, 46] by simp [jn, fil]] at HF
            have z4 := HF.out.1
            have hlk : ¬ (l.length : Int) < (l.length : Int) := by omega
            have HSU := Lib.hid hSU

            clear hST hSU HQ0
            go_wp2
            go_roundw
            case rel => exact ⟨l.length + 1, t ++ [47, 113, 47, 46, 46], by go_num, by rw [HSU.out], by omega, by omega, Lib.hid ⟨fun h => absurd h (by omega), fun _ => HF.out⟩, hbr⟩
            case measure => simp [intOf]
        · by_cases hlt : k < l.length
          · have HQ0 := Lib.hid (ba_append t [47, 46, 47, 113, 47, 46, 46, 47])
            have zu := ba_size (t ++ [47, 46, 47, 113, 47, 46, 46, 47])
            rw [List.length_append, show ([47, 46, 47, 113, 47, 46, 46, 47] : List UInt8).length = 8 from rfl] at zu
            obtain ⟨SU, hSU⟩ : ∃ SU, (⟨(t ++ [47, 46, 47, 113, 47, 46, 46, 47]).toArray⟩ : ByteArray) = SU := ⟨_, rfl⟩
            rw [hSU] at HQ0 zu
            rw [hST] at HQ0
            have hq0 : ST ++ ⟨#[47, 46, 47, 113, 47, 46, 46, 47]⟩ = SU := HQ0.out
            have n0 : ¬ 9223372036854775807 < t.length + 8 := by omega
            have s0 : (⟨#[47, 46, 47, 113, 47, 46, 46, 47]⟩ : ByteArray).size = 8 := rfl
            have HG := Lib.hid (going_name HR.out hl4 hlt HN.out 4)
            rw [show t ++ jn (fil 4) = t ++ [47, 46, 47, 113, 47, 46, 46, 47] by simp [jn, fil]] at HG
            obtain ⟨b, off, rfl, hbB, h0⟩ := (HE.out.below hbr) k hlt
            have hx : (l.getD k []).length ≤ 60 := H60.out _ (by simp only [List.getD, List.getElem?_eq_getElem hlt, Option.getD_some]; exact List.getElem_mem hlt)
            generalize l.getD k [] = x at *
            have HQ1 := Lib.hid (ba_append [47] x)
            have HQ2 := Lib.hid (ba_append (t ++ [47, 46, 47, 113, 47, 46, 46, 47]) (47 :: x))
            have z1 := ba_size x
            have z3 := ba_size (47 :: x)
            rw [List.length_cons] at z3
            have z4 := HG.out.choose_spec.2.2.2.1
            obtain ⟨SX, hSX⟩ : ∃ SX, (⟨x.toArray⟩ : ByteArray) = SX := ⟨_, rfl⟩
            obtain ⟨SY, hSY⟩ : ∃ SY, (⟨(47 :: x).toArray⟩ : ByteArray) = SY := ⟨_, rfl⟩
            obtain ⟨SZ, hSZ⟩ : ∃ SZ, (⟨(t ++ [47, 46, 47, 113, 47, 46, 46, 47] ++ 47 :: x).toArray⟩ : ByteArray) = SZ := ⟨_, rfl⟩
            rw [show ([47] : List UInt8) ++ x = 47 :: x from rfl, hSX, hSY] at HQ1
            rw [hSX] at h0 z1
            rw [hSY] at z3
            rw [hSY, hSU, hSZ] at HQ2
            have hq1 : (⟨#[47]⟩ : ByteArray) ++ SX = SY := HQ1.out
            have hq2 : SU ++ SY = SZ := HQ2.out
            have HSZ := Lib.hid hSZ
            have n1 : ¬ 9223372036854775807 < 1 + x.length := by omega
            have n2 : ¬ 9223372036854775807 < t.length + 8 + (x.length + 1) := by omega
            have s1 : (⟨#[47]⟩ : ByteArray).size = 1 := rfl
            have hlk : (k : Int) < (l.length : Int) := by omega
            clear HQ1 HQ2 hSX hSY hSZ hST hSU HQ0
            go_wp2
            go_roundw
            case rel => exact ⟨k + 1, t ++ [47, 46, 47, 113, 47, 46, 46, 47] ++ 47 :: x, by go_num, by rw [HSZ.out], by omega, by omega, Lib.hid ⟨fun _ => HG.out, fun h => absurd h (by omega)⟩, hbr⟩
            case measure => simp [intOf]; omega
          · obtain rfl : k = l.length := by omega
            have HQ0 := Lib.hid (ba_append t [47, 46, 47, 113, 47, 46, 46, 47])
            have zu := ba_size (t ++ [47, 46, 47, 113, 47, 46, 46, 47])
            rw [List.length_append, show ([47, 46, 47, 113, 47, 46, 46, 47] : List UInt8).length = 8 from rfl] at zu
            obtain ⟨SU, hSU⟩ : ∃ SU, (⟨(t ++ [47, 46, 47, 113, 47, 46, 46, 47]).toArray⟩ : ByteArray) = SU := ⟨_, rfl⟩
            rw [hSU] at HQ0 zu
            rw [hST] at HQ0
            have hq0 : ST ++ ⟨#[47, 46, 47, 113, 47, 46, 46, 47]⟩ = SU := HQ0.out
            have n0 : ¬ 9223372036854775807 < t.length + 8 := by omega
            have s0 : (⟨#[47, 46, 47, 113, 47, 46, 46, 47]⟩ : ByteArray).size = 8 := rfl
            have HF := Lib.hid (going_end (l := l) (t := t) HR.out hl4 4)
            rw [show t ++ jn (fil 4) = t ++ [47, 46, 47, 113, 47, 46, 46, 47] by simp [jn, fil]] at HF
            have z4 := HF.out.1
            have hlk : ¬ (l.length : Int) < (l.length : Int) := by omega
            have HSU := Lib.hid hSU

            clear hST hSU HQ0
            go_wp2
            go_roundw
            case rel => exact ⟨l.length + 1, t ++ [47, 46, 47, 113, 47, 46, 46, 47], by go_num, by rw [HSU.out], by omega, by omega, Lib.hid ⟨fun h => absurd h (by omega), fun _ => HF.out⟩, hbr⟩
            case measure => simp [intOf]
      · have hkf' : ¬ (k : Int) < (f.length : Int) := by omega
        by_cases hlt : k < l.length
        · have HG := Lib.hid (going_name HR.out hl4 hlt HN.out 0)
          rw [show t ++ jn (fil 0) = t by simp [jn, fil]] at HG
          obtain ⟨b, off, rfl, hbB, h0⟩ := (HE.out.below hbr) k hlt
          have hx : (l.getD k []).length ≤ 60 := H60.out _ (by simp only [List.getD, List.getElem?_eq_getElem hlt, Option.getD_some]; exact List.getElem_mem hlt)
          generalize l.getD k [] = x at *
          have HQ1 := Lib.hid (ba_append [47] x)
          have HQ2 := Lib.hid (ba_append (t) (47 :: x))
          have z1 := ba_size x
          have z3 := ba_size (47 :: x)
          rw [List.length_cons] at z3
          have z4 := HG.out.choose_spec.2.2.2.1
          obtain ⟨SX, hSX⟩ : ∃ SX, (⟨x.toArray⟩ : ByteArray) = SX := ⟨_, rfl⟩
          obtain ⟨SY, hSY⟩ : ∃ SY, (⟨(47 :: x).toArray⟩ : ByteArray) = SY := ⟨_, rfl⟩
          obtain ⟨SZ, hSZ⟩ : ∃ SZ, (⟨(t ++ 47 :: x).toArray⟩ : ByteArray) = SZ := ⟨_, rfl⟩
          rw [show ([47] : List UInt8) ++ x = 47 :: x from rfl, hSX, hSY] at HQ1
          rw [hSX] at h0 z1
          rw [hSY] at z3
          rw [hSY, hST, hSZ] at HQ2
          have hq1 : (⟨#[47]⟩ : ByteArray) ++ SX = SY := HQ1.out
          have hq2 : ST ++ SY = SZ := HQ2.out
          have HSZ := Lib.hid hSZ
          have n1 : ¬ 9223372036854775807 < 1 + x.length := by omega
          have n2 : ¬ 9223372036854775807 < t.length + (x.length + 1) := by omega
          have s1 : (⟨#[47]⟩ : ByteArray).size = 1 := rfl
          have hlk : (k : Int) < (l.length : Int) := by omega
          clear HQ1 HQ2 hSX hSY hSZ hST 
          go_wp2
          go_roundw
          case rel => exact ⟨k + 1, t ++ 47 :: x, by go_num, by rw [HSZ.out], by omega, by omega, Lib.hid ⟨fun _ => HG.out, fun h => absurd h (by omega)⟩, hbr⟩
          case measure => simp [intOf]; omega
        · obtain rfl : k = l.length := by omega
          have HF := Lib.hid (going_end (l := l) (t := t) HR.out hl4 0)
          rw [show t ++ jn (fil 0) = t by simp [jn, fil]] at HF
          have z4 := HF.out.1
          have hlk : ¬ (l.length : Int) < (l.length : Int) := by omega

          have HST := Lib.hid hST
          clear hST 
          go_wp2
          go_roundw
          case rel => exact ⟨l.length + 1, t, by go_num, by rw [HST.out], by omega, by omega, Lib.hid ⟨fun h => absurd h (by omega), fun _ => HF.out⟩, hbr⟩
          case measure => simp [intOf]
    · obtain rfl : k = l.length + 1 := by omega
      have HFIN := Lib.hid (HRR.out.2 rfl)
      have hz : ((⟨t.toArray⟩ : ByteArray).toList == []) = decide (t = []) := by
        rw [ba_toList, Bool.eq_iff_iff, beq_iff_eq, decide_eq_true_iff]
      have hle' : ¬ ((l.length + 1 : Nat) : Int) ≤ (l.length : Int) := by omega
      have HS1 := Lib.hid (Rds.more (Rds.ext HS13.out (Nat.le_refl _) hbr) hbr.size)
      have d4 := d3.trans (hbr.mono d3.size)
      clear HRR HE HFE
      by_cases h0 : t = []
      · rw [decide_eq_true h0] at hz
        have hpt := HFIN.out.2
        rw [if_pos h0] at hpt
        have HPT := Lib.hid (parse_any [47])
        rw [hpt] at HPT
        dsimp only at HPT
        generalize (⟨t.toArray⟩ : ByteArray) = ST at *
        clear h0 hpt
        go_wp2_with fail
        refine (HPA.out wr (by omega)).mono ?_
        rintro e w5 ⟨u5, rfl, hs5, b5⟩
        obtain ⟨A5, c5, rfl, _, _, _⟩ := hs5.open_
        have hs15 := (Rds.ext HS1.out (Nat.le_refl _) b5).more b5.size
        have d5 := d4.trans (b5.mono d4.size)
        clear b5 HPA HS1
        go_wp2_with fail
        refine (HPT.out w5 (by decide)).mono ?_
        rintro e w6 ⟨u6, rfl, hs6, b6⟩
        obtain ⟨A6, c6, rfl, _, _, _⟩ := hs6.open_
        have hs16 := (hs15.ext (Nat.le_refl _) b6).more b6.size
        have hs56 := (Rds.ext hs5 (Nat.le_refl _) b6).more b6.size
        have d6 := d5.trans (b6.mono d5.size)
        clear b6 HPT hs15 hs5
        go_wp2_with fail
        refine (sameR_any _ _ l l w6 hs56 hs6 (by omega)).mono ?_
        rintro e w7 ⟨rfl, b7⟩
        rw [decide_eq_true (rfl : l = l)]
        have hs17 := (hs16.ext (Nat.le_refl _) b7).more b7.size
        have hs57 := (hs56.ext (Nat.le_refl _) b7).more b7.size
        have d7 := d6.trans (b7.mono d6.size)
        clear b7 hs16 hs56 hs6
        go_wp2_with fail
        refine (sameR_any _ _ l l w7 hs57 hs17 (by omega)).mono ?_
        rintro e w8 ⟨rfl, b8⟩
        rw [decide_eq_true (rfl : l = l)]
        have d8 := d7.trans (b8.mono d7.size)
        clear b8 hs17 hs57
        go_wp2_with fail
        refine (awake_any w8).mono ?_
        rintro e w9 ⟨rfl, b9⟩
        go_wp2
        go_ret
        exact ⟨rfl, d8.trans (b9.mono d8.size)⟩
      · rw [decide_eq_false h0] at hz
        have hpt := HFIN.out.2
        rw [if_neg h0] at hpt
        have HPT := Lib.hid (parse_any t)
        rw [hpt] at HPT
        dsimp only at HPT
        generalize (⟨t.toArray⟩ : ByteArray) = ST at *
        clear h0 hpt
        go_wp2_with fail
        refine (HPA.out wr (by omega)).mono ?_
        rintro e w5 ⟨u5, rfl, hs5, b5⟩
        obtain ⟨A5, c5, rfl, _, _, _⟩ := hs5.open_
        have hs15 := (Rds.ext HS1.out (Nat.le_refl _) b5).more b5.size
        have d5 := d4.trans (b5.mono d4.size)
        clear b5 HPA HS1
        go_wp2_with fail
        refine (HPT.out w5 (by omega)).mono ?_
        rintro e w6 ⟨u6, rfl, hs6, b6⟩
        obtain ⟨A6, c6, rfl, _, _, _⟩ := hs6.open_
        have hs16 := (hs15.ext (Nat.le_refl _) b6).more b6.size
        have hs56 := (Rds.ext hs5 (Nat.le_refl _) b6).more b6.size
        have d6 := d5.trans (b6.mono d5.size)
        clear b6 HPT hs15 hs5
        go_wp2_with fail
        refine (sameR_any _ _ l l w6 hs56 hs6 (by omega)).mono ?_
        rintro e w7 ⟨rfl, b7⟩
        rw [decide_eq_true (rfl : l = l)]
        have hs17 := (hs16.ext (Nat.le_refl _) b7).more b7.size
        have hs57 := (hs56.ext (Nat.le_refl _) b7).more b7.size
        have d7 := d6.trans (b7.mono d6.size)
        clear b7 hs16 hs56 hs6
        go_wp2_with fail
        refine (sameR_any _ _ l l w7 hs57 hs17 (by omega)).mono ?_
        rintro e w8 ⟨rfl, b8⟩
        rw [decide_eq_true (rfl : l = l)]
        have d8 := d7.trans (b8.mono d7.size)
        clear b8 hs17 hs57
        go_wp2_with fail
        refine (awake_any w8).mono ?_
        rintro e w9 ⟨rfl, b9⟩
        go_wp2
        go_ret
        exact ⟨rfl, d8.trans (b9.mono d8.size)⟩
/-- What the walk gives, for every argument and every world that holds the table. -/
theorem pathSame_contract (H : Type) (enc : TypeId × Value → H) (W : World) (base : Nat) (args : Array Value) (ds gs : List (DataW H)) (before : List MemPlace)
    (hval : ∀ (j : Nat) t v, Try.f5.params[j]? = some t → args[j]? = some v → Value.okWide Try.prog W .any base t v)
    (hW : DataW.Whole enc Try.prog Try.f5.params.toList Rows.pathSameSpec.vars false W args.toList ds gs before) :
    Calls Try.prog 5 args W fun e W' => ∃ v, e = .returned v ∧ Rows.pathSameSpec.post enc Try.prog Try.f5 false true false false W args v W' := by
  have hW' := hW
  obtain ⟨p, q, hA0, hV, hps, hfz, hnd⟩ := hW
  have hA : DataW.TrodAll enc Try.prog W 0 (fun _ => true) true Try.f5.params.toList args.toList ds p := hA0
  rw [Try.params5] at hA hval
  obtain ⟨v0, vs0, d0, ds0, p0, q0, hargs, rfl, rfl, h0, r0⟩ := trodAll_cons hA
  obtain ⟨v1, vs1, d1, ds1, p1, q1, rfl, rfl, rfl, h1, r1⟩ := trodAll_cons r0
  obtain ⟨rfl, rfl, rfl⟩ := trodAll_nil r1
  obtain rfl : args = #[v0, v1] := by cases args; simp_all
  obtain ⟨rfl, rfl⟩ := trodVars_none hV
  obtain ⟨l0, b0⟩ := strs_of_trod (hval 0 23 v0 rfl rfl) h0
  obtain ⟨l1, b1⟩ := bs_of_trod Try.underlying36 Try.underlying5 cellsU8 (hval 1 36 v1 rfl rfl) h1
  clear hA0
  refine (pathSame_walk W v0 v1 l0 l1 b0 b1).mono fun e W' ⟨he, hb⟩ => ?_
  subst he
  exact ⟨_, rfl, law_post laidOut (by rw [Try.params5]; decide +kernel) rfl Try.underlying4 rfl rfl hW' hb⟩

set_option maxRecDepth 100000 in
theorem pathSame_lifted (os : Os) (started : os.Started) (H : Type) (enc : TypeId × Value → H) :
    ReturnsInHanded {} Try.checked os 5 .any (Rows.pathSameSpec.pre6 enc Try.prog Try.f5 Rows.pathSameRow.domain false) (Rows.pathSameSpec.post enc Try.prog Try.f5 false true false false) := by
  refine returnsInHanded_of_change (C := Try.checked) own started (by kernel_rfl) Try.func5
    (ChangeSpec.witness6 (enc := enc) (C := Try.checked) false ⟨#[], #[.slice none 0 0, .slice none 0 0], []⟩ 8 (by kernel_rfl) (by kernel_rfl) (by kernel_rfl) (by kernel_rfl)) ?_
  intro W base args ds gs before hval hW _ _
  exact pathSame_contract H enc W base args ds gs before hval hW

theorem pathSame_holds : Rows.PathSameSaid :=
  OpenClaim.holds_of_wide 5 Try.f5 rfl rfl rfl rfl rfl rfl rfl ⟨rfl, rfl, rfl, rfl, rfl⟩ rfl rfl rfl rfl rfl (by kernel_rfl) Try.func5 (by kernel_rfl)
    (of_decide_eq_true (by kernel_rfl)) (by unfold Func.isWrapper; first | (rw [if_pos (by decide +kernel)]; kernel_rfl) | (rw [if_neg (by decide +kernel)]; exact ⟨rfl, rfl⟩))
    (fun os started H enc _ => pathSame_lifted os started H enc)

end Go.Proofs.Ytahcbgllnoopgaa
