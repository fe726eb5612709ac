/-
  Parse of package path. By an AI agent.
-/
import Derived.Laws.EntriesVeiled
import Derived.Test.YtahcbgllnoopgaaPaI
import Derived.Test.YtahcbgllnoopgaaPaC
namespace Go.Proofs.Ytahcbgllnoopgaa
open Go.RowKit Go.ChangeShapes Go.WideShapes Go.ChangeAt

attribute [local go_sem] Oper.semAt_some

theorem ownFrom_blk {β : Type} (B g : Nat) (t : TypeId) (f : β → List Value) : OwnFrom B (fun s W => Blk W g t (f s)) := fun s A W row hs hg hr =>
  hs.grown hg (fun e => by
    obtain ⟨_, o, ho, hc⟩ := hr g e.symm
    have h1 : A.heap[g]? = some (.cells (f s).toArray t (0, 0)) := hs
    rw [h1] at ho
    cases ho
    cases hc)
theorem ownFrom_row {β : Type} (B base g : Nat) (t e : TypeId) (sz : Nat) (k : β → Nat) (f : β → List Value) (cs : β → Value → List Value) : OwnFrom B (fun s W => ∃ v, Blk W g t (cs s v) ∧ W.ownsRow base e sz v (k s) (f s)) := by
  rintro s A W row ⟨v, hv, ho⟩ hg hr
  refine ⟨v, ownFrom_blk B g t (fun (_ : Unit) => cs s v) () A W row hv hg hr, ho.kept hg ?_⟩
  rcases ho.2 with ⟨rfl, _⟩ | ⟨g', cap, cur, rfl, _, hgb, _⟩
  · exact .inl rfl
  · refine .inr fun er => ?_
    obtain ⟨_, o, ho2, hc⟩ := hr g' er.symm
    rw [hgb] at ho2
    cases ho2
    cases hc
theorem grown_set1 (w : World) (b i : Nat) (v : Value) : w.grownBy (w.setCell ⟨b, i, none⟩ v) (some b) := grown_setCells [v] w i
theorem own_far {w : World} {g : Nat} {t : TypeId} {cs : List Value} {base : Nat} {e : TypeId} {sz n : Nat} {v : Value} {xs : List Value} (h : w.ownsRow base e sz v n xs) (hg : Blk w g t cs) (hne : e ≠ t) (i : Nat) (u : Value) : (w.setCell ⟨g, i, none⟩ u).ownsRow base e sz v n xs :=
  h.kept (grown_set1 w g i u) (.inr (fun e => own_blk_ne h hg hne e.symm))
theorem own_cells {w : World} {base : Nat} {e : TypeId} {sz n : Nat} {v : Value} {xs : List Value} (h : w.ownsRow base e sz v n xs) : ∀ (j : Nat) (o : Obj), v.ownBlock = some j → w.heap[j]? = some o → o.isCells = true := fun j o e ho => by
  rcases h.2 with ⟨rfl, _⟩ | ⟨g', cap', cur, rfl, _, hgb, _⟩
  · cases e
  · cases e
    rw [hgb] at ho
    cases ho
    rfl

theorem res_pa {W : World} {g h : Nat} {v : Value} {er : Int} (k2 : Blk W g 23 [v]) (k3 : Blk W h 24 [.int .i64 er]) (tmps : Array Value) (h2 : tmps.getD 2 undef = .pointer (some ⟨g, 0, none⟩)) (h3 : tmps.getD 3 undef = .pointer (some ⟨h, 0, none⟩)) :
    (results Try.f8 tmps).run Try.prog W = .ok (.tuple #[v, .int .i64 er]) W := by
  have hc : W.cell? ⟨g, 0, none⟩ = some v := k2.cell 0
  have hc2 : W.cell? ⟨h, 0, none⟩ = some (.int .i64 er) := k3.cell 0
  have hl : (loadVar 23 ⟨g, 0, none⟩).run Try.prog W = .ok v W := by simp [go_sem, hc]
  have hl2 : (loadVar 24 ⟨h, 0, none⟩).run Try.prog W = .ok (.int .i64 er) W := by simp [go_sem, hc2]
  rw [Array.getD_eq_getD_getElem?] at h2 h3
  unfold results
  rw [Try.results8]
  simp [h2, h3, hl, hl2, asAddr]

/-- next: can a piece be the next name? -/
def nextE (pc : Pa.N) (n : Nat) : Nat := if Tl.isN pc then (if 8 ≤ n then 16 else 0) else 11
set_option maxHeartbeats 1000000 in
theorem nextP_any (pc : Pa.N) (g n c : Nat) (A : Option Addr) (w : World) (hpl : pc.length < 1099511627776) (hg : g < w.heap.size) (hc : w.cell? ⟨g, 0, none⟩ = some (.slice A n c)) :
    Calls Try.prog 20 #[.string ⟨pc.toArray⟩, .pointer (some ⟨g, 0, none⟩)] w fun e w' => e = .returned (.int .i64 (nextE pc n : Nat)) ∧ Below w.heap.size w w' := by
  have HI := Lib.hid (is_any pc)
  have HN := Lib.hid (show nextE pc n = if Tl.isN pc then (if 8 ≤ n then 16 else 0) else 11 from rfl)
  generalize (⟨pc.toArray⟩ : ByteArray) = S at *
  go_enter Try.func20, Try.ntmps20
  go_wp2_with fail
  refine (HI.out w hpl).mono ?_
  rintro e w1 ⟨rfl, b1⟩
  have hc1 := (b1.cell (p := ⟨g, 0, none⟩) hg).trans hc
  clear hc HI
  cases hi : Tl.isN pc with
  | false =>
    rw [hi, if_neg (by decide)] at HN
    clear hi
    go_wp2
    go_ret
    exact ⟨by rw [HN.out]; rfl, b1⟩
  | true =>
    rw [hi, if_pos rfl] at HN
    clear hi
    by_cases h8 : 8 ≤ n
    · have h8' : (8 : Int) ≤ (n : Int) := by omega
      rw [if_pos h8] at HN
      go_wp2
      go_ret
      exact ⟨by rw [HN.out]; rfl, b1⟩
    · have h8' : ¬ (8 : Int) ≤ (n : Int) := by omega
      rw [if_neg h8] at HN
      go_wp2
      go_ret
      exact ⟨by rw [HN.out]; rfl, b1⟩

abbrev nsP (pre : List Piece) : List Pa.N := (Pa.ps (pre.map (·.1))).1
abbrev erP (pre : List Piece) : Nat := (Pa.ps (pre.map (·.1))).2

theorem row_px {W : World} {base g : Nat} {px : List Piece} {v : Value} {ms : List Pa.N} (h : Pa.ps (px.map (·.1)) = (ms, 0)) (hb : Blk W g 23 [v]) (ho : W.ownsRow base 9 1 v ms.length (strs ms)) :
    ∃ v, Blk W g 23 [v] ∧ W.ownsRow base 9 1 v (nsP px).length (strs (nsP px)) := ⟨v, hb, by unfold nsP; rw [h]; exact ho⟩
theorem er_px {px : List Piece} {ms : List Pa.N} {k : Nat} (h : Pa.ps (px.map (·.1)) = (ms, k)) : erP px = k := by unfold erP; rw [h]

set_option maxRecDepth 100000 in
set_option maxHeartbeats 4000000 in
theorem parse_in (b : List UInt8) (w : World) (hbl : b.length ≤ 1000000) :
    CallsIn Fence.wide 9 Try.prog 8 #[.string ⟨b.toArray⟩] w fun r w' => ∃ u, r = .returned (.tuple #[u, .int .i64 ((Pa.parse b).2 : Nat)]) ∧ Strs w' w'.heap.size u (Pa.parse b).1 ∧ Below w.heap.size w w' := by
  have HP := Lib.hid (show Pa.parse b = if preB b = true then (if 200 < b.length then ([], 16) else Pa.ps (Pa.cut b)) else ([], 11) by unfold Pa.parse preB; simp)
  have HQ := Lib.hid (Pa.ps_comps b)
  have HH := Lib.hid (hasPre_any b)
  have hsz := ba_size b
  refine callsIn_of_wp_marks Try.func8 rfl trivial ?_ rfl
  simp only [Try.ntmps8, List.size_toArray, List.length_cons, List.length_nil, Nat.reduceAdd, Nat.reduceSub, Array.replicate_succ, Array.replicate_zero, List.push_toArray, List.append_toArray, List.nil_append, List.cons_append]
  obtain ⟨S, hS⟩ : ∃ S, (⟨b.toArray⟩ : ByteArray) = S := ⟨_, rfl⟩
  rw [hS] at HH hsz ⊢
  have HS := Lib.hid hS
  clear hS
  have k2 := (Blk.new w 23 #[.slice none 0 0]).alloc (.cells #[.int .i64 0] 24)
  have k3 := Blk.new (w.alloc (.cells #[.slice none 0 0] 23)) 24 #[.int .i64 0]
  have hb0 := ((Below.refl w.heap.size w).alloc (Nat.le_refl _) (.cells #[.slice none 0 0] 23)).alloc (by simp) (.cells #[.int .i64 0] 24)
  rw [World.size_alloc] at k3
  gi_wp2_with fail
  refine ⟨trivial, ?_⟩
  obtain ⟨w0, hw0⟩ : ∃ w0, (w.alloc (.cells #[.slice none 0 0] 23)).alloc (.cells #[.int .i64 0] 24) = w0 := ⟨_, rfl⟩
  rw [hw0] at k2 k3 hb0 ⊢
  clear hw0
  refine (callsIn_wide.2 (HH.out w0)).mono ?_
  rintro e w1 ⟨rfl, rfl⟩
  by_cases hpre : preB b = true
  rotate_left
  · have hpf : preB b = false := by simpa using hpre
    rw [if_neg hpre] at HP
    rw [hpf]
    have c2 := k2.cell 0
    have c3 := k3.cell 0
    have f2 := k2.frozen 0
    have f3 := k3.frozen 0
    clear hpre hpf HQ HH
    gi_wp2
    have z2 := (k2.set_ 0 (.slice none 0 0)).far (p := ⟨w.heap.size + 1, 0, none⟩) (by simp) (.int .i64 11)
    have z3 := (k3.far (p := ⟨w.heap.size, 0, none⟩) (by simp) (.slice none 0 0)).set_ 0 (.int .i64 11)
    have zb := (hb0.setCell (p := ⟨w.heap.size, 0, none⟩) (by simp) (.slice none 0 0)).setCell (p := ⟨w.heap.size + 1, 0, none⟩) (by simp) (.int .i64 11)
    exact ⟨_, res_pa z2 z3 _ rfl rfl, .slice none 0 0, by rw [HP.out]; rfl, by rw [HP.out]; exact Strs.nil_ _ _, zb⟩
  rw [if_pos hpre] at HP
  rw [hpre]
  have HQ2 := Lib.hid (HQ.out (by simpa [preB] using hpre))
  clear HQ HH hpre
  by_cases h200 : 200 < b.length
  · have h2 : (200 : Int) < (b.length : Int) := by omega
    rw [if_pos h200] at HP
    have c2 := k2.cell 0
    have c3 := k3.cell 0
    have f2 := k2.frozen 0
    have f3 := k3.frozen 0
    clear h200 HQ2
    gi_wp2
    have z2 := (k2.set_ 0 (.slice none 0 0)).far (p := ⟨w.heap.size + 1, 0, none⟩) (by simp) (.int .i64 16)
    have z3 := (k3.far (p := ⟨w.heap.size, 0, none⟩) (by simp) (.slice none 0 0)).set_ 0 (.int .i64 16)
    have zb := (hb0.setCell (p := ⟨w.heap.size, 0, none⟩) (by simp) (.slice none 0 0)).setCell (p := ⟨w.heap.size + 1, 0, none⟩) (by simp) (.int .i64 16)
    exact ⟨_, res_pa z2 z3 _ rfl rfl, .slice none 0 0, by rw [HP.out]; rfl, by rw [HP.out]; exact Strs.nil_ _ _, zb⟩
  have h2 : ¬ (200 : Int) < (b.length : Int) := by omega
  rw [if_neg h200] at HP
  clear h200
  have hs1 := k3.lt
  obtain ⟨g4, hg4⟩ : ∃ g4, w1.heap.size = g4 := ⟨_, rfl⟩
  have k4 := ((Blk.new w1 23 #[.slice none 0 0]).alloc (.cells #[.func (.func 20) #[] #[.pointer (some ⟨g4, 0, none⟩)]] 44)).alloc (.cells #[.string S] 9)
  have k5 := (Blk.new (w1.alloc (.cells #[.slice none 0 0] 23)) 44 #[.func (.func 20) #[] #[.pointer (some ⟨g4, 0, none⟩)]]).alloc (.cells #[.string S] 9)
  have k6 := Blk.new ((w1.alloc (.cells #[.slice none 0 0] 23)).alloc (.cells #[.func (.func 20) #[] #[.pointer (some ⟨g4, 0, none⟩)]] 44)) 9 #[.string S]
  have j2 := ((k2.alloc (.cells #[.slice none 0 0] 23)).alloc (.cells #[.func (.func 20) #[] #[.pointer (some ⟨g4, 0, none⟩)]] 44)).alloc (.cells #[.string S] 9)
  have j3 := ((k3.alloc (.cells #[.slice none 0 0] 23)).alloc (.cells #[.func (.func 20) #[] #[.pointer (some ⟨g4, 0, none⟩)]] 44)).alloc (.cells #[.string S] 9)
  have hbz := ((hb0.alloc (by omega) (.cells #[.slice none 0 0] 23)).alloc (by simp; omega) (.cells #[.func (.func 20) #[] #[.pointer (some ⟨g4, 0, none⟩)]] 44)).alloc (by simp; omega) (.cells #[.string S] 9)
  rw [World.size_alloc] at k5
  rw [World.size_alloc, World.size_alloc] at k6
  have hszz : (((w1.alloc (.cells #[.slice none 0 0] 23)).alloc (.cells #[.func (.func 20) #[] #[.pointer (some ⟨g4, 0, none⟩)]] 44)).alloc (.cells #[.string S] 9)).heap.size = w1.heap.size + 3 := by simp
  have c5 : ((w1.alloc (.cells #[.slice none 0 0] 23)).alloc (.cells #[.nilFunc] 44)).cell? ⟨w1.heap.size + 1, 0, none⟩ = some .nilFunc := by
    have := (Blk.new (w1.alloc (.cells #[.slice none 0 0] 23)) 44 #[.nilFunc]).cell 0
    rw [World.size_alloc] at this
    exact this
  have f5 : ((w1.alloc (.cells #[.slice none 0 0] 23)).alloc (.cells #[.nilFunc] 44)).frozen? ⟨w1.heap.size + 1, 0, none⟩ = false := by
    have := (Blk.new (w1.alloc (.cells #[.slice none 0 0] 23)) 44 #[.nilFunc]).frozen 0
    rw [World.size_alloc] at this
    exact this
  rw [hg4] at k4 k5 k6 hszz c5 f5
  have K4 := Lib.hid k4
  have K5 := Lib.hid k5
  have K6 := Lib.hid k6
  have J2 := Lib.hid j2
  have J3 := Lib.hid j3
  have HBZ := Lib.hid hbz
  have HSZ := Lib.hid hszz
  clear k4 k5 k6 j2 j3 hbz hszz k2 k3 hb0
  gi_wp2_with (refine ⟨trivial, ?_⟩; gi_at_call 22; refine (callsIn_wide.2 (comps_any _ _)).mono ?_; rintro e w' ⟨rfl, rfl⟩)
  clear c5 f5
  obtain ⟨W0, hW0⟩ : ∃ W0, ((w1.alloc (.cells #[.slice none 0 0] 23)).alloc (.cells #[.func (.func 20) #[] #[.pointer (some ⟨g4, 0, none⟩)]] 44)).alloc (.cells #[.string S] 9) = W0 := ⟨_, rfl⟩
  rw [hW0] at K4 K5 K6 J2 J3 HBZ HSZ ⊢
  have k4 := K4.out
  have k5 := K5.out
  have k6 := K6.out
  have k2 := J2.out
  have k3 := J3.out
  have hwb := HBZ.out
  have hsz0 := HSZ.out
  clear hW0 K4 K5 K6 J2 J3 HBZ HSZ
  rw [hg4] at hs1
  clear hg4
  generalize hT : Act.mk _ _ = a0
  refine wpIn_rangeFunc_ownH rfl (by decide) (gf := 33) (lb := #[.pointer (some ⟨g4 + 1 + 1, 0, none⟩)]) (by subst hT; rfl) trivial (enters_of Try.func33 (by kernel_rfl) rfl)
    (comps_stops 8 (by decide) (g4 + 1 + 1) w.heap.size b hbl W0 (by omega) hwb.size (by rw [HS.out]; exact k6.cell 0)) belowK_t (belowK_b hwb.size) (Below.refl _ _) (fun _ => rfl)
    (fun pre W => (((((∃ v, Blk W g4 23 [v] ∧ W.ownsRow w.heap.size 9 1 v (nsP pre).length (strs (nsP pre))) ∧ Blk W w.heap.size 23 [.slice none 0 0]) ∧ Blk W (w.heap.size + 1) 24 [.int .i64 0]) ∧ Blk W (g4 + 1) 44 [.func (.func 20) #[] #[.pointer (some ⟨g4, 0, none⟩)]]) ∧ erP pre = 0) ∧ Below w.heap.size w W)
    (fun c pre W => (((c = .ret ∧ erP pre ≠ 0) ∧ Blk W w.heap.size 23 [.slice none 0 0]) ∧ Blk W (w.heap.size + 1) 24 [.int .i64 (erP pre : Nat)]) ∧ Below w.heap.size w W)
    (OwnFrom.and (OwnFrom.and (OwnFrom.and (OwnFrom.and (OwnFrom.and (ownFrom_row _ _ _ _ _ _ (fun pre : List Piece => (nsP pre).length) (fun pre => strs (nsP pre)) (fun _ v => [v])) (ownFrom_blk _ _ _ _)) (ownFrom_blk _ _ _ _)) (ownFrom_blk _ _ _ _)) (ownFrom_pure _ _)) (ownFrom_below (Nat.le_refl _) hwb.size))
    (fun c => OwnFrom.and (OwnFrom.and (OwnFrom.and (ownFrom_pure _ _) (ownFrom_blk _ _ _ _)) (ownFrom_blk _ _ _ (fun pre : List Piece => [.int .i64 (erP pre : Nat)]))) (ownFrom_below (Nat.le_refl _) hwb.size))
    ⟨⟨⟨⟨⟨⟨_, k4, World.ownsRow_nil _ _ _ _⟩, k2⟩, k3⟩, k5⟩, rfl⟩, hwb⟩
    (fun x a' _ => a' = { tmps := (a0.tmps.setIfInBounds 17 (.string ⟨x.1.toArray⟩)).setIfInBounds 6 (.string ⟨x.1.toArray⟩), defers := [] })
    (fun x a' => ownFrom_pure _ _)
    ?assign ?body ?done ?stop
  case assign =>
    rintro l9 pre x W K hI hK
    subst hT
    unfold encP at *
    dsimp only at *
    gi_wp2
    exact hK _ _ (KeepsFrom.refl _ _) (Below.refl _ _) hI rfl
  case body =>
    rintro l9 pre ⟨pc, hpl⟩ a' W hl9 ⟨r9, hr9⟩ ⟨⟨⟨⟨⟨⟨v, bv, hown⟩, k2v⟩, k3v⟩, k5v⟩, hpre⟩, hB1⟩ rfl hlt
    subst hT
    dsimp only
    simp only [List.setIfInBounds_toArray, List.set_cons_succ, List.set_cons_zero]
    have HPX := Lib.hid (show Pa.ps ((pre ++ [(⟨pc, hpl⟩ : Piece)]).map (·.1)) = Pa.step (Pa.ps (pre.map (·.1))) pc by rw [List.map_append]; exact Pa.ps_snoc _ _)
    have hg8 := (Pa.good_ps (pre.map (·.1))).1
    obtain ⟨ns, hns⟩ : ∃ ns, Pa.ps (pre.map (·.1)) = (ns, 0) := ⟨(Pa.ps (pre.map (·.1))).1, Prod.ext rfl hpre⟩
    unfold nsP at hown
    rw [hns] at HPX hg8 hown
    dsimp only at hg8 hown
    generalize pre ++ [(⟨pc, hpl⟩ : Piece)] = px at *
    obtain ⟨A, c, rfl⟩ := own_slice hown
    have c4 := bv.cell 0
    have f4 := bv.frozen 0
    clear hpre hlt hns k2 k3 k4 k5 k6 hr9
    have q0 := ba_eq pc []
    have q1 := ba_eq pc [46]
    have q2 := ba_eq pc [46, 46]
    have HNX := Lib.hid (nextP_any pc)
    obtain ⟨SC, hSC⟩ : ∃ SC, (⟨pc.toArray⟩ : ByteArray) = SC := ⟨_, rfl⟩
    rw [hSC] at q0 q1 q2 HNX
    have hSC' : (⟨List.toArray pc⟩ : ByteArray) = SC := hSC
    rw [hSC']
    have HSC := Lib.hid hSC
    clear hSC hSC'
    by_cases e0 : pc = []
    · have HE := Lib.hid (show Pa.ps (px.map (·.1)) = (ns, 0) by rw [HPX.out, step_skip ns pc (.inl e0)])
      rw [beq_iff_eq.2 e0] at q0
      clear e0 q1 q2 HNX HPX
      gi_wp2
      exact ⟨KeepsFrom.refl _ _, Below.refl _ _, ⟨⟨⟨⟨row_px HE.out bv hown, k2v⟩, k3v⟩, k5v⟩, er_px HE.out⟩, hB1⟩
    rw [beq_eq_false_iff_ne.2 e0] at q0
    by_cases e1 : pc = [46]
    · have HE := Lib.hid (show Pa.ps (px.map (·.1)) = (ns, 0) by rw [HPX.out, step_skip ns pc (.inr e1)])
      rw [beq_iff_eq.2 e1] at q1
      clear e0 e1 q2 HNX HPX
      gi_wp2
      exact ⟨KeepsFrom.refl _ _, Below.refl _ _, ⟨⟨⟨⟨row_px HE.out bv hown, k2v⟩, k3v⟩, k5v⟩, er_px HE.out⟩, hB1⟩
    rw [beq_eq_false_iff_ne.2 e1] at q1
    by_cases e2 : pc = [46, 46]
    · have HE := Lib.hid (show Pa.ps (px.map (·.1)) = (ns.dropLast, 0) by rw [HPX.out, e2, step_up])
      rw [beq_iff_eq.2 e2] at q2
      clear e0 e1 e2 HNX HPX HSC
      by_cases en : 0 < ns.length
      · have hhd := fun W => run_headS A ns.length c (ns.length - 1) (by have := hown; obtain ⟨_, _, h, _, _, _, _, h7, _⟩ := own_open this en; injection h with _ _ h; omega) ((ns.length : Int) - 1) (by omega) W
        have hsh := own_short hown (k := ns.length - 1) (by omega) en
        rw [strs_take, ← List.dropLast_eq_take] at hsh
        have hmx : max ((ns.length : Int) - 1) 0 = (ns.length : Int) - 1 := by omega
        gi_wp2
        have ho2 := own_far hsh bv (by decide) 0 (.slice A (ns.length - 1) c)
        have b2 : Blk _ g4 23 [.slice A (ns.length - 1) c] := bv.set_ 0 (.slice A (ns.length - 1) c)
        have k2b := k2v.far (p := ⟨g4, 0, none⟩) (by show w.heap.size ≠ g4; omega) (.slice A (ns.length - 1) c)
        have k3b := k3v.far (p := ⟨g4, 0, none⟩) (by show w.heap.size + 1 ≠ g4; omega) (.slice A (ns.length - 1) c)
        have k5b := k5v.far (p := ⟨g4, 0, none⟩) (by show g4 + 1 ≠ g4; omega) (.slice A (ns.length - 1) c)
        have hBn := (Below.refl w.heap.size W).setCell (p := ⟨g4, 0, none⟩) (by show w.heap.size ≤ g4; omega) (.slice A (ns.length - 1) c)
        exact ⟨(KeepsOthers.setCell W ⟨g4, 0, none⟩ (.slice A (ns.length - 1) c)).from _, hBn, ⟨⟨⟨⟨row_px HE.out b2 (by rw [List.length_dropLast]; exact ho2), k2b⟩, k3b⟩, k5b⟩, er_px HE.out⟩, hB1.trans hBn⟩
      · obtain rfl : ns = [] := List.length_eq_zero_iff.1 (by omega)
        have hhd := fun W => run_headS A 0 c 0 (Nat.zero_le _) (0 : Int) rfl W
        clear en
        gi_wp2
        have ho2 := own_far hown bv (by decide) 0 (.slice A 0 c)
        have b2 : Blk _ g4 23 [.slice A 0 c] := bv.set_ 0 (.slice A 0 c)
        have k2b := k2v.far (p := ⟨g4, 0, none⟩) (by show w.heap.size ≠ g4; omega) (.slice A 0 c)
        have k3b := k3v.far (p := ⟨g4, 0, none⟩) (by show w.heap.size + 1 ≠ g4; omega) (.slice A 0 c)
        have k5b := k5v.far (p := ⟨g4, 0, none⟩) (by show g4 + 1 ≠ g4; omega) (.slice A 0 c)
        have hBn := (Below.refl w.heap.size W).setCell (p := ⟨g4, 0, none⟩) (by show w.heap.size ≤ g4; omega) (.slice A 0 c)
        exact ⟨(KeepsOthers.setCell W ⟨g4, 0, none⟩ (.slice A 0 c)).from _, hBn, ⟨⟨⟨⟨row_px HE.out b2 ho2, k2b⟩, k3b⟩, k5b⟩, er_px HE.out⟩, hB1.trans hBn⟩
    rw [beq_eq_false_iff_ne.2 e2] at q2
    have hcase : (∃ er, nextE pc ns.length = er ∧ er ≠ 0 ∧ Pa.ps (px.map (·.1)) = ([], er)) ∨ (nextE pc ns.length = 0 ∧ ns.length < 8 ∧ Pa.ps (px.map (·.1)) = (ns ++ [pc], 0)) := by
      rw [HPX.out, step_name ns pc e0 e1 e2]
      unfold nextE
      cases Tl.isN pc with
      | false => exact .inl ⟨11, rfl, by decide, rfl⟩
      | true =>
        by_cases h8 : 8 ≤ ns.length
        · exact .inl ⟨16, by rw [if_pos rfl, if_pos h8], by decide, by rw [if_pos rfl, if_pos h8]⟩
        · exact .inr ⟨by rw [if_pos rfl, if_neg h8], by omega, by rw [if_pos rfl, if_neg h8]⟩
    have c5 := k5v.cell 0
    have HCASE := Lib.hid hcase
    clear e0 e1 e2 HPX hcase
    gi_wp2_with fail
    refine ⟨trivial, ?_⟩
    refine (calls_round (HNX.out g4 ns.length c A W hpl bv.lt c4)).mono ?_
    rintro e W1 ⟨rfl, hb⟩
    have bv1 := bv.ext hb
    have k2w := k2v.ext hb
    have k3w := k3v.ext hb
    have k5w := k5v.ext hb
    have hown1 := own_ext hown hb
    have hB2 := hB1.trans (hb.mono hB1.size)
    have hbm := hb.mono hB1.size
    have hko := KeepsOthers.of_grownBy (grown_of_below hb none) (fun j o e => by cases e)
    clear c4 c5 f4 bv k2v k3v k5v hown HNX hb
    generalize nextE pc ns.length = ne at *
    rcases HCASE.out with ⟨er, hne, her, hE⟩ | ⟨hne, h8, hE⟩
    · subst hne
      have HE := Lib.hid hE
      have hz : ((ne : Int) != 0) = true := by rw [bne_iff_ne]; omega
      have c2 := k2w.cell 0
      have c3 := k3w.cell 0
      have f2 := k2w.frozen 0
      have f3 := k3w.frozen 0
      clear hE HCASE
      gi_wp2
      have z2 := (k2w.set_ 0 (.slice none 0 0)).far (p := ⟨w.heap.size + 1, 0, none⟩) (by simp) (.int .i64 (ne : Int))
      have z3 := (k3w.far (p := ⟨w.heap.size, 0, none⟩) (by simp) (.slice none 0 0)).set_ 0 (.int .i64 (ne : Int))
      have zb := (hB2.setCell (p := ⟨w.heap.size, 0, none⟩) (by simp) (.slice none 0 0)).setCell (p := ⟨w.heap.size + 1, 0, none⟩) (by simp) (.int .i64 (ne : Int))
      have zk := (hko.trans (KeepsOthers.setCell W1 ⟨w.heap.size, 0, none⟩ (.slice none 0 0))).trans (KeepsOthers.setCell _ ⟨w.heap.size + 1, 0, none⟩ (.int .i64 (ne : Int)))
      exact ⟨zk.from _, ⟨⟨⟨rfl, by rw [er_px HE.out]; exact her⟩, z2⟩, by rw [er_px HE.out]; exact z3⟩, zb⟩
    · subst hne
      have HE := Lib.hid hE
      clear hE HCASE
      gi_upto_region 13 with fail
      refine region_round (by rintro ⟨_, _, h⟩; exact h) (by kernel_rfl) ?_
      have c4 := bv1.cell 0
      go_wp2_with (at_builtin; refine stop_ ?_)
      refine wpList_append_elem rfl _ _ rfl rfl rfl (by simp) Try.underlying23 infoStr rfl (by decide) hown1 rfl (by simp [Value.oneCell']) (by rw [maxLen_eq]; omega) (by omega) hB2.size ?_
      rintro v2 wb hownb hgrb
      have bvb := bv1.grown hgrb (own_blk_ne hown1 bv1 (by decide))
      have k2b := k2w.grown hgrb (own_blk_ne hown1 k2w (by decide))
      have k3b := k3w.grown hgrb (own_blk_ne hown1 k3w (by decide))
      have k5b := k5w.grown hgrb (own_blk_ne hown1 k5w (by decide))
      have hkob := hko.trans (KeepsOthers.of_grownBy hgrb (own_cells hown1))
      have hBb := hbm.grown hgrb hB2.size (fun j e => (hown1.lt j e).1)
      obtain ⟨A2, c2, rfl⟩ := own_slice hownb
      have cb := bvb.cell 0
      have fb := bvb.frozen 0
      clear hgrb hown1 c4 bv1 k2w k3w k5w hko hbm
      go_wp2
      have ho2 := own_far hownb bvb (by decide) 0 (.slice A2 (ns.length + 1) c2)
      have b2 : Blk _ g4 23 [.slice A2 (ns.length + 1) c2] := bvb.set_ 0 (.slice A2 (ns.length + 1) c2)
      have k2c := k2b.far (p := ⟨g4, 0, none⟩) (by show w.heap.size ≠ g4; omega) (.slice A2 (ns.length + 1) c2)
      have k3c := k3b.far (p := ⟨g4, 0, none⟩) (by show w.heap.size + 1 ≠ g4; omega) (.slice A2 (ns.length + 1) c2)
      have k5c := k5b.far (p := ⟨g4, 0, none⟩) (by show g4 + 1 ≠ g4; omega) (.slice A2 (ns.length + 1) c2)
      have hBn := hBb.setCell (p := ⟨g4, 0, none⟩) (by show w.heap.size ≤ g4; omega) (.slice A2 (ns.length + 1) c2)
      have zk := hkob.trans (KeepsOthers.setCell wb ⟨g4, 0, none⟩ (.slice A2 (ns.length + 1) c2))
      refine ⟨zk.from _, hBn, ⟨⟨⟨⟨row_px HE.out b2 ?_, k2c⟩, k3c⟩, k5c⟩, er_px HE.out⟩, hB1.trans hBn⟩
      rw [List.length_append, List.length_singleton, strs_app]
      rw [← HSC.out] at ho2
      exact ho2
  case done =>
    rintro D ys W hD hys ⟨⟨⟨⟨⟨⟨v, bv, hown⟩, k2v⟩, k3v⟩, k5v⟩, hpre⟩, hB1⟩ hK
    subst hT
    have hns : Pa.parse b = (nsP ys, 0) := by
      rw [HP.out, HQ2.out, ← hys]
      exact Prod.ext rfl hpre
    have HNS := Lib.hid hns
    clear hns hys hpre k2 k3 k4 k5 k6
    generalize nsP ys = ns at *
    obtain ⟨A, c, rfl⟩ := own_slice hown
    have c4 := bv.cell 0
    have c2 := k2v.cell 0
    have c3 := k3v.cell 0
    have f2 := k2v.frozen 0
    have f3 := k3v.frozen 0
    gi_wp2
    have z2 := (k2v.set_ 0 (.slice A ns.length c)).far (p := ⟨w.heap.size + 1, 0, none⟩) (by simp) (.int .i64 0)
    have z3 := (k3v.far (p := ⟨w.heap.size, 0, none⟩) (by simp) (.slice A ns.length c)).set_ 0 (.int .i64 0)
    have zb := (hB1.setCell (p := ⟨w.heap.size, 0, none⟩) (by simp) (.slice A ns.length c)).setCell (p := ⟨w.heap.size + 1, 0, none⟩) (by simp) (.int .i64 0)
    have zk := (KeepsOthers.setCell W ⟨w.heap.size, 0, none⟩ (.slice A ns.length c)).trans (KeepsOthers.setCell _ ⟨w.heap.size + 1, 0, none⟩ (.int .i64 0))
    have y3 := k3v.far (p := ⟨w.heap.size, 0, none⟩) (by simp) (.slice A ns.length c)
    have zo := own_far (own_far hown k2v (by decide) 0 (.slice A ns.length c)) y3 (by decide) 0 (.int .i64 0)
    have hK' := zk.same D _ hK rfl
    refine ⟨by simp, .inl ⟨_, _, rfl, run_takeDeferred hK', ?_⟩⟩
    have w2 := z2.grown (grownBy_putObj' _ D (.deferred none)) (fun e => by injection e with e; omega)
    have w3 := z3.grown (grownBy_putObj' _ D (.deferred none)) (fun e => by injection e with e; omega)
    have hfs : Strs _ _ (.slice A ns.length c) ns := Strs.of_own (ownsRow_putObj zo (.deferred none) hK' rfl)
    exact ⟨_, res_pa w2 w3 _ rfl rfl, _, by rw [HNS.out]; rfl, by rw [HNS.out]; exact hfs, zb.trans (belowK_b (w := w) (Nat.le_refl _) _ D _ _ (Nat.le_trans hwb.size hD) hK' rfl rfl)⟩
  case stop =>
    rintro D c9 pre W hD ⟨k, hk, hys⟩ ⟨⟨⟨⟨rfl, hpre⟩, k2v⟩, k3v⟩, hB1⟩ hK
    subst hT
    have hns : Pa.parse b = ([], erP pre) := by
      have hg := (Pa.good_ps (pre.map (·.1))).2.2.resolve_left hpre
      unfold erP at hpre ⊢
      rw [HP.out, HQ2.out, Pa.ps_take_bad (Pa.comps b) k (by rw [← hys]; exact hpre), ← hys]
      exact Prod.ext hg rfl
    have HNS := Lib.hid hns
    clear hns hys hpre k2 k3 k4 k5 k6
    generalize erP pre = er at *
    gi_wp2
    refine ⟨by simp, .inl ⟨_, _, rfl, run_takeDeferred hK, ?_⟩⟩
    have w2 := k2v.grown (grownBy_putObj' _ D (.deferred none)) (fun e => by injection e with e; omega)
    have w3 := k3v.grown (grownBy_putObj' _ D (.deferred none)) (fun e => by injection e with e; omega)
    exact ⟨_, res_pa w2 w3 _ rfl rfl, _, by rw [HNS.out], by rw [HNS.out]; exact Strs.nil_ _ _, hB1.trans (belowK_b (w := w) (Nat.le_refl _) _ D _ _ (Nat.le_trans hwb.size hD) hK rfl rfl)⟩
theorem parse_any (b : List UInt8) (w : World) (hbl : b.length ≤ 1000000) :
    Calls Try.prog 8 #[.string ⟨b.toArray⟩] w fun r w' => ∃ u, r = .returned (.tuple #[u, .int .i64 ((Pa.parse b).2 : Nat)]) ∧ Strs w' w'.heap.size u (Pa.parse b).1 ∧ Below w.heap.size w w' :=
  callsIn_wide.1 (parse_in b w hbl)
end Go.Proofs.Ytahcbgllnoopgaa
