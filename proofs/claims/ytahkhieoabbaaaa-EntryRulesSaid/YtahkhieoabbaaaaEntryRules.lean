/-
  EntryRules: whatever is found, added and taken away, in any entries, is the document's, or refused with its error; what was handed in stays. For every input.
-/
import Derived.Test.YtahkhieoabbaaaaEntO
import Derived.Test.YtahkhieoabbaaaaEntV
import Derived.Test.YtahkhieoabbaaaaEntU
import Derived.Test.YtahkhieoabbaaaaEntT
namespace Go.Proofs.Ytahkhieoabbaaaa
open Go.ChangeShapes Go.WideShapes Go.ChangeAt Go.RowKit Go.Lib
open Et (E)

theorem few_again (l : List E) : fewL (fewL l) = fewL l := by
  unfold fewL
  rw [← List.map_take, List.take_take, Nat.min_self, List.map_map]
  refine List.map_congr_left fun y _ => ?_
  show few1 (few1 y) = few1 y
  unfold few1
  rw [List.take_take, Nat.min_self]

theorem addRR_any (v : Value) (l : List E) (xn : List UInt8) (xi xt : Int) (w : World) (hl : Ents w w.heap.size v l) (hs : Short l) (hn : xn.length < 1099511627776) :
    Calls Try.prog 15 #[v, .agg #[.string ⟨xn.toArray⟩, .int .i64 xi, .int .i64 xt]] w fun e w' => ∃ u, e = .returned (.tuple #[u, .int .i64 (Et.addE l ⟨xn, xi, xt⟩)]) ∧ Ents w' w'.heap.size u (Et.addL l ⟨xn, xi, xt⟩) ∧ Below w.heap.size w w' := by
  by_cases h : Et.addE l ⟨xn, xi, xt⟩ = 0
  · exact addR_any v l xn xi xt w hl hs hn h
  · refine (addR_no v l xn xi xt w hl hs hn h).mono ?_
    rintro e w' ⟨rfl, hb⟩
    refine ⟨_, rfl, ?_, hb⟩
    have : Et.addL l ⟨xn, xi, xt⟩ = [] := if_neg h
    rw [this]
    exact Rds.nil_ _ _ _

set_option maxRecDepth 100000 in
set_option maxHeartbeats 8000000 in
theorem entryRules_walk (w : World) (v : Value) (l0 : List E) (x0 : E) (hl0 : Ents w w.heap.size v l0) :
    Calls Try.prog 4 #[v, eagg x0] w fun e w' => e = .returned (.bool true) ∧ Below w.heap.size w w' := by
  obtain ⟨A, c, rfl, hlc, hcm, _⟩ := hl0.open_
  obtain ⟨xn0, xi, xt⟩ := x0
  unfold eagg
  dsimp only
  have HL := Lib.hid hl0
  clear hl0
  have k0 := Blk.new w 28 #[.string ⟨xn0.toArray⟩, .int .i64 xi, .int .i64 xt]
  have b0 := (Below.refl w.heap.size w).alloc (Nat.le_refl _) (.cells #[.string ⟨xn0.toArray⟩, .int .i64 xi, .int .i64 xt] 28)
  go_enter Try.func4, Try.ntmps4
  go_wp2_with fail
  obtain ⟨w0, hw0⟩ : ∃ w0, w.alloc (.cells #[.string ⟨xn0.toArray⟩, .int .i64 xi, .int .i64 xt] 28) = w0 := ⟨_, rfl⟩
  rw [hw0] at k0 b0 ⊢
  clear hw0
  obtain ⟨g, hg⟩ : ∃ g, w.heap.size = g := ⟨_, rfl⟩
  rw [hg] at k0 ⊢
  have hgg : w.heap.size ≤ g := by omega
  clear hg
  refine (Few_any _ l0 w0 ((HL.out.below b0).more b0.size)).mono ?_
  rintro e w1 ⟨u1, rfl, ho1, b1⟩
  have HSH := Lib.hid (few_short l0)
  have hlen := few_len l0
  have HAG := Lib.hid (few_again l0)
  generalize fewL l0 = l at *
  have hgl := k0.lt
  have k1 := k0.ext b1
  have c1' := b0.trans (b1.mono b0.size)
  clear b1 k0 b0 hlc hcm HL
  obtain ⟨A1, c1, rfl⟩ := own_slice ho1
  have p0 : w1.cell? ⟨g, 0, none⟩ = some (.string ⟨xn0.toArray⟩) := k1.cell 0
  go_wp2_with fail
  refine (few_any xn0 w1).mono ?_
  rintro e w1x ⟨rfl, rfl⟩
  have hxn : (xn0.take 60).length < 1099511627776 := by have := List.length_take_le 60 xn0; omega
  generalize xn0.take 60 = xn at *
  have ef := k1.frozen
  have k2 := k1.set_ 0 (.string ⟨xn.toArray⟩)
  have ho2 := ownsRow_setCell_below ho1 (a := ⟨g, 0, none⟩) hgl (.string ⟨xn.toArray⟩)
  have c2' := c1'.setCell (p := ⟨g, 0, none⟩) hgg (.string ⟨xn.toArray⟩)
  have q0 : (w1.setCell ⟨g, 0, none⟩ (.string ⟨xn.toArray⟩)).cell? ⟨g, 0, none⟩ = some (.string ⟨xn.toArray⟩) := k2.cell 0
  have q1 : (w1.setCell ⟨g, 0, none⟩ (.string ⟨xn.toArray⟩)).cell? ⟨g, 1, none⟩ = some (.int .i64 xi) := k2.cell 1
  have q2 : (w1.setCell ⟨g, 0, none⟩ (.string ⟨xn.toArray⟩)).cell? ⟨g, 2, none⟩ = some (.int .i64 xt) := k2.cell 2
  clear c1' ho1 k1
  go_wp2_with fail
  generalize w1.setCell ⟨g, 0, none⟩ (.string ⟨xn.toArray⟩) = w2 at *
  clear p0 q0 q1 q2 ef
  have hl2 : Ents w2 w2.heap.size (.slice A1 l.length c1) l := Ents.of_own ho2 rfl rfl
  have k2' : Blk w2 g 28 [.string ⟨xn.toArray⟩, .int .i64 xi, .int .i64 xt] := k2
  clear ho2 k2
  obtain ⟨_, _, hse, hlc, hcm, _⟩ := hl2.open_
  cases hse
  obtain ⟨W, k, b, hl, hW⟩ : ∃ W, Blk W g 28 [.string ⟨xn.toArray⟩, .int .i64 xi, .int .i64 xt] ∧ Below w.heap.size w W ∧ Ents W W.heap.size (.slice A1 l.length c1) l ∧ w2 = W := ⟨_, k2', c2', hl2, rfl⟩
  rw [hW]
  clear hW k2' c2' hl2
  refine (Few_any _ l W hl).mono ?_
  rintro e w3 ⟨u3, rfl, ho3, b3⟩
  rw [HAG.out] at ho3
  obtain ⟨A3, c3, rfl⟩ := own_slice ho3
  have hw3 : Ents w3 w3.heap.size (.slice A3 l.length c3) l := Ents.of_own ho3 rfl rfl
  have hl3 := (hl.below b3).more b3.size
  have k3 := k.ext b3
  have cc3 := b.trans (b3.mono b.size)
  clear b3 ho3 k hl b HAG
  have p0 : w3.cell? ⟨g, 0, none⟩ = some (.string ⟨xn.toArray⟩) := k3.cell 0
  go_wp2_with fail
  refine (find_any _ l xn w3 hl3 HSH.out hxn).mono ?_
  rintro e w4 ⟨rfl, b4⟩
  have hl4 := (hl3.below b4).more b4.size
  have hw4 := (hw3.below b4).more b4.size
  have k4 := k3.ext b4
  have cc4 := cc3.trans (b4.mono cc3.size)
  clear b4 k3 hl3 hw3 cc3 p0
  obtain ⟨ff, hff⟩ : ∃ ff, Et.findL l xn = ff := ⟨_, rfl⟩
  obtain ⟨fe, hfe⟩ : ∃ fe, Et.srchE l xn = fe := ⟨_, rfl⟩
  rw [hff, hfe]
  have HFF := Lib.hid hff
  have HFE := Lib.hid hfe
  clear hff hfe
  obtain ⟨fn, fi, ft⟩ := ff
  unfold eagg
  dsimp only
  have k6 := Blk.new w4 28 #[.string ⟨fn.toArray⟩, .int .i64 fi, .int .i64 ft]
  have b5 := (Below.refl w4.heap.size w4).alloc (Nat.le_refl _) (.cells #[.string ⟨fn.toArray⟩, .int .i64 fi, .int .i64 ft] 28)
  have k5 := k4.ext b5
  have hl5 := (hl4.below b5).more b5.size
  have hw5 := (hw4.below b5).more b5.size
  have cc5 := cc4.trans (b5.mono cc4.size)
  have p0 : (w4.alloc (.cells #[.string ⟨fn.toArray⟩, .int .i64 fi, .int .i64 ft] 28)).cell? ⟨g, 0, none⟩ = some (.string ⟨xn.toArray⟩) := k5.cell 0
  clear b5 k4 hl4 hw4 cc4
  go_wp2_with fail
  obtain ⟨w5, hw5'⟩ : ∃ w5, w4.alloc (.cells #[.string ⟨fn.toArray⟩, .int .i64 fi, .int .i64 ft] 28) = w5 := ⟨_, rfl⟩
  rw [hw5'] at k6 k5 hl5 hw5 cc5 p0 ⊢
  clear hw5'
  obtain ⟨g6, hg6⟩ : ∃ g6, w4.heap.size = g6 := ⟨_, rfl⟩
  rw [hg6] at k6 ⊢
  clear hg6 p0
  refine (findR_any _ l xn w5 hl5 HSH.out hxn).mono ?_
  rintro e w7 ⟨rfl, b7⟩
  have hl7 := (hl5.below b7).more b7.size
  have hw7 := (hw5.below b7).more b7.size
  have k7 := k5.ext b7
  have k67 := k6.ext b7
  have cc7 := cc5.trans (b7.mono cc5.size)
  clear b7 k5 k6 hl5 hw5 cc5
  rw [HFF.out, HFE.out]
  unfold eagg
  dsimp only
  have k8 := Blk.new w7 28 #[.string ⟨fn.toArray⟩, .int .i64 fi, .int .i64 ft]
  have b9 := (Below.refl w7.heap.size w7).alloc (Nat.le_refl _) (.cells #[.string ⟨fn.toArray⟩, .int .i64 fi, .int .i64 ft] 28)
  have k9 := k7.ext b9
  have k69 := k67.ext b9
  have hl9 := (hl7.below b9).more b9.size
  have hw9 := (hw7.below b9).more b9.size
  have cc9 := cc7.trans (b9.mono cc7.size)
  have p0 := k9.cell 0
  have p1 := k9.cell 1
  have p2 := k9.cell 2
  have pl := k9.lt
  clear b9 k7 k67 hl7 hw7 cc7
  go_wp2_with fail
  obtain ⟨w9, hw9'⟩ : ∃ w9, w7.alloc (.cells #[.string ⟨fn.toArray⟩, .int .i64 fi, .int .i64 ft] 28) = w9 := ⟨_, rfl⟩
  rw [hw9'] at k8 k9 k69 hl9 hw9 cc9 p0 p1 p2 ⊢
  clear hw9'
  obtain ⟨g8, hg8⟩ : ∃ g8, w7.heap.size = g8 := ⟨_, rfl⟩
  rw [hg8] at k8 ⊢
  clear hg8 p0 p1 p2 pl
  refine (add_any _ l xn xi xt w9 hl9 HSH.out hxn).mono ?_
  rintro e w10 ⟨uc, rfl, hc10, b10⟩
  have hl10 := (hl9.below b10).more b10.size
  have hw10 := (hw9.below b10).more b10.size
  have k10 := k9.ext b10
  have k610 := k69.ext b10
  have k810 := k8.ext b10
  have cc10 := cc9.trans (b10.mono cc9.size)
  clear b10 k9 k69 k8 hl9 hw9 cc9
  obtain ⟨ae, hae⟩ : ∃ ae, Et.addE l ⟨xn, xi, xt⟩ = ae := ⟨_, rfl⟩
  obtain ⟨al, hal⟩ : ∃ al, Et.addL l ⟨xn, xi, xt⟩ = al := ⟨_, rfl⟩
  rw [hae]
  rw [hal] at hc10
  have HAE := Lib.hid hae
  have HAL := Lib.hid hal
  clear hae hal
  obtain ⟨Ac, cp, rfl, _, _, _⟩ := hc10.open_
  have p0 := k10.cell 0
  have p1 := k10.cell 1
  have p2 := k10.cell 2
  go_wp2_with fail
  refine (addRR_any _ l xn xi xt w10 hl10 HSH.out hxn).mono ?_
  rintro e w11 ⟨ud, rfl, hd11, b11⟩
  rw [HAL.out] at hd11
  rw [HAE.out]
  have hl11 := (hl10.below b11).more b11.size
  have hw11 := (hw10.below b11).more b11.size
  have hc11 := (hc10.below b11).more b11.size
  have k11 := k10.ext b11
  have k611 := k610.ext b11
  have k811 := k810.ext b11
  have cc11 := cc10.trans (b11.mono cc10.size)
  clear b11 k10 k610 k810 hl10 hw10 hc10 cc10 p0 p1 p2
  obtain ⟨Ad, dp, rfl, _, _, _⟩ := hd11.open_
  have p0 := k11.cell 0
  go_wp2_with fail
  refine (take_any _ l xn w11 hl11 HSH.out hxn).mono ?_
  rintro e w12 ⟨ug, rfl, hg12, b12⟩
  rw [HFE.out]
  obtain ⟨tk, htk⟩ : ∃ tk, Et.takeL l xn = tk := ⟨_, rfl⟩
  rw [htk] at hg12
  have HTK := Lib.hid htk
  clear htk
  have hl12 := (hl11.below b12).more b12.size
  have hw12 := (hw11.below b12).more b12.size
  have hc12 := (hc11.below b12).more b12.size
  have hd12 := (hd11.below b12).more b12.size
  have k12 := k11.ext b12
  have k612 := k611.ext b12
  have k812 := k811.ext b12
  have cc12 := cc11.trans (b12.mono cc11.size)
  clear b12 k11 k611 k811 hl11 hw11 hc11 hd11 cc11 p0
  obtain ⟨Ag, gp, rfl, _, _, _⟩ := hg12.open_
  have p0 := k12.cell 0
  go_wp2_with fail
  refine (takeR_any _ l xn w12 hl12 HSH.out hxn).mono ?_
  rintro e w13 ⟨ui, rfl, hi13, b13⟩
  rw [HFE.out]
  rw [HTK.out] at hi13
  have hl13 := (hl12.below b13).more b13.size
  have hw13 := (hw12.below b13).more b13.size
  have hc13 := (hc12.below b13).more b13.size
  have hd13 := (hd12.below b13).more b13.size
  have hg13 := (hg12.below b13).more b13.size
  have k613 := k612.ext b13
  have k813 := k812.ext b13
  have cc13 := cc12.trans (b13.mono cc12.size)
  clear b13 k12 k612 k812 hl12 hw12 hc12 hd12 hg12 cc12 p0
  obtain ⟨Ai, ip, rfl, _, _, _⟩ := hi13.open_
  have q0 := k613.cell 0
  have q1 := k613.cell 1
  have q2 := k613.cell 2
  have r0 := k813.cell 0
  have r1 := k813.cell 1
  have r2 := k813.cell 2
  go_wp2_with fail
  refine (same_any _ _ al al w13 hc13 hd13).mono ?_
  rintro e w14 ⟨rfl, b14⟩
  rw [decide_eq_true (rfl : al = al)]
  have hl14 := (hl13.below b14).more b14.size
  have hw14 := (hw13.below b14).more b14.size
  have hg14 := (hg13.below b14).more b14.size
  have hi14 := (hi13.below b14).more b14.size
  have cc14 := cc13.trans (b14.mono cc13.size)
  clear b14 k613 k813 hl13 hw13 hc13 hd13 hg13 hi13 cc13 q0 q1 q2 r0 r1 r2
  go_wp2_with fail
  refine (same_any _ _ tk tk w14 hg14 hi14).mono ?_
  rintro e w15 ⟨rfl, b15⟩
  rw [decide_eq_true (rfl : tk = tk)]
  have hl15 := (hl14.below b15).more b15.size
  have hw15 := (hw14.below b15).more b15.size
  have cc15 := cc14.trans (b15.mono cc14.size)
  clear b15 hl14 hw14 hg14 hi14 cc14
  go_wp2_with fail
  refine (same_any _ _ l l w15 hl15 hw15).mono ?_
  rintro e w16 ⟨rfl, b16⟩
  rw [decide_eq_true (rfl : l = l)]
  have cc16 := cc15.trans (b16.mono cc15.size)
  clear b16 hl15 hw15 cc15
  go_wp2_with fail
  refine (awake_any w16).mono ?_
  rintro e w17 ⟨rfl, b17⟩
  go_wp2
  go_ret
  exact ⟨rfl, cc16.trans (b17.mono cc16.size)⟩

/-- What the walk gives, for every argument and every world that holds the table. -/
theorem entryRules_contract (H : Type) (enc : TypeId × Value → H) (W : World) (base : Nat) (args : Array Value) (ds gs : List (DataW H)) (before : List MemPlace)
    (hval : ∀ (j : Nat) t v, Try.f4.params[j]? = some t → args[j]? = some v → Value.okWide Try.prog W .any base t v)
    (hW : DataW.Whole enc Try.prog Try.f4.params.toList Rows.entryRulesSpec.vars false W args.toList ds gs before) :
    Calls Try.prog 4 args W fun e W' => ∃ v, e = .returned v ∧ Rows.entryRulesSpec.post enc Try.prog Try.f4 false true false false W args v W' := by
  have hW' := hW
  obtain ⟨p, q, hA0, hV, hps, hfz, hnd⟩ := hW
  have hA : DataW.TrodAll enc Try.prog W 0 (fun _ => true) true Try.f4.params.toList args.toList ds p := hA0
  rw [Try.params4] at hA hval
  obtain ⟨v0, vs0, d0, ds0, p0, q0, hargs, rfl, rfl, h0, r0⟩ := trodAll_cons hA
  obtain ⟨v1, vs1, d1, ds1, p1, q1, rfl, rfl, rfl, h1, r1⟩ := trodAll_cons r0
  obtain ⟨rfl, rfl, rfl⟩ := trodAll_nil r1
  obtain rfl : args = #[v0, v1] := by cases args; simp_all
  obtain ⟨rfl, rfl⟩ := trodVars_none hV
  obtain ⟨l0, b0⟩ := entries_of_trod (hval 0 22 v0 rfl rfl) h0
  obtain ⟨x1, rfl⟩ := entry_of_trod (hval 1 28 v1 rfl rfl) h1
  clear hA0
  refine (entryRules_walk W v0 l0 x1 b0).mono fun e W' ⟨he, hb⟩ => ?_
  subst he
  exact ⟨_, rfl, law_post laidOut (by rw [Try.params4]; decide +kernel) rfl Try.underlying4 rfl rfl hW' hb⟩

set_option maxRecDepth 100000 in
theorem entryRules_lifted (os : Os) (started : os.Started) (H : Type) (enc : TypeId × Value → H) :
    ReturnsInHanded {} Try.checked os 4 .any (Rows.entryRulesSpec.pre6 enc Try.prog Try.f4 Rows.entryRulesRow.domain false) (Rows.entryRulesSpec.post enc Try.prog Try.f4 false true false false) := by
  refine returnsInHanded_of_change (C := Try.checked) own started (by kernel_rfl) Try.func4
    (ChangeSpec.witness6 (enc := enc) (C := Try.checked) false ⟨#[], #[.slice none 0 0, .agg #[.string .empty, .int .i64 0, .int .i64 0]], []⟩ 8 (by kernel_rfl) (by kernel_rfl) (by kernel_rfl) (by kernel_rfl)) ?_
  intro W base args ds gs before hval hW _ _
  exact entryRules_contract H enc W base args ds gs before hval hW

theorem entryRules_holds : Rows.EntryRulesSaid :=
  OpenClaim.holds_of_wide 4 Try.f4 rfl rfl rfl rfl rfl rfl rfl ⟨rfl, rfl, rfl, rfl, rfl⟩ rfl rfl rfl rfl rfl (by kernel_rfl) Try.func4 (by kernel_rfl)
    (of_decide_eq_true (by kernel_rfl)) (by unfold Func.isWrapper; first | (rw [if_pos (by decide +kernel)]; kernel_rfl) | (rw [if_neg (by decide +kernel)]; exact ⟨rfl, rfl⟩))
    (fun os started H enc _ => entryRules_lifted os started H enc)

end Go.Proofs.Ytahkhieoabbaaaa
